/- Arrays of bytes as values: '==' of two, as one Bool. Whatever program. -/
import Derived.ChangeKeysEq
import Derived.Laws.StructEq
namespace Go.ArrEq

set_option linter.unusedVariables false
set_option linter.unusedSimpArgs false
/-- A byte. -/
def isU8 : Value → Bool
  | .int .u8 _ => true
  | _ => false
def numOf : Value → Int
  | .int _ n => n
  | _ => 0
/-- So many bytes. -/
def u8s (n : Nat) (xs : Array Value) : Bool := xs.size == n && xs.all isU8
/-- Are two rows of bytes the same? -/
def arrEq (n : Nat) (xs ys : Array Value) : Bool := (List.range n).all fun j => numOf (xs[j]?.getD .nilIface) == numOf (ys[j]?.getD .nilIface)
section
variable {P : Program} (w : World)
theorem u8s_at {n : Nat} {xs : Array Value} (h : u8s n xs = true) {j : Nat} (hj : j < n) : xs[j]? = some (.int .u8 (numOf (xs[j]?.getD .nilIface))) := by
  simp only [u8s, Bool.and_eq_true, beq_iff_eq] at h
  have hj' : j < xs.size := by omega
  have h1 := Array.all_eq_true.1 h.2 j hj'
  rw [Array.getElem?_eq_getElem hj'] 
  simp only [Option.getD_some]
  revert h1
  generalize xs[j] = v
  intro h1
  unfold isU8 at h1
  split at h1
  · rfl
  · cases h1
theorem run_eqItems_bytes {d : Nat} {e : TypeId} (he : P.underlying e = some (.int .u8)) (hp : P.plainKey e = true) {xs ys : Array Value} {n : Nat} (hx : u8s n xs = true) (hy : u8s n ys = true) :
    ∀ is : List Nat, (∀ j ∈ is, j < n) → (Op.eqItems (d + 1) e 1 xs ys is).run P w = .ok (is.all fun j => numOf (xs[j]?.getD .nilIface) == numOf (ys[j]?.getD .nilIface)) w
  | [], _ => by simp [Op.eqItems]
  | i :: is, hi => by
    have h1 := run_part_plain (w := w) hp (xs := xs) (off := i * 1) (by rw [Nat.mul_one]; exact u8s_at hx (hi i (by simp)))
    have h2 := run_part_plain (w := w) hp (xs := ys) (off := i * 1) (by rw [Nat.mul_one]; exact u8s_at hy (hi i (by simp)))
    have h3 := run_eqItems_bytes (d := d) he hp hx hy is (fun j hj => hi j (by simp [hj]))
    have h4 := run_equalIn_int (P := P) (w := w) d e .u8 .u8 (numOf (xs[i]?.getD .nilIface)) (numOf (ys[i]?.getD .nilIface)) he
    simp only [Op.eqItems, Sem.run_bind, h1, h2, h4, Result.andThen_ok, List.all_cons]
    cases (numOf (xs[i]?.getD .nilIface) == numOf (ys[i]?.getD .nilIface))
    · simp
    · simpa using h3
theorem run_equalIn_bytes {d : Nat} {t e : TypeId} {n : Nat} {i : TypeInfo} (hu : P.underlying t = some (.array n e)) (hi : P.info? e = some i) (he : P.underlying e = some (.int .u8)) (hc : P.cellsOf e = 1) (hp : P.plainKey e = true)
    {xs ys : Array Value} (hx : u8s n xs = true) (hy : u8s n ys = true) : (Op.equalIn (d + 2) t (.agg xs) (.agg ys)).run P w = .ok (arrEq n xs ys) w := by
  rw [run_equalIn_array w (d + 1) xs ys hu hi, hc]
  exact run_eqItems_bytes w he hp hx hy _ (fun j hj => List.mem_range.1 hj)
theorem run_eql_bytes {t e : TypeId} {n : Nat} {i : TypeInfo} (hu : P.underlying t = some (.array n e)) (hi : P.info? e = some i) (he : P.underlying e = some (.int .u8)) (hc : P.cellsOf e = 1) (hp : P.plainKey e = true)
    {xs ys : Array Value} (hx : u8s n xs = true) (hy : u8s n ys = true) : (binOp .eql t (.agg xs) (.agg ys)).run P w = .ok (.bool (arrEq n xs ys)) w := by
  rw [run_eql_struct, run_equalIn_bytes (d := 9998) w hu hi he hc hp hx hy]
  rfl
/-- A struct of a text and an id, as a value. -/
def isEnt (xs : Array Value) : Bool := (match xs[0]? with | some (Value.string _) => true | _ => false) && u8s 32 (xs.extract 1 33)
def textOf (xs : Array Value) : ByteArray := match xs[0]? with | some (Value.string s) => s | _ => ⟨#[]⟩
def entEq (xs ys : Array Value) : Bool := (textOf xs).toList == (textOf ys).toList && arrEq 32 (xs.extract 1 33) (ys.extract 1 33)
theorem ent_text {xs : Array Value} (h : isEnt xs = true) : xs[0]? = some (.string (textOf xs)) := by
  unfold isEnt at h
  unfold textOf
  rw [Bool.and_eq_true] at h
  revert h
  rcases xs[0]? with _ | v
  · intro h; exact absurd h.1 (by simp)
  · cases v <;> intro h <;> first | rfl | exact absurd h.1 (by simp)
theorem run_equalIn_ent {d : Nat} {t ts ta e : TypeId} {f0 f1 : Field} {i ia : TypeInfo} (hst : P.underlying t = some (.struct #[f0, f1])) (hp : P.stoodInHeld t = false)
    (n0 : f0.name ≠ "_") (n1 : f1.name ≠ "_") (o0 : f0.offset = 0) (o1 : f1.offset = 1) (t0 : f0.type = ts) (t1 : f1.type = ta) (hs : P.underlying ts = some .string)
    (hu : P.underlying ta = some (.array 32 e)) (hia : P.info? ta = some ia) (hca : P.cellsOf ta = 32) (hi : P.info? e = some i) (he : P.underlying e = some (.int .u8)) (hc : P.cellsOf e = 1) (hpe : P.plainKey e = true)
    {xs ys : Array Value} (hx : isEnt xs = true) (hy : isEnt ys = true) : (Op.equalIn (d + 3) t (.agg xs) (.agg ys)).run P w = .ok (entEq xs ys) w := by
  have hf : P.fieldsOf t = #[f0, f1] := by simp [Program.fieldsOf, hst]
  have ht : P.underlying t = some (.struct (P.fieldsOf t)) := by rw [hf]; exact hst
  have ux : u8s 32 (xs.extract 1 33) = true := (Bool.and_eq_true_iff.1 hx).2
  have uy : u8s 32 (ys.extract 1 33) = true := (Bool.and_eq_true_iff.1 hy).2
  have tx := ent_text hx
  have ty := ent_text hy
  have pa : ∀ zs : Array Value, (part ta zs 1).run P w = .ok (.agg (zs.extract 1 33)) w := fun zs => by
    simp [part, isAgg, Sem.run_bind, run_underlying hu, run_sizeOf w hia, hca]
  have ps : ∀ (zs : Array Value) (s : ByteArray), zs[0]? = some (.string s) → (part ts zs 0).run P w = .ok (.string s) w := fun zs s h => by
    simp [part, isAgg, Sem.run_bind, run_underlying hs, h]
  have h1 := run_equalIn_bytes w (d := d) hu hi he hc hpe ux uy
  have h0 := run_equalIn_string (P := P) (w := w) (d + 1) ts (textOf xs) (textOf ys) hs
  rw [run_equalIn_struct w (d + 2) t xs ys ht hp, hf]
  simp only [List.toList_toArray, Op.eqFields, if_pos n0, if_pos n1, Sem.run_bind, t0, t1, o0, o1, pa, ps _ _ tx, ps _ _ ty, Result.andThen_ok, h0, h1, Sem.run_pure]
  unfold entEq
  cases ((textOf xs).toList == (textOf ys).toList)
  · simp
  · simp only [Bool.true_and]
    simp [Op.eqFields, n1, o1, t1, pa, h1]
    cases (arrEq 32 (xs.extract 1 33) (ys.extract 1 33)) <;> simp
end
end Go.ArrEq
