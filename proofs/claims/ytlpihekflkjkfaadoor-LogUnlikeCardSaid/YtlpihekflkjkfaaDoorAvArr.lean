/- Abstract values: a local array of whole numbers, at an index that isn't known. -/
import Derived.Test.YtlpihekflkjkfaaDoorAvMid
namespace Go.Proofs.YtlpihekflkjkfaaDoor
open Go.RowKit
/-- Cells that are whole numbers. -/
def intsA (cnt : List Int) : List AV := cnt.map fun n => .lit (.int .i64 n)
theorem intsA_len (cnt : List Int) : (intsA cnt).length = cnt.length := by simp [intsA]
theorem loaded_int {cnt : List Int} {m o : Nat} (ho : o = m) (h : m < cnt.length) : loaded false 1 (intsA cnt) o = some (.lit (.int .i64 (cnt.getD m 0))) := by
  subst ho
  unfold loaded intsA
  rw [if_neg (by decide), List.getElem?_map, List.getElem?_eq_getElem h, List.getD_eq_getElem?_getD, List.getElem?_eq_getElem h]; rfl
theorem loaded_ints {cnt : List Int} {n : Nat} (h : cnt.length = n) : loaded true n (intsA cnt) 0 = some (.agg (intsA cnt)) := by
  unfold loaded
  rw [if_pos rfl, if_pos (by rw [intsA_len]; omega), List.drop_zero, List.take_of_length_le (by rw [intsA_len]; omega)]
  congr 2
  unfold intsA
  rw [List.map_map]; rfl
theorem splice_int {cnt : List Int} {m o : Nat} {v : Int} (ho : o = m) (h : m < cnt.length) : splice (intsA cnt) o [.lit (.int .i64 v)] = intsA (cnt.set m v) := by
  subst ho
  unfold splice intsA
  rw [List.set_eq_take_append_cons_drop, if_pos h, List.map_append, List.map_take, List.map_cons, List.map_drop]
  simp
theorem splice_ints {cells : List AV} {cnt : List Int} (h : cells.length = cnt.length) : splice cells 0 (intsA cnt) = intsA cnt := by
  unfold splice
  rw [List.take_zero, List.nil_append, Nat.zero_add, List.drop_eq_nil_of_le (by rw [intsA_len]; omega), List.append_nil]
theorem ints_flat (cnt : List Int) : ∀ c ∈ intsA cnt, c.flat = true := by
  intro c hc
  obtain ⟨z, _, rfl⟩ := List.mem_map.1 hc; rfl
theorem ints_part (cnt : List Int) : (AV.agg (intsA cnt)).part = true := by
  unfold intsA
  simp [AV.part, AV.scalar, Value.oneCell']
section
variable {P : Program} {n : Nat} {s : St} {ops : Array Oper} {rest : List Oper} {Q : St → Prop} {o : Oper} {x y : Operand} {t : TypeId}
theorem AOps.storeLE {v : AV} {cells cells' : List AV} {k0 off size : Nat} (hg : Wants ops s o) (hd : o.dst = none) (ho : o.op = .store t x y) (hx : s.eval x = .lptr k0 off) (hc : lookL s.loc k0 = some cells) (hs : SizeOf P t size) (hy : ArgOf s y v) (hok : Operand.ok y = true) (hp : v.part = true) (hfl : ∀ c ∈ v.cells, c.flat = true)
    (hsz : v.cells.length = size) (hfit : off + size ≤ cells.length) (hn : splice cells off v.cells = cells') (k : AOps P n ops rest { s with loc := (k0, cells') :: s.loc } Q) : AOps P n ops (o :: rest) s Q := by
  subst hn
  exact AOps.storeL hg hd ho hx hc hs hy hok hp hfl hsz hfit k
end
end Go.Proofs.YtlpihekflkjkfaaDoor
