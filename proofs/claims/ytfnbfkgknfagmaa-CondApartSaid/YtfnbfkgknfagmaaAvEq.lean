/- Abstract values: == and != on structs and arrays, whatever the type. -/
import Derived.Test.YtfnbfkgknfagmaaAvDr
import Derived.Laws.StructEq
import Derived.ChangeKeysEq
namespace Go.Proofs.Ytfnbfkgknfagmaa
open Go.RowKit

def eqFs (rec : TypeId → List Value → List Value → Option Bool) (sz : TypeId → Nat) (xs ys : List Value) : List Field → Option Bool
  | [] => some true
  | f :: r =>
    if f.name == "_" then none else
    match rec f.type ((xs.drop f.offset).take (sz f.type)) ((ys.drop f.offset).take (sz f.type)), eqFs rec sz xs ys r with
    | some a, some b => some (a && b)
    | _, _ => none
def eqIs (rec : List Value → List Value → Option Bool) (sz : Nat) (xs ys : List Value) : List Nat → Option Bool
  | [] => some true
  | i :: r =>
    match rec ((xs.drop (i * sz)).take sz) ((ys.drop (i * sz)).take sz), eqIs rec sz xs ys r with
    | some a, some b => some (a && b)
    | _, _ => none
/-- What '==' gives at two values whose cells these are: bools, integers, strings; structs and arrays of such. -/
def eqV (P : Program) : Nat → TypeId → List Value → List Value → Option Bool
  | 0, _, _, _ => none
  | d + 1, t, xs, ys =>
    match P.underlying t with
    | some .bool => match xs, ys with | [.bool a], [.bool b] => some (a == b) | _, _ => none
    | some (.int _) => match xs, ys with | [.int k a], [.int k' b] => if k = k' then some (a == b) else none | _, _ => none
    | some .string => match xs, ys with | [.string a], [.string b] => some (a.data.toList == b.data.toList) | _, _ => none
    | some (.struct fs) => if P.stoodInHeld t then none else eqFs (eqV P d) P.cellsOf xs ys fs.toList
    | some (.array n e) => if (P.info? e).isNone then none else eqIs (eqV P d e) (P.cellsOf e) xs ys (List.range n)
    | _ => none

/-- The value of type t whose cells these are. -/
def RepV (P : Program) (t : TypeId) (xs : List Value) (x : Value) : Prop :=
  ∃ D, P.underlying t = some D ∧ if TypeDesc.agg D then x = .agg xs.toArray else xs = [x]

section
variable {P : Program}
theorem eqV_und {d : Nat} {t : TypeId} {xs ys : List Value} {b : Bool} (h : eqV P d t xs ys = some b) : ∃ D, P.underlying t = some D ∧ (TypeDesc.agg D = false → ∃ u v, xs = [u] ∧ ys = [v]) := by
  cases d with
  | zero => cases h
  | succ d =>
    unfold eqV at h
    cases hu : P.underlying t with
    | none => simp [hu] at h
    | some D =>
      refine ⟨D, rfl, fun ha => ?_⟩
      rw [hu] at h
      cases D <;> simp only [TypeDesc.agg] at ha h <;> first | cases h | cases ha | skip
      all_goals (split at h <;> first | exact ⟨_, _, rfl, rfl⟩ | (cases h; done))

theorem part_rep {e : TypeId} {D : TypeDesc} (hu : P.underlying e = some D) (arr : List Value) (off : Nat) (hp : TypeDesc.agg D = false → ∃ u, (arr.drop off).take (P.cellsOf e) = [u]) :
    ∃ u, RepV P e ((arr.drop off).take (P.cellsOf e)) u ∧ ∀ w : World, (part e arr.toArray off).run P w = .ok u w := by
  obtain ⟨i, hi⟩ := info_of_underlying hu
  cases hA : TypeDesc.agg D with
  | true =>
    refine ⟨.agg ((arr.drop off).take (P.cellsOf e)).toArray, ⟨D, hu, by rw [hA]; rfl⟩, fun w => ?_⟩
    simp [part, run_agg hu, hA, Result.andThen, run_sizeOf w hi, List.extract_eq_take_drop]
  | false =>
    obtain ⟨u, hu'⟩ := hp hA
    refine ⟨u, ⟨D, hu, by rw [hA]; exact hu'⟩, fun w => ?_⟩
    have e1 : arr[off]? = some u := by
      have : ((arr.drop off).take (P.cellsOf e))[0]? = some u := by rw [hu']; rfl
      rw [List.getElem?_take] at this
      split at this
      · rw [List.getElem?_drop] at this; simpa using this
      · cases this
    simp [part, run_agg hu, hA, Result.andThen, e1]

theorem eqV_run (d0 : Nat) : ∀ (d : Nat) (t : TypeId) (xs ys : List Value) (b : Bool), eqV P d t xs ys = some b → ∀ x y, RepV P t xs x → RepV P t ys y → ∀ w : World, (Op.equalIn (d0 + d) t x y).run P w = .ok b w
  | 0, _, _, _, _, h => by cases h
  | d + 1, t, xs, ys, b, h => by
    intro x y ⟨D, hu, hx⟩ ⟨D', hu', hy⟩ w
    rw [hu] at hu'
    cases hu'
    unfold eqV at h
    rw [hu] at h
    rw [show d0 + (d + 1) = (d0 + d) + 1 from rfl]
    cases D <;> simp only [TypeDesc.agg, if_true, Bool.false_eq_true, if_false] at hx hy h <;> try (cases h; done)
    case bool =>
      subst hx; subst hy
      split at h
      · rename_i a b e1 e2; cases e1; cases e2; cases h
        exact Go.run_equalIn_bool' w _ t _ _ hu
      · cases h
    case int k0 =>
      subst hx; subst hy
      split at h
      · rename_i a b e1 e2; cases e1; cases e2
        split at h
        · rename_i e; subst e; cases h; exact run_equalIn_int w _ t _ k0 _ _ hu
        · cases h
      · cases h
    case string =>
      subst hx; subst hy
      split at h
      · rename_i a b e1 e2; cases e1; cases e2; cases h
        rw [run_equalIn_string w _ t _ _ hu, ByteArray.toList_eq, ByteArray.toList_eq]
      · cases h
    case struct fs =>
      subst hx; subst hy
      split at h
      · cases h
      rename_i hp
      have hfs : P.fieldsOf t = fs := by simp [Program.fieldsOf, hu]
      rw [run_equalIn_struct w _ t _ _ (by rw [hfs]; exact hu) (by simpa using hp), hfs]
      clear hu hfs hp
      generalize fs.toList = fl at h ⊢
      induction fl generalizing b with
      | nil => cases h; simp [Op.eqFields]
      | cons f r ih =>
        unfold eqFs at h
        split at h
        · cases h
        rename_i hn
        split at h
        · rename_i a c h1 h2
          cases h
          obtain ⟨D1, g1, g2⟩ := eqV_und h1
          obtain ⟨u, ru, pu⟩ := part_rep g1 xs f.offset (fun hA => by obtain ⟨u, v, e1, e2⟩ := g2 hA; exact ⟨u, e1⟩)
          obtain ⟨v, rv, pv⟩ := part_rep g1 ys f.offset (fun hA => by obtain ⟨u, v, e1, e2⟩ := g2 hA; exact ⟨v, e2⟩)
          have hq := eqV_run d0 d f.type _ _ a h1 u v ru rv w
          have hn' : f.name ≠ "_" := by simpa using hn
          simp only [Op.eqFields, hn', ne_eq, not_false_eq_true, if_true, Sem.run_bind, pu w, pv w, Result.andThen_ok, hq]
          cases a
          · simp
          · simpa using ih c h2
        · cases h
    case array n e =>
      subst hx; subst hy
      split at h
      · cases h
      rename_i hi
      obtain ⟨i, hi⟩ : ∃ i, P.info? e = some i := by cases hh : P.info? e <;> simp_all
      rw [Go.run_equalIn_array w _ _ _ hu hi]
      clear hu
      generalize List.range n = fl at h ⊢
      induction fl generalizing b with
      | nil => cases h; simp [Op.eqItems]
      | cons j r ih =>
        unfold eqIs at h
        split at h
        · rename_i a c h1 h2
          cases h
          obtain ⟨D1, g1, g2⟩ := eqV_und h1
          obtain ⟨u, ru, pu⟩ := part_rep g1 xs (j * P.cellsOf e) (fun hA => by obtain ⟨u, v, e1, e2⟩ := g2 hA; exact ⟨u, e1⟩)
          obtain ⟨v, rv, pv⟩ := part_rep g1 ys (j * P.cellsOf e) (fun hA => by obtain ⟨u, v, e1, e2⟩ := g2 hA; exact ⟨v, e2⟩)
          have hq := eqV_run d0 d e _ _ a h1 u v ru rv w
          simp only [Op.eqItems, Sem.run_bind, pu w, pv w, Result.andThen_ok, hq]
          cases a
          · simp
          · simpa using ih c h2
        · cases h

/-- A cell that holds no memory. -/
def conc1 : AV → Option Value
  | .lit v => some v
  | .str l => some (.string ⟨l.toArray⟩)
  | _ => none
def concL : List AV → Option (List Value)
  | [] => some []
  | c :: r => match conc1 c, concL r with | some u, some us => some (u :: us) | _, _ => none

theorem concL_rel {G : Gh} {w : World} : ∀ {cs : List AV} {us vs : List Value}, concL cs = some us → vs.length = cs.length → (∀ (j : Nat) (c : AV) (v : Value), cs[j]? = some c → vs[j]? = some v → RelV P G w c v) → vs = us
  | [], us, vs, h, hl, hr => by cases h; exact List.length_eq_zero_iff.1 hl
  | c :: r, us, [], h, hl, hr => by simp at hl
  | c :: r, us, v :: vs, h, hl, hr => by
    unfold concL at h
    split at h
    · rename_i u0 us0 h1 h2
      cases h
      have e0 := hr 0 c v rfl rfl
      have e1 := concL_rel h2 (by simpa using hl) (fun j c v e1 e2 => hr (j + 1) c v (by simpa using e1) (by simpa using e2))
      rw [e1]
      unfold conc1 at h1
      split at h1
      · cases h1; rw [relV_lit e0]
      · cases h1; rw [relV_str e0]
      · cases h1
    · cases h

variable {n : Nat} {s : St} {o : Oper} {x y : Operand} {t t' : TypeId} {d : Nat}
theorem RelSt.evAgg {G : Gh} {a : Act} {w : World} {cs : List AV} {us : List Value} (h : RelSt P G n s a w) (hx : s.eval x = .agg cs) (hxc : ∃ r, x = .tmp r) (hc : concL cs = some us) : a.eval x = .agg us.toArray := by
  obtain ⟨r, rfl⟩ := hxc
  have hp := h.slot r
  rw [show s.get r = .agg cs from hx] at hp
  generalize hav : a.tmps.getD r undef = va at hp
  have hp' : RelV P G w (.agg cs) va := hp
  cases hp' with
  | agg _ vs hl hr =>
    have := concL_rel hc hl hr
    subst this
    exact hav

/-- Two structs, or arrays, are the same, or not. -/
theorem Reader.eqAgg {op : BinOp} {cs ds : List AV} {us vs : List Value} {b r : Bool} {D : TypeDesc} (m : Nat) (ho : o.op = .binOp op t x y t') (hx : s.eval x = .agg cs) (hy : s.eval y = .agg ds) (hxc : ∃ r, x = .tmp r) (hyc : ∃ r, y = .tmp r)
    (hu : P.underlying t = some D) (ha : TypeDesc.agg D = true) (hg : P.eqGuardType P.depth t = false) (hm : m ≤ 10000)
    (hcx : concL cs = some us) (hcy : concL ds = some vs) (he : eqV P m t us vs = some b) (hop : op = .eql ∧ r = b ∨ op = .neq ∧ r = !b) : Reader P n s o d (.lit (.bool r)) := by
  intro G a w h
  refine ⟨_, lit_toS _, fun w' _ => ?_⟩
  have e1 := h.evAgg hx hxc hcx
  have e2 := h.evAgg hy hyc hcy
  have he' := eqV_run (P := P) (10000 - m) m t us vs b he (.agg us.toArray) (.agg vs.toArray) ⟨D, hu, by rw [ha]; rfl⟩ ⟨D, hu, by rw [ha]; rfl⟩ w'
  rw [show 10000 - m + m = 10000 by omega] at he'
  simp only [execOp, ho, e1, e2]
  have hgu := run_eqGuard_agg (P := P) w' op t x y us.toArray vs.toArray hg
  rcases hop with ⟨rfl, rfl⟩ | ⟨rfl, rfl⟩
  · simp [hgu, run_eql_struct, he']
  · simp [hgu, run_neq_struct, he']
end
end Go.Proofs.Ytfnbfkgknfagmaa
