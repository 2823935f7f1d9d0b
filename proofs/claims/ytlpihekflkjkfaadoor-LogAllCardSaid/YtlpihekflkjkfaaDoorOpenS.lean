/- Arguments that are structs by value, opened: thresholds, events. -/
import Derived.Test.YtlpihekflkjkfaaDoorOpenA
import Derived.Test.YtlpihekflkjkfaaDoorLgP
import Derived.Lib.SmallJoins
namespace Go.Proofs.YtlpihekflkjkfaaDoor
open Go.RowKit

section
variable {H : Type} {enc : TypeId × Value → H} {P : Program} {w : World} {r : Reach} {b0 : Nat} {t : TypeId} {v : Value} {d : DataW H} {ps : List MemPlace}
theorem open_struct {fs : Array Field} (ht : P.underlying t = some (.struct fs)) (hv : Value.okWide P w r b0 t v) (h : DataW.Trod enc P w 0 (fun _ => true) true t v d ps) :
    ∃ cs : Array Value, v = .agg cs ∧ cs.size = P.cellsOf t ∧ ∀ (i : Nat) (f : Field), fs[i]? = some f → ∃ n x, DataW.trod enc P w 0 (fun _ => true) true n f.type ((cs.toList.drop f.offset).take (P.cellsOf f.type)) = some x := by
  simp only [Value.okWide, ht] at hv
  obtain ⟨cs, rfl, hs, _⟩ := hv
  obtain ⟨fuel, hf⟩ := h
  obtain ⟨xs, m, _, _, _, hl, hx⟩ := DataW.trod_struct ht hf
  refine ⟨cs, rfl, hs, fun i f hi => ?_⟩
  have h1 := hx i f hi
  have hi' : i < xs.length := by rw [hl]; exact (Array.getElem?_eq_some_iff.1 hi).1
  rw [List.getElem?_eq_getElem hi'] at h1
  exact ⟨m, _, h1⟩
theorem i64_le {n : Int} (h : (Lit.int .i64 n).wf = true) : -9223372036854775808 ≤ n ∧ n ≤ 9223372036854775807 := by
  simp only [Lit.wf, Bool.and_eq_true, decide_eq_true_eq] at h; exact h

theorem open_thr {F0 F1 F2 F3 F4 : Field} (ht : P.underlying t = some (.struct #[F0, F1, F2, F3, F4])) (k0 : P.underlying F0.type = some (.int .i64)) (k1 : P.underlying F1.type = some (.int .i64)) (k2 : P.underlying F2.type = some (.int .i64)) (k3 : P.underlying F3.type = some .bool) (k4 : P.underlying F4.type = some (.int .i64))
    (ho : F0.offset = 0 ∧ F1.offset = 1 ∧ F2.offset = 2 ∧ F3.offset = 3 ∧ F4.offset = 4) (hc : P.cellsOf F0.type = 1 ∧ P.cellsOf F1.type = 1 ∧ P.cellsOf F2.type = 1 ∧ P.cellsOf F3.type = 1 ∧ P.cellsOf F4.type = 1) (hct : P.cellsOf t = 5)
    (hv : Value.okWide P w r b0 t v) (h : DataW.Trod enc P w 0 (fun _ => true) true t v d ps) :
    ∃ (u : Thr), v = .agg #[.int .i64 u.sig, .int .i64 u.pct, .int .i64 u.amt, .bool u.soft, .int .i64 u.gr] ∧ u.amt ≤ 9223372036854775807 := by
  obtain ⟨cs, rfl, hs, hx⟩ := open_struct ht hv h
  obtain ⟨l⟩ := cs
  obtain ⟨a, b, c, e, f, rfl⟩ : ∃ a b c e f, l = [a, b, c, e, f] := by
    match l, hs.trans hct with
    | [a, b, c, e, f], _ => exact ⟨a, b, c, e, f, rfl⟩
  obtain ⟨o0, o1, o2, o3, o4⟩ := ho
  obtain ⟨c0, c1, c2, c3, c4⟩ := hc
  obtain ⟨n0, x0, y0⟩ := hx 0 F0 rfl
  obtain ⟨n1, x1, y1⟩ := hx 1 F1 rfl
  obtain ⟨n2, x2, y2⟩ := hx 2 F2 rfl
  obtain ⟨n3, x3, y3⟩ := hx 3 F3 rfl
  obtain ⟨n4, x4, y4⟩ := hx 4 F4 rfl
  rw [o0, c0] at y0
  rw [o1, c1] at y1
  rw [o2, c2] at y2
  rw [o3, c3] at y3
  rw [o4, c4] at y4
  obtain ⟨z0, e0, _⟩ := DataW.trod_int k0 y0
  obtain ⟨z1, e1, _⟩ := DataW.trod_int k1 y1
  obtain ⟨z2, e2, _, g2⟩ := DataW.trod_int k2 y2
  obtain ⟨z3, e3, _⟩ := DataW.trod_bool k3 y3
  obtain ⟨z4, e4, _⟩ := DataW.trod_int k4 y4
  simp at e0 e1 e2 e3 e4
  subst e0; subst e1; subst e2; subst e3; subst e4
  exact ⟨⟨z0, z1, z2, z3, z4⟩, rfl, (i64_le g2).2⟩

theorem rel_thr {G : Gh} (u : Thr) : RelV P G w (encT u) (.agg #[.int .i64 u.sig, .int .i64 u.pct, .int .i64 u.amt, .bool u.soft, .int .i64 u.gr]) := by
  refine RelV.agg [.lit (.int .i64 u.sig), .lit (.int .i64 u.pct), .lit (.int .i64 u.amt), .lit (.bool u.soft), .lit (.int .i64 u.gr)] [.int .i64 u.sig, .int .i64 u.pct, .int .i64 u.amt, .bool u.soft, .int .i64 u.gr] rfl fun j c x h1 h2 => ?_
  match j, h1, h2 with
  | 0, h1, h2 | 1, h1, h2 | 2, h1, h2 | 3, h1, h2 | 4, h1, h2 => cases h1; cases h2; exact .lit _
  | _ + 5, h1, _ => cases h1

theorem open_ev {F0 F1 F2 F3 : Field} (ht : P.underlying t = some (.struct #[F0, F1, F2, F3])) (k0 : P.underlying F0.type = some (.int .i64)) (k1 : P.underlying F1.type = some .string) (k2 : P.underlying F2.type = some (.int .i64)) (k3 : P.underlying F3.type = some (.int .i64))
    (ho : F0.offset = 0 ∧ F1.offset = 1 ∧ F2.offset = 2 ∧ F3.offset = 3) (hc : P.cellsOf F0.type = 1 ∧ P.cellsOf F1.type = 1 ∧ P.cellsOf F2.type = 1 ∧ P.cellsOf F3.type = 1) (hct : P.cellsOf t = 4)
    (hv : Value.okWide P w r b0 t v) (h : DataW.Trod enc P w 0 (fun _ => true) true t v d ps) :
    ∃ (u : Ev), v = .agg #[.int .i64 u.kind, .string ⟨u.id.toArray⟩, .int .i64 u.sig, .int .i64 u.n] ∧ -9223372036854775808 ≤ u.n ∧ u.n ≤ 9223372036854775807 := by
  obtain ⟨cs, rfl, hs, hx⟩ := open_struct ht hv h
  obtain ⟨l⟩ := cs
  obtain ⟨a, b, c, e, rfl⟩ : ∃ a b c e, l = [a, b, c, e] := by
    match l, hs.trans hct with
    | [a, b, c, e], _ => exact ⟨a, b, c, e, rfl⟩
  obtain ⟨o0, o1, o2, o3⟩ := ho
  obtain ⟨c0, c1, c2, c3⟩ := hc
  obtain ⟨n0, x0, y0⟩ := hx 0 F0 rfl
  obtain ⟨n1, x1, y1⟩ := hx 1 F1 rfl
  obtain ⟨n2, x2, y2⟩ := hx 2 F2 rfl
  obtain ⟨n3, x3, y3⟩ := hx 3 F3 rfl
  rw [o0, c0] at y0
  rw [o1, c1] at y1
  rw [o2, c2] at y2
  rw [o3, c3] at y3
  obtain ⟨z0, e0, _⟩ := DataW.trod_int k0 y0
  obtain ⟨z1, e1, _⟩ := DataW.trod_string k1 y1
  obtain ⟨z2, e2, _⟩ := DataW.trod_int k2 y2
  obtain ⟨z3, e3, _, g3⟩ := DataW.trod_int k3 y3
  simp at e0 e1 e2 e3
  subst e0; subst e1; subst e2; subst e3
  exact ⟨⟨z0, z1.data.toList, z2, z3⟩, by simp, i64_le g3⟩

theorem rel_ev {G : Gh} (u : Ev) : RelV P G w (encE u) (.agg #[.int .i64 u.kind, .string ⟨u.id.toArray⟩, .int .i64 u.sig, .int .i64 u.n]) := by
  refine RelV.agg [.lit (.int .i64 u.kind), .str u.id, .lit (.int .i64 u.sig), .lit (.int .i64 u.n)] [.int .i64 u.kind, .string ⟨u.id.toArray⟩, .int .i64 u.sig, .int .i64 u.n] rfl fun j c x h1 h2 => ?_
  match j, h1, h2 with
  | 0, h1, h2 | 2, h1, h2 | 3, h1, h2 => cases h1; cases h2; exact .lit _
  | 1, h1, h2 => cases h1; cases h2; exact .str _
  | _ + 4, h1, _ => cases h1
end
end Go.Proofs.YtlpihekflkjkfaaDoor
