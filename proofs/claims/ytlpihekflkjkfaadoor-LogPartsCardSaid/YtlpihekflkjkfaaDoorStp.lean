/- Steps as a law's argument, opened. -/
import Derived.Test.YtlpihekflkjkfaaDoorOpenP
import Derived.Test.YtlpihekflkjkfaaDoorLg8
namespace Go.Proofs.YtlpihekflkjkfaaDoor
open Go.RowKit

section
variable {H : Type} {enc : TypeId × Value → H} {P : Program} {w : World}
theorem leaf_one {k : LK} {v : Value} (h : LeafOK enc P w k v) (hu : ∀ t, k = .l t → ∃ e, P.underlying t = some (.slice e)) : v.oneCell' = true := by
  cases k with
  | b => obtain ⟨q, rfl⟩ := h; rfl
  | i k => obtain ⟨q, rfl, _⟩ := h; rfl
  | s => obtain ⟨q, rfl, _⟩ := h; rfl
  | l t =>
    obtain ⟨m, x, hx⟩ := h
    obtain ⟨e, he⟩ := hu t rfl
    rcases DataW.trod_slice he hx with ⟨hc, _⟩ | ⟨a, len, cap, _, _, _, _, hc, _⟩ <;> cases hc <;> rfl
/-- A list of which nothing more is told. -/
theorem open_any {ks : List LK} {n : Nat} {t e : TypeId} {v : Value} (hlv : leaves P n e = some ks) (hk : ∀ k ∈ ks, ∀ t, k ≠ .l t) (ht : P.underlying t = some (.slice e)) (hce : P.cellsOf e = ks.length) (hn : 0 < ks.length) (hs : SizeOf P e ks.length)
    (h : Trd enc P w t [v]) : ∃ xs : List AV, RelV P (Gh.start w) w (.list false e xs) v := by
  obtain ⟨l, _, _, hr⟩ := open_row (α := { us : List Value // us.length = ks.length ∧ ∀ u ∈ us, u.oneCell' = true }) ⟨List.replicate ks.length (.bool true), by simp, fun u hu => by rw [List.eq_of_mem_replicate hu]; rfl⟩
    (A := fun y => .agg (y.1.map AV.lit)) (φ := fun _ => True) ht hce hn hs
    (fun y => ⟨by show (y.1.map AV.lit).length = _; rw [List.length_map]; exact y.2.1, fun c hc => by
      obtain ⟨u, hu, rfl⟩ := List.mem_map.1 hc
      exact y.2.2 u hu⟩)
    (fun cs hcs => by
      obtain ⟨h1, h2⟩ := leaves_ok n e ks cs hlv hcs
      refine ⟨⟨cs, h1, fun u hu => ?_⟩, trivial, fun j c hc => ?_⟩
      · obtain ⟨j, hj, rfl⟩ := List.getElem_of_mem hu
        obtain ⟨v, hv, hl⟩ := h2 j (ks[j]'(by omega)) (List.getElem?_eq_getElem _)
        rw [List.getElem?_eq_getElem hj] at hv
        cases hv
        exact leaf_one hl fun t ht' => absurd ht' (hk _ (List.getElem_mem _) t)
      · have hc' : (cs.map AV.lit)[j]? = some c := hc
        rw [List.getElem?_map] at hc'
        obtain ⟨u, hu, rfl⟩ := Option.map_eq_some_iff.1 hc'
        exact ⟨u, hu, .lit _⟩) h
  exact ⟨_, hr⟩
end

def EvB (e : Ev) : Prop := e.id.length ≤ maxLen ∧ (-9223372036854775808 ≤ e.n ∧ e.n ≤ 9223372036854775807)
section
variable {H : Type} {enc : TypeId × Value → H} {w : World}
theorem open_evs {v : Value} (h : Trd enc Tryd.prog w 51 [v]) : ∃ l : List Ev, (∀ e ∈ l, EvB e) ∧ l.length ≤ maxLen ∧ RelV Tryd.prog (Gh.start w) w (.list false 34 (l.map encE)) v := by
  refine open_row e0 Tryd.underlying51 (n := 4) (by kernel_rfl) (by omega) sizeOf_34 (fun y => ⟨rfl, fun c hc => ?_⟩) (fun cs hcs => ?_) h
  · simp only [encE, AV.cells, List.mem_cons, List.mem_nil_iff, or_false] at hc
    rcases hc with rfl | rfl | rfl | rfl <;> rfl
  · have hl0 := leaves_ok 6 34 [.i .i64, .s, .i .i64, .i .i64] cs (by kernel_rfl) hcs
    obtain ⟨_, _, rfl, ⟨z0, rfl, _⟩, hl1⟩ := hl0.cons
    obtain ⟨_, _, rfl, ⟨z1, rfl, w1⟩, hl2⟩ := hl1.cons
    obtain ⟨_, _, rfl, ⟨z2, rfl, _⟩, hl3⟩ := hl2.cons
    obtain ⟨_, _, rfl, ⟨z3, rfl, w3⟩, hl4⟩ := hl3.cons
    obtain rfl := hl4.nil
    refine ⟨⟨z0, z1, z2, z3⟩, ⟨w1, i64_le w3⟩, fun j c hc => ?_⟩
    match j, hc with
    | 0, hc | 2, hc | 3, hc => cases hc; exact ⟨_, rfl, .lit _⟩
    | 1, hc => cases hc; exact ⟨_, rfl, .str _⟩
    | _ + 4, hc => cases hc
def StpB (x : Stp) : Prop := (∀ e ∈ x.evs, EvB e) ∧ x.evs.length ≤ maxLen
theorem open_steps {v : Value} (h : Trd enc Tryd.prog w 48 [v]) : ∃ l : List Stp, (∀ x ∈ l, StpB x) ∧ l.length ≤ maxLen ∧ RelV Tryd.prog (Gh.start w) w (.list false 57 (l.map encS)) v := by
  refine open_row s0 Tryd.underlying48 (n := 7) (by kernel_rfl) (by omega) sizeOf_57 (fun y => ⟨rfl, fun c hc => ?_⟩) (fun cs hcs => ?_) h
  · simp only [encS, AV.cells, List.mem_cons, List.mem_nil_iff, or_false] at hc
    rcases hc with rfl | rfl | rfl | rfl | rfl | rfl | rfl <;> rfl
  · have hl0 := leaves_ok 6 57 [.i .i64, .l 51, .i .i64, .l 52, .b, .b, .b] cs (by kernel_rfl) hcs
    obtain ⟨_, _, rfl, ⟨z0, rfl, _⟩, hl1⟩ := hl0.cons
    obtain ⟨_, _, rfl, w1, hl2⟩ := hl1.cons
    obtain ⟨_, _, rfl, ⟨z2, rfl, _⟩, hl3⟩ := hl2.cons
    obtain ⟨_, _, rfl, w3, hl4⟩ := hl3.cons
    obtain ⟨_, _, rfl, ⟨z4, rfl⟩, hl5⟩ := hl4.cons
    obtain ⟨_, _, rfl, ⟨z5, rfl⟩, hl6⟩ := hl5.cons
    obtain ⟨_, _, rfl, ⟨z6, rfl⟩, hl7⟩ := hl6.cons
    obtain rfl := hl7.nil
    obtain ⟨es, he1, he2, he3⟩ := open_evs w1
    obtain ⟨ps, hp⟩ := open_any (n := 6) (e := 199) (ks := [.s, .i .i64, .b, .i .i64, .i .i64, .i .i64, .i .i64, .i .i64, .i .i64, .s, .i .i64, .i .i64]) (by kernel_rfl) (by intro k hk t e; subst e; simp at hk) Tryd.underlying52 (by kernel_rfl) (by decide) sizeOf_199 w3
    refine ⟨⟨z0, es, z2, ps, z4, z5, z6⟩, ⟨he1, he2⟩, fun j c hc => ?_⟩
    match j, hc with
    | 0, hc | 2, hc | 4, hc | 5, hc | 6, hc => cases hc; exact ⟨_, rfl, .lit _⟩
    | 1, hc => cases hc; exact ⟨_, rfl, he3⟩
    | 3, hc => cases hc; exact ⟨_, rfl, hp⟩
    | _ + 7, hc => cases hc
set_option maxRecDepth 20000 in
theorem open_relSteps {H : Type} {enc : TypeId × Value → H} {r : Reach} {b0 : Nat} {v : Value} {d : DataW H} {ps : List MemPlace} (hv : Value.okWide Tryd.prog w r b0 48 v) (h : DataW.Trod enc Tryd.prog w 0 (fun _ => true) true 48 v d ps) :
    ∃ l : List Stp, (∀ x ∈ l, StpB x) ∧ l.length ≤ maxLen ∧ RelV Tryd.prog (Gh.start w) w (.list false 57 (l.map encS)) v := by
  obtain ⟨a0, len, cap, rfl⟩ := Go.WideShapes.okWide_slice Tryd.underlying48 hv
  obtain ⟨fuel, hf⟩ := h
  exact open_steps ⟨fuel, _, hf⟩
end
end Go.Proofs.YtlpihekflkjkfaaDoor
