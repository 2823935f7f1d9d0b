/- A slice of rounds that came in, opened. -/
import Derived.Test.YtkgganfbcfojcaaOpen
import Derived.Deep.Slices
namespace Go.Proofs.Ytkgganfbcfojcaa
open Go.RowKit

/-- v reads as len rounds: what each tells. -/
def RoundsAt (w : World) (v : Value) (len : Nat) (hh mm ff : Nat → Bool) : Prop :=
  len ≤ maxLen ∧ ((v = .slice none 0 0 ∧ len = 0) ∨ ∃ a cap, v = .slice (some a) len cap ∧ len ≤ cap ∧
    ∀ i, i < len → a.spot = none ∧ a.block < w.heap.size ∧ w.cell? ⟨a.block, a.off + i * 3, none⟩ = some (.bool (hh i)) ∧ w.cell? ⟨a.block, a.off + i * 3 + 1, none⟩ = some (.bool (mm i)) ∧ w.cell? ⟨a.block, a.off + i * 3 + 2, none⟩ = some (.bool (ff i)))

section
variable {H : Type} {enc : TypeId × Value → H} {P : Program} {w : World}

theorem cell_add {w : World} {a : Addr} {i : Nat} {u : Value} (h : w.cell? (a.add i) = some u) (hi : 0 < i ∨ a.spot = none) : w.cell? ⟨a.block, a.off + i, none⟩ = some u := by
  unfold Addr.add at h
  split at h
  · rename_i h0
    subst h0
    rcases hi with hi | hi
    · omega
    · obtain ⟨b, o, s⟩ := a
      simp only at hi
      subst hi
      simpa using h
  · exact h

theorem open_rounds {r : Reach} {b0 : Nat} {t e : TypeId} {v : Value} {d : DataW H} {ps : List MemPlace} {F0 F1 F2 : Field} (ht : P.underlying t = some (.slice e)) (he : P.underlying e = some (.struct #[F0, F1, F2]))
    (hb0 : P.underlying F0.type = some .bool) (hb1 : P.underlying F1.type = some .bool) (hb2 : P.underlying F2.type = some .bool)
    (hF : F0.offset = 0 ∧ F1.offset = 1 ∧ F2.offset = 2 ∧ P.cellsOf F0.type = 1 ∧ P.cellsOf F1.type = 1 ∧ P.cellsOf F2.type = 1) (hce : P.cellsOf e = 3)
    (hv : Value.okWide P w r b0 t v) (h : DataW.Trod enc P w 0 (fun _ => true) true t v d ps) : ∃ len hh mm ff, RoundsAt w v len hh mm ff := by
  obtain ⟨a0, len, cap, rfl⟩ := Go.WideShapes.okWide_slice ht hv
  obtain ⟨fuel, hf⟩ := h
  obtain ⟨hF0, hF1, hF2, hC0, hC1, hC2⟩ := hF
  rcases Deep.open_slice ht hf with ⟨hcs, _⟩ | ⟨a, len', cap', m, n, D, Pl, hcs, _, hl, hm, hmm, _, hel⟩
  · simp [Value.cells] at hcs
    obtain ⟨rfl, rfl, rfl⟩ := hcs
    exact ⟨0, fun _ => false, fun _ => false, fun _ => false, by unfold maxLen; omega, .inl ⟨rfl, rfl⟩⟩
  · simp [Value.cells] at hcs
    obtain ⟨rfl, rfl, rfl⟩ := hcs
    have hspot : ∀ i, i < len → a.spot = none := by
      intro i hi
      obtain ⟨cs', hc, _⟩ := hel 0 (by rw [hmm]; simp; omega)
      rw [hce] at hc
      obtain ⟨_, hlen, hcell⟩ := World.cells?_some hc
      have := hcell 0 (by omega)
      rw [List.getElem?_eq_getElem (by omega)] at this
      simpa [Addr.add] using World.cell?_spot this
    have key : ∀ i, i < len → ∃ x : Bool × Bool × Bool, a.spot = none ∧ a.block < w.heap.size ∧ w.cell? ⟨a.block, a.off + i * 3, none⟩ = some (.bool x.1) ∧ w.cell? ⟨a.block, a.off + i * 3 + 1, none⟩ = some (.bool x.2.1) ∧ w.cell? ⟨a.block, a.off + i * 3 + 2, none⟩ = some (.bool x.2.2) := by
      intro i hi
      obtain ⟨cs', hc, hd⟩ := hel i (by rw [hmm]; simp; omega)
      rw [hce] at hc
      obtain ⟨_, hlen, hcell⟩ := World.cells?_some hc
      obtain ⟨ys, n', _, _, _, hl', hy⟩ := DataW.trod_struct he hd
      have y0 := hy 0 F0 rfl
      have y1 := hy 1 F1 rfl
      have y2 := hy 2 F2 rfl
      rw [hF0, hC0] at y0
      rw [hF1, hC1] at y1
      rw [hF2, hC2] at y2
      rw [show ys[0]? = some (ys[0]'(by simp [hl'])) by simp] at y0
      rw [show ys[1]? = some (ys[1]'(by simp [hl'])) by simp] at y1
      rw [show ys[2]? = some (ys[2]'(by simp [hl'])) by simp] at y2
      obtain ⟨q0, e0, _⟩ := DataW.trod_bool hb0 y0
      obtain ⟨q1, e1, _⟩ := DataW.trod_bool hb1 y1
      obtain ⟨q2, e2, _⟩ := DataW.trod_bool hb2 y2
      obtain ⟨c0, c1, c2, rfl⟩ : ∃ c0 c1 c2, cs' = [c0, c1, c2] := by
        match cs', hlen with
        | [c0, c1, c2], _ => exact ⟨c0, c1, c2, rfl⟩
      simp at e0 e1 e2
      subst e0; subst e1; subst e2
      have hs := hspot i hi
      have g : ∀ j : Nat, j < 3 → w.cell? ⟨a.block, a.off + i * 3 + j, none⟩ = [Value.bool q0, .bool q1, .bool q2][j]? := by
        intro j hj
        have := hcell j hj
        rw [Deep.add_add, List.getElem?_eq_getElem (by simpa using hj)] at this
        rw [List.getElem?_eq_getElem (by simpa using hj), Nat.add_assoc]
        exact cell_add this (.inr hs)
      have g0 := g 0 (by omega)
      have g1 := g 1 (by omega)
      have g2 := g 2 (by omega)
      refine ⟨(q0, q1, q2), hs, ?_, g0, g1, g2⟩
      exact World.block_lt_of_cell? w ⟨a.block, a.off + i * 3 + 0, none⟩ g0
    have key' : ∀ i, ∃ x : Bool × Bool × Bool, i < len → a.spot = none ∧ a.block < w.heap.size ∧ w.cell? ⟨a.block, a.off + i * 3, none⟩ = some (.bool x.1) ∧ w.cell? ⟨a.block, a.off + i * 3 + 1, none⟩ = some (.bool x.2.1) ∧ w.cell? ⟨a.block, a.off + i * 3 + 2, none⟩ = some (.bool x.2.2) := by
      intro i
      by_cases hi : i < len
      · obtain ⟨x, hx⟩ := key i hi
        exact ⟨x, fun _ => hx⟩
      · exact ⟨(false, false, false), fun h => (hi h).elim⟩
    refine ⟨len, fun i => (Classical.choose (key' i)).1, fun i => (Classical.choose (key' i)).2.1, fun i => (Classical.choose (key' i)).2.2, by omega, .inr ⟨a, cap, rfl, hl, fun i hi => Classical.choose_spec (key' i) hi⟩⟩
end
end Go.Proofs.Ytkgganfbcfojcaa
