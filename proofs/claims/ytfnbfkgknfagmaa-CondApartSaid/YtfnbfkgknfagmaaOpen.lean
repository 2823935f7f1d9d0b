/- Arguments that are arrays by value, opened. -/
import Derived.Test.YtfnbfkgknfagmaaOwn
import Derived.ProofKit
import Derived.OpenShut
import Derived.Lib.SmallJoins
namespace Go.Proofs.Ytfnbfkgknfagmaa
open Go.RowKit

section
variable {H : Type} {enc : TypeId × Value → H} {P : Program} {w : World} {base : Nat} {spare : Nat → Bool} {held : Bool}

theorem okWide_arr {r : Reach} {b0 : Nat} {t e : TypeId} {n : Nat} {v : Value} (ht : P.underlying t = some (.array n e)) (h : Value.okWide P w r b0 t v) : ∃ cs, v = .agg cs ∧ cs.size = P.cellsOf t := by
  simp only [Value.okWide, ht] at h
  obtain ⟨cs, h1, h2, _⟩ := h
  exact ⟨cs, h1, h2⟩

theorem open_bools3 {r : Reach} {b0 : Nat} {t e : TypeId} {v : Value} {d : DataW H} {ps : List MemPlace} (ht : P.underlying t = some (.array 3 e)) (he : P.underlying e = some .bool) (hc : P.cellsOf t = 3) (hce : P.cellsOf e = 1)
    (hv : Value.okWide P w r b0 t v) (h : DataW.Trod enc P w base spare held t v d ps) : ∃ f : Nat → Bool, v = .agg #[.bool (f 0), .bool (f 1), .bool (f 2)] := by
  obtain ⟨cs, rfl, hs⟩ := okWide_arr ht hv
  obtain ⟨a, b, c, rfl⟩ := Joins.array3 (hs.trans hc)
  obtain ⟨fuel, hf⟩ := h
  obtain ⟨xs, m, _, _, _, hl, hx⟩ := DataW.trod_array ht hf
  have g : ∀ (i : Nat) (u : Value), i < 3 → ([a, b, c].drop (i * 1)).take 1 = [u] → ∃ q : Bool, u = .bool q := by
    intro i u hi hu
    have h1 := hx i hi
    rw [hce] at h1
    simp only [Value.cells] at h1
    have h2 : xs[i]? = some xs[i] := by simp
    rw [h2] at h1
    have h3 : DataW.trod enc P w base spare held m e [u] = some xs[i] := by rw [← hu]; exact h1
    obtain ⟨q, hq, _⟩ := DataW.trod_bool he h3
    exact ⟨q, by simpa using hq⟩
  obtain ⟨q0, rfl⟩ := g 0 a (by omega) rfl
  obtain ⟨q1, rfl⟩ := g 1 b (by omega) rfl
  obtain ⟨q2, rfl⟩ := g 2 c (by omega) rfl
  exact ⟨fun i => if i = 0 then q0 else if i = 1 then q1 else q2, by simp⟩

theorem array6 {cs : Array Value} (h : cs.size = 6) : ∃ a b c d e f, cs = #[a, b, c, d, e, f] := by
  obtain ⟨l⟩ := cs
  match l, h with
  | [a, b, c, d, e, f], _ => exact ⟨a, b, c, d, e, f, rfl⟩

theorem open_conds3 {r : Reach} {b0 : Nat} {t e : TypeId} {v : Value} {d : DataW H} {ps : List MemPlace} {F0 F1 : Field}
    (ht : P.underlying t = some (.array 3 e)) (he : P.underlying e = some (.struct #[F0, F1])) (hb : P.underlying F0.type = some .bool) (hi : P.underlying F1.type = some (.int .i64)) (hF : F0.offset = 0 ∧ F1.offset = 1 ∧ P.cellsOf F0.type = 1 ∧ P.cellsOf F1.type = 1)
    (hc : P.cellsOf t = 6) (hce : P.cellsOf e = 2)
    (hv : Value.okWide P w r b0 t v) (h : DataW.Trod enc P w base spare held t v d ps) : ∃ (q0 q1 q2 : Bool) (k0 k1 k2 : Int), v = .agg #[.bool q0, .int .i64 k0, .bool q1, .int .i64 k1, .bool q2, .int .i64 k2] := by
  obtain ⟨cs, rfl, hs⟩ := okWide_arr ht hv
  obtain ⟨a, b, c, d', e', f, rfl⟩ := array6 (hs.trans hc)
  obtain ⟨fuel, hf⟩ := h
  obtain ⟨xs, m, _, _, _, hl, hx⟩ := DataW.trod_array ht hf
  obtain ⟨hF0, hF1, hC0, hC1⟩ := hF
  have g : ∀ (i : Nat) (u v : Value), i < 3 → ([a, b, c, d', e', f].drop (i * 2)).take 2 = [u, v] → (∃ q : Bool, u = .bool q) ∧ ∃ k : Int, v = .int .i64 k := by
    intro i u v hi' hu
    have h1 := hx i hi'
    rw [hce] at h1
    simp only [Value.cells] at h1
    have h2 : xs[i]? = some xs[i] := by simp
    rw [h2] at h1
    have h3 : DataW.trod enc P w base spare held m e [u, v] = some xs[i] := by rw [← hu]; exact h1
    obtain ⟨ys, n, _, _, _, hl', hy⟩ := DataW.trod_struct he h3
    have y0 := hy 0 F0 rfl
    have y1 := hy 1 F1 rfl
    rw [hF0, hC0] at y0
    rw [hF1, hC1] at y1
    have z0 : ys[0]? = some (ys[0]'(by simp [hl'])) := by simp
    have z1 : ys[1]? = some (ys[1]'(by simp [hl'])) := by simp
    rw [z0] at y0
    rw [z1] at y1
    obtain ⟨q, hq, _⟩ := DataW.trod_bool hb y0
    obtain ⟨k, hk, _⟩ := DataW.trod_int hi y1
    exact ⟨⟨q, by simpa using hq⟩, k, by simpa using hk⟩
  obtain ⟨⟨q0, rfl⟩, k0, rfl⟩ := g 0 _ _ (by omega) rfl
  obtain ⟨⟨q1, rfl⟩, k1, rfl⟩ := g 1 _ _ (by omega) rfl
  obtain ⟨⟨q2, rfl⟩, k2, rfl⟩ := g 2 _ _ (by omega) rfl
  exact ⟨q0, q1, q2, k0, k1, k2, rfl⟩
end
end Go.Proofs.Ytfnbfkgknfagmaa
