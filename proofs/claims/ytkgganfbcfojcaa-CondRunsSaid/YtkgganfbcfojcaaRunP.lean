/- The plain law behind CondRuns: rows of calm rounds, seen from ahead and from behind. -/
import Derived.Test.YtkgganfbcfojcaaCondT
namespace Go.Proofs.Ytkgganfbcfojcaa
open Go.RowKit

/-- n calm rounds, one behind the other, in [a, b). -/
def Run (cl : Nat → Bool) (a b n : Nat) : Prop := ∃ s, a ≤ s ∧ s + n ≤ b ∧ ∀ j, s ≤ j → j < s + n → cl j = true

theorem Run.more {cl : Nat → Bool} {a b n : Nat} (h : Run cl a b n) : Run cl a (b + 1) n := by
  obtain ⟨s, h1, h2, h3⟩ := h
  exact ⟨s, h1, by omega, h3⟩

/-- What is behind the first i rounds: p is the place behind the last round that fired, or 0. -/
def Fwd (fire cl : Nat → Bool) (n i : Nat) (on : Bool) (calm : Int) : Prop :=
  (on = false ∧ ∀ j, j < i → fire j = false) ∨
  ∃ p, 0 < p ∧ p ≤ i ∧ fire (p - 1) = true ∧ (∀ j, p ≤ j → j < i → fire j = false) ∧
    ((on = false ∧ Run cl p i n) ∨ (on = true ∧ ¬ Run cl p i n ∧ ∃ c : Nat, calm = c ∧ p + c ≤ i ∧ (∀ j, i - c ≤ j → j < i → cl j = true) ∧ (i - c = p ∨ cl (i - c - 1) = false)))

theorem Fwd.step {fire cl : Nat → Bool} {n i : Nat} {on : Bool} {calm : Int} {h m f : Bool} (hn : 1 ≤ n) (hf : fire i = (f && h)) (hc : cl i = calmF h m f) (inv : Fwd fire cl n i on calm) :
    Fwd fire cl n (i + 1) (stepF ⟨on, calm⟩ h m f n).on (stepF ⟨on, calm⟩ h m f n).calm := by
  by_cases hfire : (f && h) = true
  · -- it fires
    have e : stepF ⟨on, calm⟩ h m f n = ⟨true, 0⟩ := by simp [stepF, hfire]
    rw [e]
    refine .inr ⟨i + 1, by omega, by omega, by simpa [hf] using hfire, fun j h1 h2 => by omega, .inr ⟨rfl, ?_, 0, rfl, by omega, fun j h1 h2 => by omega, .inl (by omega)⟩⟩
    rintro ⟨s, h1, h2, _⟩
    omega
  · have hfire' : (f && h) = false := by simpa using hfire
    rw [hfire'] at hf
    rcases inv with ⟨rfl, hno⟩ | ⟨p, hp0, hp, hfp, hno, hrest⟩
    · -- it never fired
      have e : (stepF ⟨false, calm⟩ h m f n).on = false := by
        cases h <;> cases m <;> cases f <;> simp [stepF] at hfire' ⊢
      refine .inl ⟨e, fun j hj => ?_⟩
      by_cases hji : j = i
      · subst hji; exact hf
      · exact hno j (by omega)
    have hno' : ∀ j, p ≤ j → j < i + 1 → fire j = false := fun j h1 h2 => by
      by_cases hji : j = i
      · subst hji; exact hf
      · exact hno j h1 (by omega)
    refine .inr ⟨p, hp0, by omega, hfp, hno', ?_⟩
    rcases hrest with ⟨rfl, hrun⟩ | ⟨rfl, hnr, c, rfl, hpc, hall, hedge⟩
    · have e : (stepF ⟨false, calm⟩ h m f n).on = false := by
        cases h <;> cases m <;> cases f <;> simp [stepF] at hfire' ⊢
      exact .inl ⟨e, hrun.more⟩
    · by_cases hcl : calmF h m f = true
      · -- a calm round
        rw [hcl] at hc
        have hff : f = true ∧ m = false ∧ h = false := by cases h <;> cases m <;> cases f <;> simp_all [calmF]
        obtain ⟨rfl, rfl, rfl⟩ := hff
        by_cases hge : (n : Int) ≤ (c : Int) + 1
        · have e : stepF ⟨true, c⟩ false false true n = ⟨false, 0⟩ := by simp [stepF, hge]
          rw [e]
          refine .inl ⟨rfl, i + 1 - n, by omega, by omega, fun j h1 h2 => ?_⟩
          by_cases hji : j = i
          · subst hji; exact hc
          · exact hall j (by omega) (by omega)
        · have e : stepF ⟨true, c⟩ false false true n = ⟨true, (c : Int) + 1⟩ := by simp [stepF, hge]
          rw [e]
          refine .inr ⟨rfl, ?_, c + 1, by simp, by omega, fun j h1 h2 => ?_, ?_⟩
          · rintro ⟨s, h1, h2, h3⟩
            by_cases hs : s + n ≤ i
            · exact hnr ⟨s, h1, hs, h3⟩
            · rcases hedge with he | he
              · omega
              · have := h3 (i - c - 1) (by omega) (by omega)
                rw [he] at this; cases this
          · by_cases hji : j = i
            · subst hji; exact hc
            · exact hall j (by omega) (by omega)
          · rw [show i + 1 - (c + 1) = i - c by omega]; exact hedge
      · have hcl' : calmF h m f = false := by simpa using hcl
        rw [hcl'] at hc
        have e : stepF ⟨true, c⟩ h m f n = ⟨true, 0⟩ := by
          cases h <;> cases m <;> cases f <;> simp [stepF, calmF] at hfire' hcl' ⊢
        rw [e]
        refine .inr ⟨rfl, ?_, 0, rfl, by omega, fun j h1 h2 => by omega, .inr (by simpa using hc)⟩
        rintro ⟨s, h1, h2, h3⟩
        by_cases hs : s + n ≤ i
        · exact hnr ⟨s, h1, hs, h3⟩
        · have := h3 i (by omega) (by omega)
          rw [hc] at this; cases this

/-- Back from round i: q rounds are still to be looked at. -/
def Bwd (fire cl : Nat → Bool) (n e q : Nat) (row most : Int) : Prop :=
  q ≤ e ∧ (∀ j, q ≤ j → j < e → fire j = false) ∧ 0 ≤ most ∧ most ≤ e - q ∧
  (∃ r : Nat, row = r ∧ q + r ≤ e ∧ (∀ j, q ≤ j → j < q + r → cl j = true) ∧ (q + r = e ∨ cl (q + r) = false)) ∧ ((n : Int) ≤ most ↔ Run cl q e n)

theorem Bwd.step {fire cl : Nat → Bool} {n e q : Nat} {row most : Int} (hn : 1 ≤ n) (h : Bwd fire cl n e (q + 1) row most) (hf : fire q = false) :
    Bwd fire cl n e q (if cl q then row + 1 else 0) (if most < (if cl q then row + 1 else 0) then (if cl q then row + 1 else 0) else most) := by
  obtain ⟨h1, h2, h3, h4, ⟨r, rfl, h5, h6, h7⟩, h8⟩ := h
  have hno : ∀ j, q ≤ j → j < e → fire j = false := fun j a b => by
    by_cases hj : j = q
    · subst hj; exact hf
    · exact h2 j (by omega) b
  cases hc : cl q
  · simp only [Bool.false_eq_true, if_false]
    refine ⟨by omega, hno, by split <;> omega, by split <;> omega, ⟨0, by simp, by omega, fun j a b => by omega, .inr (by simpa using hc)⟩, ?_⟩
    rw [if_neg (by omega)]
    refine h8.trans ⟨fun ⟨s, a, b, c⟩ => ⟨s, by omega, b, c⟩, fun ⟨s, a, b, c⟩ => ⟨s, ?_, b, c⟩⟩
    by_cases hs : s = q
    · subst hs
      have := c s (by omega) (by omega)
      rw [hc] at this; cases this
    · omega
  · simp only [if_true]
    refine ⟨by omega, hno, by split <;> omega, by split <;> omega, ⟨r + 1, by simp, by omega, fun j a b => ?_, by rw [show q + (r + 1) = q + 1 + r by omega]; exact h7⟩, ?_⟩
    · by_cases hj : j = q
      · subst hj; exact hc
      · exact h6 j (by omega) (by omega)
    · have key : Run cl q e n ↔ Run cl (q + 1) e n ∨ n ≤ r + 1 := by
        constructor
        · rintro ⟨s, a, b, c⟩
          by_cases hs : s = q
          · subst hs
            right
            rcases Nat.lt_or_ge (r + 1) n with hlt | hge
            · rcases h7 with h7 | h7
              · omega
              · have := c (s + 1 + r) (by omega) (by omega)
                rw [h7] at this; cases this
            · exact hge
          · exact .inl ⟨s, by omega, b, c⟩
        · rintro (⟨s, a, b, c⟩ | hr)
          · exact ⟨s, by omega, b, c⟩
          · refine ⟨q, Nat.le_refl _, by omega, fun j a b => ?_⟩
            by_cases hj : j = q
            · subst hj; exact hc
            · exact h6 j (by omega) (by omega)
      rw [key, ← h8]
      split <;> omega

/-- At the end both ways say the same. -/
theorem both {fire cl : Nat → Bool} {n e q : Nat} {row most calm : Int} {on : Bool} (hb : Bwd fire cl n e q row most) (hf : Fwd fire cl n e on calm) (hq : q = 0 ∨ fire (q - 1) = true) :
    on = (decide (0 < q) && decide (most < n)) := by
  obtain ⟨h1, h2, h3, h4, _, h8⟩ := hb
  rcases hf with ⟨rfl, hno⟩ | ⟨p, hp0, hp, hfp, hno, hrest⟩
  · have : q = 0 := by
      rcases hq with hq | hq
      · exact hq
      · rcases Nat.eq_zero_or_pos q with h0 | h0
        · exact h0
        · have := hno (q - 1) (by omega)
          rw [hq] at this; cases this
    simp [this]
  · have hqp : q = p := by
      rcases Nat.lt_trichotomy q p with h | h | h
      · have := h2 (p - 1) (by omega) (by omega)
        rw [hfp] at this; cases this
      · exact h
      · rcases hq with hq | hq
        · omega
        · have := hno (q - 1) (by omega) (by omega)
          rw [hq] at this; cases this
    subst hqp
    rcases hrest with ⟨rfl, hr⟩ | ⟨rfl, hr, _⟩
    · have := h8.2 hr
      simp
      intro _
      omega
    · have : ¬ ((n : Int) ≤ most) := fun h => hr (h8.1 h)
      simp
      omega

end Go.Proofs.Ytkgganfbcfojcaa
