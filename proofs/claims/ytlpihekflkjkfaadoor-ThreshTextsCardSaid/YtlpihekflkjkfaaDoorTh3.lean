/- Walks over abstract values, printed by my program av.py. -/
import Derived.Test.YtlpihekflkjkfaaDoorTh2
namespace Go.Proofs.YtlpihekflkjkfaaDoor
open Go.RowKit

theorem find_ne {t : List UInt8} {c : UInt8} {i : Nat} (hc : t.contains c = false) (hi : i < t.length) : ¬ (t.getD i 0).toNat = c.toNat := by
  intro e
  have e2 : t.getD i 0 = c := UInt8.toNat_inj.1 e
  rw [List.getD_eq_getElem?_getD, List.getElem?_eq_getElem hi] at e2
  have : c ∈ t := by rw [← e2]; exact List.getElem_mem hi
  rw [List.contains_eq_mem] at hc
  simp [this] at hc
theorem find_end {t : List UInt8} {c : UInt8} {i : Nat} (hc : t.contains c = true) (hi : i ≤ t.length) (hno : ∀ j, j < i → t.getD j 0 ≠ c) : i < t.length := by
  rcases Nat.lt_or_ge i t.length with h | h
  · exact h
  · have hm : c ∈ t := by simpa using hc
    obtain ⟨j, hj, e⟩ := List.mem_iff_getElem.1 hm
    have := hno j (by omega)
    rw [List.getD_eq_getElem?_getD, List.getElem?_eq_getElem hj] at this
    exact absurd e this
theorem find_at {t : List UInt8} {c : UInt8} {i : Nat} (hi : i < t.length) (hno : ∀ j, j < i → t.getD j 0 ≠ c) (he : (t.getD i 0).toNat = c.toNat) : i = (cutA c t).1.length := by
  have e2 : t.getD i 0 = c := UInt8.toNat_inj.1 he
  have := (tw_to (· != c) t i (by omega) (fun j hj => bne_iff_ne.2 (hno j hj)) (fun _ => by rw [e2]; simp)).1
  show i = (t.takeWhile (· != c)).length
  rw [this, List.length_take]; omega
/-- No number of up to four digits, by its length or a zero ahead. -/
def NumBad (s : List UInt8) : Prop := s = [] ∨ 4 < s.length ∨ (s.getD 0 0 = 48 ∧ 1 < s.length)
theorem nb_t {t : List UInt8} (h : (bif (t.length : Int) == 0 then true else (bif decide ((t.length : Int) > 4) then true else (bif ((t.getD 0 0).toNat : Int) == 48 then decide ((t.length : Int) > 1) else false))) = true) : NumBad t := by
  unfold NumBad
  by_cases h0 : (t.length : Int) = 0
  · exact .inl (List.length_eq_zero_iff.1 (by omega))
  · rw [beq_eq_false_iff_ne.2 h0, cond_false] at h
    by_cases h1 : (t.length : Int) > 4
    · exact .inr (.inl (by omega))
    · rw [decide_eq_false h1, cond_false] at h
      by_cases h2 : ((t.getD 0 0).toNat : Int) = 48
      · rw [beq_iff_eq.2 h2, cond_true] at h
        have := of_decide_eq_true h
        exact .inr (.inr ⟨UInt8.toNat_inj.1 (by show _ = 48; omega), by omega⟩)
      · rw [beq_eq_false_iff_ne.2 h2] at h; cases h
theorem nb_f {t : List UInt8} (h : (bif (t.length : Int) == 0 then true else (bif decide ((t.length : Int) > 4) then true else (bif ((t.getD 0 0).toNat : Int) == 48 then decide ((t.length : Int) > 1) else false))) = false) : ¬ NumBad t := by
  rintro (h0 | h1 | ⟨h2, h3⟩)
  · rw [h0] at h; cases h
  · rw [beq_eq_false_iff_ne.2 (show ¬ (t.length : Int) = 0 by omega), cond_false, decide_eq_true (show (t.length : Int) > 4 by omega)] at h; cases h
  · have e : (bif decide ((t.length : Int) > 4) then true else true) = true := by cases decide ((t.length : Int) > 4) <;> rfl
    rw [beq_eq_false_iff_ne.2 (show ¬ (t.length : Int) = 0 by omega), cond_false, h2, decide_eq_true (show (t.length : Int) > 1 by omega)] at h
    rw [show ((((48 : UInt8).toNat : Nat) : Int) == 48) = true from rfl, cond_true, e] at h
    cases h
theorem nb_len {t : List UInt8} (h : ¬ NumBad t) : 1 ≤ t.length ∧ t.length ≤ 4 := by
  unfold NumBad at h
  rcases Nat.eq_zero_or_pos t.length with h0 | h0
  · exact absurd (.inl (List.length_eq_zero_iff.1 h0)) h
  · rcases Nat.lt_or_ge 4 t.length with h1 | h1
    · exact absurd (.inr (.inl h1)) h
    · exact ⟨h0, h1⟩
theorem nd_t {c : UInt8} (h : (bif decide ((c.toNat : Int) < 48) then true else decide ((c.toNat : Int) > 57)) = true) : isD c = false := by
  rw [isD_iff]
  by_cases h1 : (c.toNat : Int) < 48
  · rw [decide_eq_false (show ¬ 48 ≤ c.toNat by omega)]; rfl
  · rw [decide_eq_false h1, cond_false] at h
    have := of_decide_eq_true h
    rw [decide_eq_false (show ¬ c.toNat ≤ 57 by omega), Bool.and_false]
theorem nd_f {c : UInt8} (h : (bif decide ((c.toNat : Int) < 48) then true else decide ((c.toNat : Int) > 57)) = false) : isD c = true ∧ 48 ≤ c.toNat ∧ c.toNat ≤ 57 := by
  by_cases h1 : (c.toNat : Int) < 48
  · rw [decide_eq_true h1] at h; cases h
  · rw [decide_eq_false h1, cond_false] at h
    have := of_decide_eq_false h
    refine ⟨?_, by omega, by omega⟩
    rw [isD_iff, decide_eq_true (show 48 ≤ c.toNat by omega), decide_eq_true (show c.toNat ≤ 57 by omega)]; rfl
theorem dec_le4 {t : List UInt8} {i : Nat} (h4 : t.length ≤ 4 ∧ i ≤ t.length) (hall : ∀ j, j < i → isD (t.getD j 0) = true) : decV (t.take i) ≤ 9999 := by
  have hd : ∀ c ∈ t.take i, isD c = true := by
    intro c hc
    obtain ⟨j, hj, rfl⟩ := List.mem_iff_getElem.1 hc
    rw [List.length_take] at hj
    have := hall j (by omega)
    rw [List.getD_eq_getElem?_getD, List.getElem?_eq_getElem (by omega)] at this
    rw [List.getElem_take]; exact this
  have h1 := decV_lt (t.take i) hd
  have h2 : (10 : Nat) ^ (t.take i).length ≤ 10 ^ 4 := Nat.pow_le_pow_right (by decide) (by rw [List.length_take]; omega)
  omega
theorem dec_step4 {t : List UInt8} {i : Nat} (hi : i < t.length) (hd : decV (t.take i) ≤ 9999) (h : isD (t.getD i 0) = true ∧ 48 ≤ (t.getD i 0).toNat ∧ (t.getD i 0).toNat ≤ 57) : 10 * decV (t.take i) + (t.getD i 0).toNat - 48 = decV (t.take (i + 1)) := by
  have := decV_step (l := t) hi
  rw [← this, satN_of (x := decV (t.take i) * 10) (by omega), satN_of (by omega)]; omega
theorem rnum_no {t : List UInt8} (h : NumBad t) : numR t = -1 := by unfold NumBad at h; unfold numR; rw [if_pos h]
theorem rnum_bad {t : List UInt8} {i : Nat} (hb : ¬ NumBad t) (hi : i < t.length) (h : isD (t.getD i 0) = false) : numR t = -1 := by
  unfold NumBad at hb
  unfold numR
  rw [if_neg hb, if_neg]
  intro hall
  have := List.all_eq_true.1 hall (t.getD i 0) (by rw [List.getD_eq_getElem?_getD, List.getElem?_eq_getElem hi]; exact List.getElem_mem hi)
  rw [h] at this; cases this
theorem rnum_ok {t : List UInt8} {i : Nat} (hb : ¬ NumBad t) (hall : ∀ j, j < i → isD (t.getD j 0) = true) (hi : t.length ≤ i) : numR t = ((decV (t.take i) : Nat) : Int) := by
  unfold NumBad at hb
  unfold numR
  rw [if_neg hb, if_pos, List.take_of_length_le hi]
  refine List.all_eq_true.2 fun c hc => ?_
  obtain ⟨j, hj, rfl⟩ := List.mem_iff_getElem.1 hc
  have := hall j (by omega)
  rw [List.getD_eq_getElem?_getD, List.getElem?_eq_getElem hj] at this
  exact this

set_option maxRecDepth 20000 in
theorem rWord_any (i : Int) (M : Nat → Option (List AV)) : ACall Tryd.prog 41 [.lit (.int .i64 i)] M (fun r M' => r = .str (wordOf i) ∧ M = M') := by
  refine ACall.of Tryd.func41 rfl (n := 7) rfl rfl rfl ?_
  refine AWp.seq (AWp.region ?_)
  refine AOps.read trivial rfl (by decide) (Reader.move (.inr rfl) (ok_const rfl) (v := .str []) rfl) ?_
  refine AOps.nil ?_
  refine AWp.seq ?_
  refine AWp.seq (AWp.region ?_)
  refine AOps.read trivial rfl (by decide) (Reader.move (.inl rfl) (ok_const rfl) (v := .lit (.int .i64 i)) rfl) ?_
  refine AOps.read trivial rfl (by decide) (Reader.int rfl rfl rfl (r := .bool (i == 0)) rfl) ?_
  refine AOps.nil ?_
  refine AWp.cond (b := i == 0) rfl (fun h1 => ?_) (fun h1 => ?_)
  · skip
    have h1' : i = 0 := (by have hh := eq_of_beq h1; omega)
    clear h1
    refine AWp.seq (AWp.region ?_)
    refine AOps.read trivial rfl (by decide) (Reader.move (.inr rfl) (ok_const rfl) (v := .str [109, 101, 109, 111, 114, 121]) rfl) ?_
    refine AOps.nil ?_
    refine AWp.ret ?_
    exact ⟨.inl rfl, _, ResOf.one 2 (.str [109, 101, 109, 111, 114, 121]) rfl rfl, ⟨congrArg AV.str (by unfold wordOf; first | (rw [if_pos (by assumption)]; rfl) | (rw [if_neg (by assumption), if_pos (by assumption)]; rfl) | (rw [if_neg (by assumption), if_neg (by assumption)]; rfl)), rfl⟩⟩
  · skip
    have h1' : ¬ (i = 0) := (by have hh := beq_eq_false_iff_ne.1 h1; omega)
    clear h1
    refine AWp.skip ?_
    refine AWp.seq ?_
    refine AWp.seq (AWp.region ?_)
    refine AOps.read trivial rfl (by decide) (Reader.move (.inl rfl) (ok_const rfl) (v := .lit (.int .i64 i)) rfl) ?_
    refine AOps.read trivial rfl (by decide) (Reader.int rfl rfl rfl (r := .bool (i == 1)) rfl) ?_
    refine AOps.nil ?_
    refine AWp.cond (b := i == 1) rfl (fun h2 => ?_) (fun h2 => ?_)
    · skip
      have h2' : i = 1 := (by have hh := eq_of_beq h2; omega)
      clear h2
      refine AWp.seq (AWp.region ?_)
      refine AOps.read trivial rfl (by decide) (Reader.move (.inr rfl) (ok_const rfl) (v := .str [100, 105, 115, 107]) rfl) ?_
      refine AOps.nil ?_
      refine AWp.ret ?_
      exact ⟨.inl rfl, _, ResOf.one 2 (.str [100, 105, 115, 107]) rfl rfl, ⟨congrArg AV.str (by unfold wordOf; first | (rw [if_pos (by assumption)]; rfl) | (rw [if_neg (by assumption), if_pos (by assumption)]; rfl) | (rw [if_neg (by assumption), if_neg (by assumption)]; rfl)), rfl⟩⟩
    · skip
      have h2' : ¬ (i = 1) := (by have hh := beq_eq_false_iff_ne.1 h2; omega)
      clear h2
      refine AWp.skip ?_
      refine AWp.seq (AWp.region ?_)
      refine AOps.read trivial rfl (by decide) (Reader.move (.inr rfl) (ok_const rfl) (v := .str [112, 105, 100]) rfl) ?_
      refine AOps.nil ?_
      refine AWp.ret ?_
      exact ⟨.inl rfl, _, ResOf.one 2 (.str [112, 105, 100]) rfl rfl, ⟨congrArg AV.str (by unfold wordOf; first | (rw [if_pos (by assumption)]; rfl) | (rw [if_neg (by assumption), if_pos (by assumption)]; rfl) | (rw [if_neg (by assumption), if_neg (by assumption)]; rfl)), rfl⟩⟩

set_option maxRecDepth 20000 in
theorem find_no (t : List UInt8) (c : UInt8) (hl : t.length ≤ 4294967280) (hc : t.contains c = false) (M : Nat → Option (List AV)) : ACall Tryd.prog 65 [.str t, .lit (.int .u8 (c.toNat : Int))] M (fun r M' => r = .lit (.int .i64 (-1)) ∧ M = M') := by
  refine ACall.of Tryd.func65 rfl (n := 18) rfl rfl rfl ?_
  refine AWp.seq (AWp.region ?_)
  refine AOps.read trivial rfl (by decide) (Reader.move (.inr rfl) (ok_const rfl) (v := .lit (.int .i64 0)) rfl) ?_
  refine AOps.nil ?_
  refine AWp.seq ?_
  refine AWp.seq (AWp.region ?_)
  refine AOps.read trivial rfl (by decide) (Reader.move (.inr rfl) (ok_const rfl) (v := .lit (.int .i64 0)) rfl) ?_
  refine AOps.nil ?_
  refine AWp.block ?_
  refine AWp.loopE [0, 1, 5] [] (fun m s => ∃ (i : Nat), m = t.length - i ∧ s = ⟨[(0, .str t), (1, .lit (.int .u8 (c.toNat : Int))), (5, .lit (.int .i64 (i : Int)))], [], M⟩ ∧ (i ≤ t.length) ∧ (∀ j, j < i → t.getD j 0 ≠ c)) ?_ ?_
  · exact ⟨_, 0, rfl, rfl, Nat.zero_le _, fun j hj => by omega⟩
  · rintro _ _ ⟨i, rfl, rfl, hi, hno⟩
    refine AWp.seq ?_
    refine AWp.seq (AWp.region ?_)
    refine AOps.read trivial rfl (by decide) (Reader.move (.inl rfl) (ok_const rfl) (v := .lit (.int .i64 (i : Int))) rfl) ?_
    refine AOps.read trivial rfl (by decide) (Reader.move (.inl rfl) (ok_const rfl) (v := .str t) rfl) ?_
    refine AOps.read trivial rfl (by decide) (Reader.lenStr' (l := t) rfl rfl rfl rfl Tryd.underlying9 rfl (m := t.length) (by first | rfl | simp)) ?_
    refine AOps.read trivial rfl (by decide) (Reader.int rfl rfl rfl (r := .bool (decide ((i : Int) < (t.length : Int)))) rfl) ?_
    refine AOps.nil ?_
    refine AWp.cond (b := decide ((i : Int) < (t.length : Int))) rfl (fun h1 => ?_) (fun h1 => ?_)
    · skip
      have h1' : i < t.length := (by have hh := of_decide_eq_true h1; omega)
      clear h1
      refine AWp.skip ?_
      refine AWp.seq ?_
      refine AWp.block ?_
      refine AWp.seq (AWp.region ?_)
      refine AOps.read trivial rfl (by decide) (Reader.move (.inl rfl) (ok_const rfl) (v := .str t) rfl) ?_
      refine AOps.read trivial rfl (by decide) (Reader.move (.inl rfl) (ok_const rfl) (v := .lit (.int .i64 (i : Int))) rfl) ?_
      refine AOps.read trivial rfl (by decide) (Reader.byte (m := i) (c := t.getD i 0) rfl Tryd.underlying9 rfl rfl rfl (getD_some (by first | omega | (simp; omega)))) ?_
      refine AOps.read trivial rfl (by decide) (Reader.move (.inl rfl) (ok_const rfl) (v := .lit (.int .u8 (c.toNat : Int))) rfl) ?_
      refine AOps.read trivial rfl (by decide) (Reader.int rfl rfl rfl (r := .bool (((t.getD i 0).toNat : Int) == (c.toNat : Int))) rfl) ?_
      refine AOps.nil ?_
      refine AWp.cond (b := ((t.getD i 0).toNat : Int) == (c.toNat : Int)) rfl (fun h2 => ?_) (fun h2 => ?_)
      · skip
        have h2' : ((t.getD i 0).toNat) = c.toNat := (by have hh := eq_of_beq h2; omega)
        clear h2
        refine AWp.seq (AWp.region ?_)
        refine AOps.read trivial rfl (by decide) (Reader.move (.inl rfl) (ok_const rfl) (v := .lit (.int .i64 (i : Int))) rfl) ?_
        refine AOps.read trivial rfl (by decide) (Reader.move (.inr rfl) (ok_const rfl) (v := .lit (.int .i64 (i : Int))) rfl) ?_
        refine AOps.nil ?_
        refine AWp.ret ?_
        exact ⟨.inl rfl, _, ResOf.one 4 (.lit (.int .i64 (i : Int))) rfl rfl, ⟨absurd (by assumption) (find_ne hc (by omega)), rfl⟩⟩
      · skip
        have h2' : ¬ (((t.getD i 0).toNat) = c.toNat) := (by have hh := beq_eq_false_iff_ne.1 h2; omega)
        clear h2
        refine AWp.skip ?_
        refine AWp.region ?_
        refine AOps.read trivial rfl (by decide) (Reader.move (.inl rfl) (ok_const rfl) (v := .lit (.int .i64 (i : Int))) rfl) ?_
        refine AOps.read trivial rfl (by decide) (Reader.sum rfl rfl rfl (m := (i : Int) + 1) (c := ((i + 1 : Nat) : Int)) rfl (by first | exact IntWalk.i64_in _ (by omega) | exact IntWalk.i64_in _ (by constructor <;> omega) | (simp only [];omega))) ?_
        refine AOps.read trivial rfl (by decide) (Reader.move (.inr rfl) (ok_const rfl) (v := .lit (.int .i64 ((i + 1 : Nat) : Int))) rfl) ?_
        refine AOps.nil ?_
        exact ⟨_, by omega, i + 1, rfl, rfl, by omega, nx_0 hno (fun e => (by assumption : ¬ (t.getD i 0).toNat = c.toNat) (by rw [e]))⟩
    · skip
      have h1' : ¬ (i < t.length) := (by have hh := of_decide_eq_false h1; omega)
      clear h1
      refine AWp.exit ?_
      refine AWp.seq (AWp.region ?_)
      refine AOps.read trivial rfl (by decide) (Reader.move (.inr rfl) (ok_const rfl) (v := .lit (.int .i64 (-1))) rfl) ?_
      refine AOps.nil ?_
      refine AWp.ret ?_
      exact ⟨.inl rfl, _, ResOf.one 4 (.lit (.int .i64 (-1))) rfl rfl, ⟨rfl, rfl⟩⟩

set_option maxRecDepth 20000 in
theorem find_yes (t : List UInt8) (c : UInt8) (hl : t.length ≤ 4294967280) (hc : t.contains c = true) (M : Nat → Option (List AV)) : ACall Tryd.prog 65 [.str t, .lit (.int .u8 (c.toNat : Int))] M (fun r M' => r = .lit (.int .i64 ((cutA c t).1.length : Int)) ∧ M = M') := by
  refine ACall.of Tryd.func65 rfl (n := 18) rfl rfl rfl ?_
  refine AWp.seq (AWp.region ?_)
  refine AOps.read trivial rfl (by decide) (Reader.move (.inr rfl) (ok_const rfl) (v := .lit (.int .i64 0)) rfl) ?_
  refine AOps.nil ?_
  refine AWp.seq ?_
  refine AWp.seq (AWp.region ?_)
  refine AOps.read trivial rfl (by decide) (Reader.move (.inr rfl) (ok_const rfl) (v := .lit (.int .i64 0)) rfl) ?_
  refine AOps.nil ?_
  refine AWp.block ?_
  refine AWp.loopE [0, 1, 5] [] (fun m s => ∃ (i : Nat), m = t.length - i ∧ s = ⟨[(0, .str t), (1, .lit (.int .u8 (c.toNat : Int))), (5, .lit (.int .i64 (i : Int)))], [], M⟩ ∧ (i ≤ t.length) ∧ (∀ j, j < i → t.getD j 0 ≠ c)) ?_ ?_
  · exact ⟨_, 0, rfl, rfl, Nat.zero_le _, fun j hj => by omega⟩
  · rintro _ _ ⟨i, rfl, rfl, hi, hno⟩
    refine AWp.seq ?_
    refine AWp.seq (AWp.region ?_)
    refine AOps.read trivial rfl (by decide) (Reader.move (.inl rfl) (ok_const rfl) (v := .lit (.int .i64 (i : Int))) rfl) ?_
    refine AOps.read trivial rfl (by decide) (Reader.move (.inl rfl) (ok_const rfl) (v := .str t) rfl) ?_
    refine AOps.read trivial rfl (by decide) (Reader.lenStr' (l := t) rfl rfl rfl rfl Tryd.underlying9 rfl (m := t.length) (by first | rfl | simp)) ?_
    refine AOps.read trivial rfl (by decide) (Reader.int rfl rfl rfl (r := .bool (decide ((i : Int) < (t.length : Int)))) rfl) ?_
    refine AOps.nil ?_
    refine AWp.cond (b := decide ((i : Int) < (t.length : Int))) rfl (fun h1 => ?_) (fun h1 => ?_)
    · skip
      have h1' : i < t.length := (by have hh := of_decide_eq_true h1; omega)
      clear h1
      refine AWp.skip ?_
      refine AWp.seq ?_
      refine AWp.block ?_
      refine AWp.seq (AWp.region ?_)
      refine AOps.read trivial rfl (by decide) (Reader.move (.inl rfl) (ok_const rfl) (v := .str t) rfl) ?_
      refine AOps.read trivial rfl (by decide) (Reader.move (.inl rfl) (ok_const rfl) (v := .lit (.int .i64 (i : Int))) rfl) ?_
      refine AOps.read trivial rfl (by decide) (Reader.byte (m := i) (c := t.getD i 0) rfl Tryd.underlying9 rfl rfl rfl (getD_some (by first | omega | (simp; omega)))) ?_
      refine AOps.read trivial rfl (by decide) (Reader.move (.inl rfl) (ok_const rfl) (v := .lit (.int .u8 (c.toNat : Int))) rfl) ?_
      refine AOps.read trivial rfl (by decide) (Reader.int rfl rfl rfl (r := .bool (((t.getD i 0).toNat : Int) == (c.toNat : Int))) rfl) ?_
      refine AOps.nil ?_
      refine AWp.cond (b := ((t.getD i 0).toNat : Int) == (c.toNat : Int)) rfl (fun h2 => ?_) (fun h2 => ?_)
      · skip
        have h2' : ((t.getD i 0).toNat) = c.toNat := (by have hh := eq_of_beq h2; omega)
        clear h2
        refine AWp.seq (AWp.region ?_)
        refine AOps.read trivial rfl (by decide) (Reader.move (.inl rfl) (ok_const rfl) (v := .lit (.int .i64 (i : Int))) rfl) ?_
        refine AOps.read trivial rfl (by decide) (Reader.move (.inr rfl) (ok_const rfl) (v := .lit (.int .i64 (i : Int))) rfl) ?_
        refine AOps.nil ?_
        refine AWp.ret ?_
        exact ⟨.inl rfl, _, ResOf.one 4 (.lit (.int .i64 (i : Int))) rfl rfl, ⟨congrArg (fun x : Nat => AV.lit (.int .i64 (x : Int))) (find_at (by omega) hno (by assumption)), rfl⟩⟩
      · skip
        have h2' : ¬ (((t.getD i 0).toNat) = c.toNat) := (by have hh := beq_eq_false_iff_ne.1 h2; omega)
        clear h2
        refine AWp.skip ?_
        refine AWp.region ?_
        refine AOps.read trivial rfl (by decide) (Reader.move (.inl rfl) (ok_const rfl) (v := .lit (.int .i64 (i : Int))) rfl) ?_
        refine AOps.read trivial rfl (by decide) (Reader.sum rfl rfl rfl (m := (i : Int) + 1) (c := ((i + 1 : Nat) : Int)) rfl (by first | exact IntWalk.i64_in _ (by omega) | exact IntWalk.i64_in _ (by constructor <;> omega) | (simp only [];omega))) ?_
        refine AOps.read trivial rfl (by decide) (Reader.move (.inr rfl) (ok_const rfl) (v := .lit (.int .i64 ((i + 1 : Nat) : Int))) rfl) ?_
        refine AOps.nil ?_
        exact ⟨_, by omega, i + 1, rfl, rfl, by omega, nx_0 hno (fun e => (by assumption : ¬ (t.getD i 0).toNat = c.toNat) (by rw [e]))⟩
    · skip
      have h1' : ¬ (i < t.length) := (by have hh := of_decide_eq_false h1; omega)
      clear h1
      refine AWp.exit ?_
      refine AWp.seq (AWp.region ?_)
      refine AOps.read trivial rfl (by decide) (Reader.move (.inr rfl) (ok_const rfl) (v := .lit (.int .i64 (-1))) rfl) ?_
      refine AOps.nil ?_
      refine AWp.ret ?_
      exact ⟨.inl rfl, _, ResOf.one 4 (.lit (.int .i64 (-1))) rfl rfl, ⟨absurd (find_end hc hi hno) (by omega), rfl⟩⟩

set_option maxRecDepth 20000 in
theorem rnum_any (t : List UInt8) (hl : t.length ≤ 4294967280) (M : Nat → Option (List AV)) : ACall Tryd.prog 66 [.str t] M (fun r M' => r = .lit (.int .i64 (numR t)) ∧ M = M') := by
  refine ACall.of Tryd.func66 rfl (n := 48) rfl rfl rfl ?_
  refine AWp.seq (AWp.region ?_)
  refine AOps.read trivial rfl (by decide) (Reader.move (.inr rfl) (ok_const rfl) (v := .lit (.int .i64 0)) rfl) ?_
  refine AOps.nil ?_
  refine AWp.seq ?_
  refine AWp.regionJ [22, 0, 2] [] (fun z => ⟨(22, .lit (.bool z)) :: [(0, .str t), (2, .lit (.int .i64 0))], [], M⟩) (z := bif ((t.length : Int) == 0) then true else (bif (decide ((t.length : Int) > 4)) then true else (bif (((t.getD 0 0).toNat : Int) == 48) then (decide ((t.length : Int) > 1)) else false))) ?_ ?_
  · skip
    refine AOps.read trivial rfl (by decide) (Reader.move (.inl rfl) (ok_const rfl) (v := .str t) rfl) ?_
    refine AOps.read trivial rfl (by decide) (Reader.lenStr' (l := t) rfl rfl rfl rfl Tryd.underlying9 rfl (m := t.length) (by first | rfl | simp)) ?_
    refine AOps.read trivial rfl (by decide) (Reader.int rfl rfl rfl (r := .bool ((t.length : Int) == 0)) rfl) ?_
    refine AOps.read trivial rfl (by decide) (Reader.move (.inl rfl) (ok_const rfl) (v := .lit (.bool ((t.length : Int) == 0))) rfl) ?_
    refine AOps.splitJ (t := 8) (b := (t.length : Int) == 0) (x := true) (y := (bif (decide ((t.length : Int) > 4)) then true else (bif (((t.getD 0 0).toNat : Int) == 48) then (decide ((t.length : Int) > 1)) else false))) rfl (fun h1 => ?_) (fun h1 => ?_)
    · skip
      have h1' : t.length = 0 := (by have hh := eq_of_beq h1; omega)
      clear h1
      refine AOps.skip ⟨3, false, 8, _, rfl, rfl, rfl, by simp⟩ rfl (by decide) ?_
      refine AOps.skip ⟨3, false, 8, _, rfl, rfl, rfl, by simp⟩ rfl (by decide) ?_
      refine AOps.skip ⟨3, false, 8, _, rfl, rfl, rfl, by simp⟩ rfl (by decide) ?_
      refine AOps.read trivial rfl (by decide) (Reader.pick rfl (b := true) rfl (ok_const rfl) (ok_const rfl) (v := .lit (.bool true)) rfl) ?_
      refine AOps.read trivial rfl (by decide) (Reader.move (.inl rfl) (ok_const rfl) (v := .lit (.bool true)) rfl) ?_
      refine AOps.skip ⟨8, false, 13, _, rfl, rfl, rfl, by simp⟩ rfl (by decide) ?_
      refine AOps.skip ⟨8, false, 13, _, rfl, rfl, rfl, by simp⟩ rfl (by decide) ?_
      refine AOps.skip ⟨8, false, 13, _, rfl, rfl, rfl, by simp⟩ rfl (by decide) ?_
      refine AOps.skip ⟨8, false, 13, _, rfl, rfl, rfl, by simp⟩ rfl (by decide) ?_
      refine AOps.skip ⟨12, true, 17, _, rfl, rfl, rfl, by simp [undef]⟩ rfl (by decide) ?_
      refine AOps.skip ⟨12, true, 17, _, rfl, rfl, rfl, by simp [undef]⟩ rfl (by decide) ?_
      refine AOps.skip ⟨12, true, 17, _, rfl, rfl, rfl, by simp [undef]⟩ rfl (by decide) ?_
      refine AOps.skip ⟨8, false, 13, _, rfl, rfl, rfl, by simp⟩ rfl (by decide) ?_
      refine AOps.read trivial rfl (by decide) (Reader.pick rfl (b := true) rfl (ok_const rfl) (ok_const rfl) (v := .lit (.bool true)) rfl) ?_
      exact AOps.nil rfl
    · skip
      have h1' : ¬ (t.length = 0) := (by have hh := beq_eq_false_iff_ne.1 h1; omega)
      clear h1
      refine AOps.read ⟨8, rfl, rfl⟩ rfl (by decide) (Reader.move (.inl rfl) (ok_const rfl) (v := .str t) rfl) ?_
      refine AOps.read ⟨8, rfl, rfl⟩ rfl (by decide) (Reader.lenStr' (l := t) rfl rfl rfl rfl Tryd.underlying9 rfl (m := t.length) (by first | rfl | simp)) ?_
      refine AOps.read ⟨8, rfl, rfl⟩ rfl (by decide) (Reader.int rfl rfl rfl (r := .bool (decide ((t.length : Int) > 4))) rfl) ?_
      refine AOps.read trivial rfl (by decide) (Reader.pick rfl (b := false) rfl (ok_const rfl) (ok_const rfl) (v := .lit (.bool (decide ((t.length : Int) > 4)))) rfl) ?_
      refine AOps.read trivial rfl (by decide) (Reader.move (.inl rfl) (ok_const rfl) (v := .lit (.bool (decide ((t.length : Int) > 4)))) rfl) ?_
      refine AOps.splitJ (t := 13) (b := decide ((t.length : Int) > 4)) (x := true) (y := (bif (((t.getD 0 0).toNat : Int) == 48) then (decide ((t.length : Int) > 1)) else false)) rfl (fun h2 => ?_) (fun h2 => ?_)
      · skip
        have h2' : t.length > 4 := (by have hh := of_decide_eq_true h2; omega)
        clear h2
        refine AOps.skip ⟨8, false, 13, _, rfl, rfl, rfl, by simp⟩ rfl (by decide) ?_
        refine AOps.skip ⟨8, false, 13, _, rfl, rfl, rfl, by simp⟩ rfl (by decide) ?_
        refine AOps.skip ⟨8, false, 13, _, rfl, rfl, rfl, by simp⟩ rfl (by decide) ?_
        refine AOps.skip ⟨8, false, 13, _, rfl, rfl, rfl, by simp⟩ rfl (by decide) ?_
        refine AOps.skip ⟨12, true, 17, _, rfl, rfl, rfl, by simp [undef]⟩ rfl (by decide) ?_
        refine AOps.skip ⟨12, true, 17, _, rfl, rfl, rfl, by simp [undef]⟩ rfl (by decide) ?_
        refine AOps.skip ⟨12, true, 17, _, rfl, rfl, rfl, by simp [undef]⟩ rfl (by decide) ?_
        refine AOps.skip ⟨8, false, 13, _, rfl, rfl, rfl, by simp⟩ rfl (by decide) ?_
        refine AOps.read trivial rfl (by decide) (Reader.pick rfl (b := true) rfl (ok_const rfl) (ok_const rfl) (v := .lit (.bool true)) rfl) ?_
        exact AOps.nil rfl
      · skip
        have h2' : ¬ (t.length > 4) := (by have hh := of_decide_eq_false h2; omega)
        clear h2
        refine AOps.read ⟨13, rfl, rfl⟩ rfl (by decide) (Reader.move (.inl rfl) (ok_const rfl) (v := .str t) rfl) ?_
        refine AOps.read ⟨13, rfl, rfl⟩ rfl (by decide) (Reader.byte (m := 0) (c := t.getD 0 0) rfl Tryd.underlying9 rfl rfl rfl (getD_some (by first | omega | (simp; omega)))) ?_
        refine AOps.read ⟨13, rfl, rfl⟩ rfl (by decide) (Reader.int rfl rfl rfl (r := .bool (((t.getD 0 0).toNat : Int) == 48)) rfl) ?_
        refine AOps.read ⟨13, rfl, rfl⟩ rfl (by decide) (Reader.move (.inl rfl) (ok_const rfl) (v := .lit (.bool (((t.getD 0 0).toNat : Int) == 48))) rfl) ?_
        refine AOps.splitJ (t := 17) (b := ((t.getD 0 0).toNat : Int) == 48) (x := (decide ((t.length : Int) > 1))) (y := false) rfl (fun h3 => ?_) (fun h3 => ?_)
        · skip
          have h3' : ((t.getD 0 0).toNat) = 48 := (by have hh := eq_of_beq h3; omega)
          clear h3
          refine AOps.read ⟨17, rfl, rfl⟩ rfl (by decide) (Reader.move (.inl rfl) (ok_const rfl) (v := .str t) rfl) ?_
          refine AOps.read ⟨17, rfl, rfl⟩ rfl (by decide) (Reader.lenStr' (l := t) rfl rfl rfl rfl Tryd.underlying9 rfl (m := t.length) (by first | rfl | simp)) ?_
          refine AOps.read ⟨17, rfl, rfl⟩ rfl (by decide) (Reader.int rfl rfl rfl (r := .bool (decide ((t.length : Int) > 1))) rfl) ?_
          refine AOps.read ⟨13, rfl, rfl⟩ rfl (by decide) (Reader.pick rfl (b := true) rfl (ok_const rfl) (ok_const rfl) (v := .lit (.bool (decide ((t.length : Int) > 1)))) rfl) ?_
          refine AOps.read trivial rfl (by decide) (Reader.pick rfl (b := false) rfl (ok_const rfl) (ok_const rfl) (v := .lit (.bool (decide ((t.length : Int) > 1)))) rfl) ?_
          exact AOps.nil rfl
        · skip
          have h3' : ¬ (((t.getD 0 0).toNat) = 48) := (by have hh := beq_eq_false_iff_ne.1 h3; omega)
          clear h3
          refine AOps.skip ⟨12, true, 17, _, rfl, rfl, rfl, by simp⟩ rfl (by decide) ?_
          refine AOps.skip ⟨12, true, 17, _, rfl, rfl, rfl, by simp⟩ rfl (by decide) ?_
          refine AOps.skip ⟨12, true, 17, _, rfl, rfl, rfl, by simp⟩ rfl (by decide) ?_
          refine AOps.read ⟨13, rfl, rfl⟩ rfl (by decide) (Reader.pick rfl (b := false) rfl (ok_const rfl) (ok_const rfl) (v := .lit (.bool false)) rfl) ?_
          refine AOps.read trivial rfl (by decide) (Reader.pick rfl (b := false) rfl (ok_const rfl) (ok_const rfl) (v := .lit (.bool false)) rfl) ?_
          exact AOps.nil rfl
  refine AWp.cond (b := bif ((t.length : Int) == 0) then true else (bif (decide ((t.length : Int) > 4)) then true else (bif (((t.getD 0 0).toNat : Int) == 48) then (decide ((t.length : Int) > 1)) else false))) rfl (fun h4 => ?_) (fun h4 => ?_)
  · skip
    have h4' : NumBad t := (nb_t h4)
    clear h4
    refine AWp.seq (AWp.region ?_)
    refine AOps.read trivial rfl (by decide) (Reader.move (.inr rfl) (ok_const rfl) (v := .lit (.int .i64 (-1))) rfl) ?_
    refine AOps.nil ?_
    refine AWp.ret ?_
    exact ⟨.inl rfl, _, ResOf.one 2 (.lit (.int .i64 (-1))) rfl rfl, ⟨congrArg (fun x : Int => AV.lit (.int .i64 x)) (by first | exact (rnum_no (by assumption)).symm | exact (rnum_bad hb (by omega) (by assumption)).symm), rfl⟩⟩
  · skip
    have h4' : ¬ NumBad t := (nb_f h4)
    clear h4
    refine AWp.skip ?_
    refine AWp.seq (AWp.region ?_)
    refine AOps.read trivial rfl (by decide) (Reader.move (.inr rfl) (ok_const rfl) (v := .lit (.int .i64 0)) rfl) ?_
    refine AOps.nil ?_
    refine AWp.seq ?_
    refine AWp.seq (AWp.region ?_)
    refine AOps.read trivial rfl (by decide) (Reader.move (.inr rfl) (ok_const rfl) (v := .lit (.int .i64 0)) rfl) ?_
    refine AOps.nil ?_
    refine AWp.block ?_
    refine AWp.loopE [0, 3, 4] [] (fun m s => ∃ (i : Nat), m = t.length - i ∧ s = ⟨[(0, .str t), (3, .lit (.int .i64 ((decV (t.take i) : Nat) : Int))), (4, .lit (.int .i64 (i : Int)))], [], M⟩ ∧ (i ≤ t.length) ∧ (¬ NumBad t) ∧ (∀ j, j < i → isD (t.getD j 0) = true)) ?_ ?_
    · exact ⟨_, 0, rfl, rfl, Nat.zero_le _, by assumption, fun j hj => by omega⟩
    · rintro _ _ ⟨i, rfl, rfl, hi, hb, hall⟩
      have h4 := nb_len hb
      have hdl := dec_le4 (i := i) (by omega) hall
      refine AWp.seq ?_
      refine AWp.seq (AWp.region ?_)
      refine AOps.read trivial rfl (by decide) (Reader.move (.inl rfl) (ok_const rfl) (v := .lit (.int .i64 (i : Int))) rfl) ?_
      refine AOps.read trivial rfl (by decide) (Reader.move (.inl rfl) (ok_const rfl) (v := .str t) rfl) ?_
      refine AOps.read trivial rfl (by decide) (Reader.lenStr' (l := t) rfl rfl rfl rfl Tryd.underlying9 rfl (m := t.length) (by first | rfl | simp)) ?_
      refine AOps.read trivial rfl (by decide) (Reader.int rfl rfl rfl (r := .bool (decide ((i : Int) < (t.length : Int)))) rfl) ?_
      refine AOps.nil ?_
      refine AWp.cond (b := decide ((i : Int) < (t.length : Int))) rfl (fun h5 => ?_) (fun h5 => ?_)
      · skip
        have h5' : i < t.length := (by have hh := of_decide_eq_true h5; omega)
        clear h5
        refine AWp.skip ?_
        refine AWp.seq ?_
        refine AWp.block ?_
        refine AWp.seq ?_
        refine AWp.regionJ [38, 0, 3, 4, 26] [] (fun z => ⟨(38, .lit (.bool z)) :: [(0, .str t), (3, .lit (.int .i64 ((decV (t.take i) : Nat) : Int))), (4, .lit (.int .i64 (i : Int))), (26, .lit (.bool (decide ((i : Int) < (t.length : Int)))))], [], M⟩) (z := bif (decide (((t.getD i 0).toNat : Int) < 48)) then true else (decide (((t.getD i 0).toNat : Int) > 57))) ?_ ?_
        · skip
          refine AOps.read trivial rfl (by decide) (Reader.move (.inl rfl) (ok_const rfl) (v := .str t) rfl) ?_
          refine AOps.read trivial rfl (by decide) (Reader.move (.inl rfl) (ok_const rfl) (v := .lit (.int .i64 (i : Int))) rfl) ?_
          refine AOps.read trivial rfl (by decide) (Reader.byte (m := i) (c := t.getD i 0) rfl Tryd.underlying9 rfl rfl rfl (getD_some (by first | omega | (simp; omega)))) ?_
          refine AOps.read trivial rfl (by decide) (Reader.int rfl rfl rfl (r := .bool (decide (((t.getD i 0).toNat : Int) < 48))) rfl) ?_
          refine AOps.read trivial rfl (by decide) (Reader.move (.inl rfl) (ok_const rfl) (v := .lit (.bool (decide (((t.getD i 0).toNat : Int) < 48)))) rfl) ?_
          refine AOps.splitJ (t := 33) (b := decide (((t.getD i 0).toNat : Int) < 48)) (x := true) (y := (decide (((t.getD i 0).toNat : Int) > 57))) rfl (fun h6 => ?_) (fun h6 => ?_)
          · skip
            have h6' : ((t.getD i 0).toNat) < 48 := (by have hh := of_decide_eq_true h6; omega)
            clear h6
            refine AOps.skip ⟨4, false, 33, _, rfl, rfl, rfl, by simp⟩ rfl (by decide) ?_
            refine AOps.skip ⟨4, false, 33, _, rfl, rfl, rfl, by simp⟩ rfl (by decide) ?_
            refine AOps.skip ⟨4, false, 33, _, rfl, rfl, rfl, by simp⟩ rfl (by decide) ?_
            refine AOps.skip ⟨4, false, 33, _, rfl, rfl, rfl, by simp⟩ rfl (by decide) ?_
            refine AOps.read trivial rfl (by decide) (Reader.pick rfl (b := true) rfl (ok_const rfl) (ok_const rfl) (v := .lit (.bool true)) rfl) ?_
            exact AOps.nil rfl
          · skip
            have h6' : ¬ (((t.getD i 0).toNat) < 48) := (by have hh := of_decide_eq_false h6; omega)
            clear h6
            refine AOps.read ⟨33, rfl, rfl⟩ rfl (by decide) (Reader.move (.inl rfl) (ok_const rfl) (v := .str t) rfl) ?_
            refine AOps.read ⟨33, rfl, rfl⟩ rfl (by decide) (Reader.move (.inl rfl) (ok_const rfl) (v := .lit (.int .i64 (i : Int))) rfl) ?_
            refine AOps.read ⟨33, rfl, rfl⟩ rfl (by decide) (Reader.byte (m := i) (c := t.getD i 0) rfl Tryd.underlying9 rfl rfl rfl (getD_some (by first | omega | (simp; omega)))) ?_
            refine AOps.read ⟨33, rfl, rfl⟩ rfl (by decide) (Reader.int rfl rfl rfl (r := .bool (decide (((t.getD i 0).toNat : Int) > 57))) rfl) ?_
            refine AOps.read trivial rfl (by decide) (Reader.pick rfl (b := false) rfl (ok_const rfl) (ok_const rfl) (v := .lit (.bool (decide (((t.getD i 0).toNat : Int) > 57)))) rfl) ?_
            exact AOps.nil rfl
        refine AWp.cond (b := bif (decide (((t.getD i 0).toNat : Int) < 48)) then true else (decide (((t.getD i 0).toNat : Int) > 57))) rfl (fun h7 => ?_) (fun h7 => ?_)
        · skip
          have h7' : isD (t.getD i 0) = false := (nd_t h7)
          clear h7
          refine AWp.seq (AWp.region ?_)
          refine AOps.read trivial rfl (by decide) (Reader.move (.inr rfl) (ok_const rfl) (v := .lit (.int .i64 (-1))) rfl) ?_
          refine AOps.nil ?_
          refine AWp.ret ?_
          exact ⟨.inl rfl, _, ResOf.one 2 (.lit (.int .i64 (-1))) rfl rfl, ⟨congrArg (fun x : Int => AV.lit (.int .i64 x)) (by first | exact (rnum_no (by assumption)).symm | exact (rnum_bad hb (by omega) (by assumption)).symm), rfl⟩⟩
        · skip
          have h7' : isD (t.getD i 0) = true ∧ 48 ≤ (t.getD i 0).toNat ∧ (t.getD i 0).toNat ≤ 57 := (nd_f h7)
          clear h7
          refine AWp.skip ?_
          refine AWp.region ?_
          refine AOps.read trivial rfl (by decide) (Reader.move (.inl rfl) (ok_const rfl) (v := .lit (.int .i64 ((decV (t.take i) : Nat) : Int))) rfl) ?_
          refine AOps.read trivial rfl (by decide) (Reader.sum rfl rfl rfl (m := 10 * ((decV (t.take i) : Nat) : Int)) (c := ((10 * (decV (t.take i)) : Nat) : Int)) rfl (by first | exact IntWalk.i64_in _ (by omega) | exact IntWalk.i64_in _ (by constructor <;> omega) | (simp only [];omega))) ?_
          refine AOps.read trivial rfl (by decide) (Reader.move (.inl rfl) (ok_const rfl) (v := .str t) rfl) ?_
          refine AOps.read trivial rfl (by decide) (Reader.move (.inl rfl) (ok_const rfl) (v := .lit (.int .i64 (i : Int))) rfl) ?_
          refine AOps.read trivial rfl (by decide) (Reader.byte (m := i) (c := t.getD i 0) rfl Tryd.underlying9 rfl rfl rfl (getD_some (by first | omega | (simp; omega)))) ?_
          refine AOps.read trivial rfl (by decide) (Reader.conv rfl Tryd.underlying5 Tryd.underlying3 (by simp) rfl (c := ((t.getD i 0).toNat : Int)) (by first | exact IntWalk.i64_in _ (by omega) | exact IntWalk.i64_in _ (by constructor <;> omega) | (simp only [];omega))) ?_
          refine AOps.read trivial rfl (by decide) (Reader.sum rfl rfl rfl (m := ((10 * (decV (t.take i)) : Nat) : Int) + ((t.getD i 0).toNat : Int)) (c := (((10 * (decV (t.take i))) + ((t.getD i 0).toNat) : Nat) : Int)) rfl (by first | exact IntWalk.i64_in _ (by omega) | exact IntWalk.i64_in _ (by constructor <;> omega) | (simp only [];omega))) ?_
          refine AOps.read trivial rfl (by decide) (Reader.sum rfl rfl rfl (m := (((10 * (decV (t.take i))) + ((t.getD i 0).toNat) : Nat) : Int) - 48) (c := ((((10 * (decV (t.take i))) + ((t.getD i 0).toNat)) - 48 : Nat) : Int)) rfl (by rw [IntWalk.i64_in _ (by omega)]; omega)) ?_
          refine AOps.read trivial rfl (by decide) (Reader.move (.inr rfl) (ok_const rfl) (v := .lit (.int .i64 ((((10 * (decV (t.take i))) + ((t.getD i 0).toNat)) - 48 : Nat) : Int))) rfl) ?_
          refine AOps.nil ?_
          refine AWp.region ?_
          refine AOps.read trivial rfl (by decide) (Reader.move (.inl rfl) (ok_const rfl) (v := .lit (.int .i64 (i : Int))) rfl) ?_
          refine AOps.read trivial rfl (by decide) (Reader.sum rfl rfl rfl (m := (i : Int) + 1) (c := ((i + 1 : Nat) : Int)) rfl (by first | exact IntWalk.i64_in _ (by omega) | exact IntWalk.i64_in _ (by constructor <;> omega) | (simp only [];omega))) ?_
          refine AOps.read trivial rfl (by decide) (Reader.move (.inr rfl) (ok_const rfl) (v := .lit (.int .i64 ((i + 1 : Nat) : Int))) rfl) ?_
          refine AOps.nil ?_
          exact ⟨_, by omega, i + 1, rfl, (by rw [← dec_step4 (by omega) (by omega) (by assumption)]; rfl), by omega, hb, nx_0 hall (by have hx := (by assumption : isD (t.getD i 0) = true ∧ 48 ≤ (t.getD i 0).toNat ∧ (t.getD i 0).toNat ≤ 57); exact hx.1)⟩
      · skip
        have h5' : ¬ (i < t.length) := (by have hh := of_decide_eq_false h5; omega)
        clear h5
        refine AWp.exit ?_
        refine AWp.seq (AWp.region ?_)
        refine AOps.read trivial rfl (by decide) (Reader.move (.inl rfl) (ok_const rfl) (v := .lit (.int .i64 ((decV (t.take i) : Nat) : Int))) rfl) ?_
        refine AOps.read trivial rfl (by decide) (Reader.move (.inr rfl) (ok_const rfl) (v := .lit (.int .i64 ((decV (t.take i) : Nat) : Int))) rfl) ?_
        refine AOps.nil ?_
        refine AWp.ret ?_
        exact ⟨.inl rfl, _, ResOf.one 2 (.lit (.int .i64 ((decV (t.take i) : Nat) : Int))) rfl rfl, ⟨congrArg (fun x : Int => AV.lit (.int .i64 x)) ((rnum_ok hb hall (by omega)).symm), rfl⟩⟩

end Go.Proofs.YtlpihekflkjkfaaDoor
