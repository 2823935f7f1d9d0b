/- Numbers in digits, plainly; a text cut at a byte: no program in sight. -/
import Derived.Test.YtlpihekflkjkfaaDoorQuP2
import Derived.Lib.AtoiAll
import Derived.Lib.AtoiAllCases
import Derived.Lib.IndexMore
import Derived.Lib.Strings
namespace Go.Proofs.YtlpihekflkjkfaaDoor
open Go.RowKit

theorem parse_app (l r : List UInt8) : ∀ acc, Lib.parseUint10 acc (l ++ r) = match Lib.parseUint10 acc l with | .ok a => Lib.parseUint10 a r | e => e := by
  induction l with
  | nil => intro acc; rfl
  | cons c t ih =>
    intro acc
    simp only [List.cons_append, Lib.parseUint10]
    split
    · split
      · rfl
      · split
        · rfl
        · exact ih _
    · rfl
theorem dig_nat {n : Nat} (h : n < 10) : (UInt8.ofNat (48 + n)).toNat = 48 + n := UInt8.toNat_ofNat_of_lt' (by show 48 + n < 256; omega)
theorem parse_one {n : Nat} (h : n < 10) (a : Nat) (ha : a * 10 + n ≤ 9223372036854775807) : Lib.parseUint10 a [UInt8.ofNat (48 + n)] = .ok (a * 10 + n) := by
  have e : a * 10 + (48 + n - 48) = a * 10 + n := by omega
  simp only [Lib.parseUint10, dig_nat h]
  rw [if_pos (by omega), if_neg (by omega), if_neg (by omega), e]
theorem parse_digs (n : Nat) (hn : n ≤ 9223372036854775807) : Lib.parseUint10 0 (digs n) = .ok n := by
  induction n using Nat.strongRecOn with
  | _ n ih =>
    by_cases h : n < 10
    · rw [digs_small h, parse_one h 0 (by omega)]; congr 1; omega
    · rw [digs_snoc h, parse_app, ih (n / 10) (by omega) (by omega)]
      show Lib.parseUint10 (n / 10) [UInt8.ofNat (48 + n % 10)] = _
      rw [parse_one (by omega) (n / 10) (by omega)]; congr 1; omega
theorem digs_head (n : Nat) : ∃ c r, digs n = c :: r ∧ 48 ≤ c.toNat ∧ c.toNat ≤ 57 ∧ (1 ≤ n → c.toNat ≠ 48) := by
  induction n using Nat.strongRecOn with
  | _ n ih =>
    by_cases h : n < 10
    · exact ⟨_, _, digs_small h, by rw [dig_nat h]; omega, by rw [dig_nat h]; omega, by rw [dig_nat h]; omega⟩
    · obtain ⟨c, r, e, h1, h2, h3⟩ := ih (n / 10) (by omega)
      exact ⟨c, r ++ [UInt8.ofNat (48 + n % 10)], by rw [digs_snoc h, e]; rfl, h1, h2, fun _ => h3 (by omega)⟩
theorem atoi_digs (n : Nat) (hn : n ≤ 9223372036854775807) : Lib.atoiAll (digs n) = .ok (n : Int) := by
  obtain ⟨c, r, e, h1, h2, _⟩ := digs_head n
  have hp := parse_digs n hn
  rw [e] at hp ⊢
  rw [Lib.atoiAll_plain c r (by omega) (by omega)]
  unfold Lib.parseMag
  rw [if_neg (by simp), hp]
  unfold Lib.signless
  simp only
  rw [if_neg (by omega)]

/-- thresh's number: digits without zeros ahead; 0: it is none. -/
def numT (s : List UInt8) : Int := match Lib.atoiAll s with | .ok n => if Lib.itoa n = s then n else 0 | _ => 0
theorem numT_digs (n : Nat) (hn : n ≤ 9223372036854775807) : numT (digs n) = n := by
  unfold numT; rw [atoi_digs n hn]; simp only; rw [if_pos (itoa_digs n)]
theorem numT_pos {s : List UInt8} (h : 1 ≤ numT s) : s = digs (numT s).toNat ∧ numT s ≤ 9223372036854775807 := by
  unfold numT at h ⊢
  split at h
  · rename_i n hn
    have hb := Lib.atoiAll_bounds hn
    split at h
    · rename_i he
      rw [if_pos he]
      refine ⟨?_, hb.2⟩
      have := itoa_digs n.toNat
      rw [show ((n.toNat : Nat) : Int) = n by omega] at this
      rw [← this, he]
    · omega
  · omega
theorem numT_zero (n : Nat) : numT (48 :: digs n) = 0 := by
  rcases Int.lt_or_le 0 (numT (48 :: digs n)) with h | h
  · obtain ⟨e, _⟩ := numT_pos h
    obtain ⟨c, r, e2, _, _, h3⟩ := digs_head (numT (48 :: digs n)).toNat
    rw [e2] at e
    injection e with e4 e5
    exact absurd (by rw [← e4]; rfl) (h3 (by omega))
  · unfold numT at h ⊢
    split
    · rename_i z hz
      rw [hz] at h
      simp only at h
      split
      · rename_i he
        rw [if_pos he] at h
        rcases Int.lt_or_le z 0 with h0 | h0
        · unfold Lib.itoa at he
          rw [if_pos h0] at he
          injection he with he _
          cases he
        · omega
      · rfl
    · rfl

theorem decV_lt : ∀ (l : List UInt8), (∀ c ∈ l, isD c = true) → decV l < 10 ^ l.length := by
  intro l
  induction hn : l.length generalizing l with
  | zero =>
    intro _
    rw [List.length_eq_zero_iff.1 hn]; decide
  | succ k ih =>
    intro hd
    have hne : l ≠ [] := by intro e; rw [e] at hn; cases hn
    have hl := List.dropLast_concat_getLast hne
    have hk : l.dropLast.length = k := by rw [List.length_dropLast, hn]; rfl
    have h1 := ih l.dropLast hk (fun c hc => hd c ((List.dropLast_sublist l).mem hc))
    have h2 := hd (l.getLast hne) (List.getLast_mem hne)
    rw [isD_iff] at h2
    simp only [Bool.and_eq_true, decide_eq_true_eq] at h2
    rw [← hl, decV_snoc]
    have h3 : satN (decV l.dropLast * 10 + ((l.getLast hne).toNat - 48)) ≤ decV l.dropLast * 10 + ((l.getLast hne).toNat - 48) := by unfold satN; split <;> omega
    rw [Nat.pow_succ]
    omega
theorem digs_decV : ∀ (l : List UInt8), l ≠ [] → (∀ c ∈ l, isD c = true) → (∀ r, l = 48 :: r → r = []) → l.length ≤ 18 → digs (decV l) = l := by
  intro l
  induction hn : l.length generalizing l with
  | zero => intro h; exact absurd (List.length_eq_zero_iff.1 hn) h
  | succ k ih =>
    intro hne hd h48 hlen
    have hl := List.dropLast_concat_getLast hne
    have hk : l.dropLast.length = k := by rw [List.length_dropLast, hn]; rfl
    have hdd : ∀ c ∈ l.dropLast, isD c = true := fun c hc => hd c ((List.dropLast_sublist l).mem hc)
    have h2 := hd (l.getLast hne) (List.getLast_mem hne)
    generalize hg : l.getLast hne = c at hl h2
    rw [isD_iff] at h2
    simp only [Bool.and_eq_true, decide_eq_true_eq] at h2
    have hc : UInt8.ofNat (48 + (c.toNat - 48)) = c := by
      rw [show 48 + (c.toNat - 48) = c.toNat by omega]; exact UInt8.ofNat_toNat
    by_cases h0 : l.dropLast = []
    · rw [h0, List.nil_append] at hl
      rw [← hl, show decV [c] = c.toNat - 48 by
        have := decV_snoc [] c
        rw [List.nil_append] at this
        rw [this, show decV [] = 0 from rfl, satN_of (by omega)]; omega]
      rw [digs_small (by omega), hc]
    · have hlt := decV_lt l.dropLast hdd
      have hlt2 : decV l.dropLast < 10 ^ 17 := Nat.lt_of_lt_of_le hlt (Nat.pow_le_pow_right (by decide) (by omega))
      have hi := ih l.dropLast hk h0 hdd (fun r e => by
        rw [e] at hl
        have := h48 (r ++ [c]) hl.symm
        simp at this) (by omega)
      have hpos : 1 ≤ decV l.dropLast := by
        rcases Nat.eq_zero_or_pos (decV l.dropLast) with h | h
        · rw [h, digs_small (by decide)] at hi
          rw [← hi] at hl
          have := h48 [c] hl.symm
          simp at this
        · exact h
      have e1 : decV l = decV l.dropLast * 10 + (c.toNat - 48) := by
        conv => lhs; rw [← hl]
        rw [decV_snoc, satN_of (by omega)]
      rw [e1, digs_snoc (by omega), show (decV l.dropLast * 10 + (c.toNat - 48)) / 10 = decV l.dropLast by omega, show (decV l.dropLast * 10 + (c.toNat - 48)) % 10 = c.toNat - 48 by omega, hi, hc]
      exact hl

/-- The document's number: up to four digits without zeros ahead; below 0: it is none. -/
def numR (s : List UInt8) : Int := if s = [] ∨ 4 < s.length ∨ (s.getD 0 0 = 48 ∧ 1 < s.length) then -1 else if s.all isD then (decV s : Int) else -1
theorem numR_digs (n : Nat) (hn : n ≤ 9999) : numR (digs n) = n := by
  obtain ⟨c, r, e, h1, h2, h3⟩ := digs_head n
  have hl := digs_len n 4 (by omega) (by decide)
  unfold numR
  rw [if_neg, if_pos, decV_digs, satN_of (by omega)]
  · exact List.all_eq_true.2 (digs_isD n)
  · rintro (h | h | ⟨h, h'⟩)
    · exact digs_ne n h
    · omega
    · rcases Nat.eq_zero_or_pos n with h0 | h0
      · subst h0; rw [digs_small (by decide)] at h'; revert h'; decide
      · rw [e] at h
        exact h3 h0 (by have : c = 48 := h; rw [this]; rfl)
theorem numR_is {s : List UInt8} (h : 0 ≤ numR s) : s = digs (numR s).toNat ∧ numR s ≤ 9999 := by
  unfold numR at h ⊢
  split at h
  · omega
  · rename_i hc
    split at h
    · rename_i hd
      rw [if_neg hc, if_pos hd]
      have hd' := List.all_eq_true.1 hd
      have hlt := decV_lt s hd'
      have hlen : s.length ≤ 4 := by rcases Nat.lt_or_ge 4 s.length with h | h; exact absurd (.inr (.inl h)) hc; exact h
      have hle : (10 : Nat) ^ s.length ≤ 10 ^ 4 := Nat.pow_le_pow_right (by decide) hlen
      refine ⟨?_, by omega⟩
      rw [Int.toNat_natCast]
      refine (digs_decV s (fun e => hc (.inl e)) hd' (fun r e => ?_) (by omega)).symm
      rcases r with _ | ⟨a, b⟩
      · rfl
      · exact absurd (.inr (.inr ⟨by rw [e]; rfl, by rw [e]; simp⟩)) hc
    · omega
theorem num_same (s : List UInt8) : numR s = numT s ∨ ((numR s < 1 ∨ 1000 < numR s) ∧ (numT s < 1 ∨ 1000 < numT s)) := by
  rcases Int.lt_or_le (numR s) 1 with h | h
  · rcases Int.lt_or_le (numT s) 1 with h2 | h2
    · exact .inr ⟨.inl h, .inl h2⟩
    · rcases Int.lt_or_le 1000 (numT s) with h3 | h3
      · exact .inr ⟨.inl h, .inr h3⟩
      · have e := (numT_pos h2).1
        have := numR_digs (numT s).toNat (by omega)
        rw [← e] at this; omega
  · obtain ⟨e, hb⟩ := numR_is (s := s) (by omega)
    have := numT_digs (numR s).toNat (by omega)
    rw [← e] at this
    exact .inl (by omega)

/-- A text, cut at a byte's first place. -/
def cutA (c : UInt8) (s : List UInt8) : List UInt8 × List UInt8 × Bool := (s.takeWhile (· != c), (s.dropWhile (· != c)).drop 1, s.contains c)
theorem index_hit {c b : UInt8} (l : List UInt8) (h : b = c) : Lib.index (b :: l) [c] = 0 := by
  subst h; unfold Lib.index; rw [if_pos (by simp [List.isPrefixOf])]
theorem index_miss {c b : UInt8} (l : List UInt8) (h : b ≠ c) : Lib.index (b :: l) [c] = if Lib.index l [c] = -1 then -1 else Lib.index l [c] + 1 := by
  have h1 : ([c] : List UInt8).isPrefixOf (b :: l) = false := by simp [List.isPrefixOf, Ne.symm h]
  conv => lhs; unfold Lib.index
  rw [h1]
  by_cases e : Lib.index l [c] = -1
  · rw [e]; rfl
  · rw [if_neg e, if_neg (by decide), if_neg (by simpa using e)]
theorem cut_one (c : UInt8) (s : List UInt8) : Lib.cut s [c] = cutA c s := by
  have key : ∀ s : List UInt8, (Lib.index s [c] = -1 ∧ s.takeWhile (· != c) = s ∧ s.dropWhile (· != c) = [] ∧ s.contains c = false) ∨ (∃ i : Nat, Lib.index s [c] = i ∧ s.takeWhile (· != c) = s.take i ∧ (s.dropWhile (· != c)).drop 1 = s.drop (i + 1) ∧ s.contains c = true) := by
    intro s
    induction s with
    | nil => exact .inl ⟨rfl, rfl, rfl, rfl⟩
    | cons b l ih =>
      by_cases h : b = c
      · subst h
        exact .inr ⟨0, index_hit l rfl, by simp, by simp, by simp⟩
      · have hb : (b != c) = true := bne_iff_ne.2 h
        rcases ih with ⟨h1, h2, h3, h4⟩ | ⟨i, h1, h2, h3, h4⟩
        · refine .inl ⟨by rw [index_miss l h, h1]; rfl, ?_, ?_, ?_⟩
          · simp only [List.takeWhile_cons, hb, if_true]; rw [h2]
          · simp only [List.dropWhile_cons, hb, if_true]; rw [h3]
          · simp only [List.contains_cons, h4, Bool.or_false, beq_eq_false_iff_ne]; exact fun e => h e.symm
        · refine .inr ⟨i + 1, by rw [index_miss l h, h1, if_neg (by omega)]; omega, ?_, ?_, ?_⟩
          · simp only [List.takeWhile_cons, hb, if_true]; rw [h2, List.take_succ_cons]
          · simp only [List.dropWhile_cons, hb, if_true]; rw [h3, List.drop_succ_cons]
          · simp only [List.contains_cons, h4, Bool.or_true]
  unfold Lib.cut cutA
  rcases key s with ⟨h1, h2, h3, h4⟩ | ⟨i, h1, h2, h3, h4⟩
  · rw [if_neg (by omega), h2, h3, h4]; rfl
  · rw [if_pos (by omega), h1, h2, h3, h4, Int.toNat_natCast]; rfl
theorem cutA_app {c : UInt8} {a : List UInt8} (b : List UInt8) (h : ∀ x ∈ a, x ≠ c) : cutA c (a ++ c :: b) = (a, b, true) := by
  have hp : ∀ x ∈ a, (x != c) = true := fun x hx => bne_iff_ne.2 (h x hx)
  unfold cutA
  rw [List.takeWhile_append_of_pos hp, List.dropWhile_append_of_pos hp]
  simp
theorem cutA_none {c : UInt8} {a : List UInt8} (h : ∀ x ∈ a, x ≠ c) : cutA c a = (a, [], false) := by
  have key : ∀ a : List UInt8, (∀ x ∈ a, x ≠ c) → a.takeWhile (· != c) = a ∧ a.dropWhile (· != c) = [] ∧ a.contains c = false := by
    intro a
    induction a with
    | nil => intro _; exact ⟨rfl, rfl, rfl⟩
    | cons b l ih =>
      intro h
      have hb : (b != c) = true := bne_iff_ne.2 (h b (List.mem_cons_self ..))
      obtain ⟨h1, h2, h3⟩ := ih (fun x hx => h x (List.mem_cons_of_mem _ hx))
      refine ⟨by simp only [List.takeWhile_cons, hb, if_true]; rw [h1], by simp only [List.dropWhile_cons, hb, if_true]; rw [h2], ?_⟩
      simp only [List.contains_cons, h3, Bool.or_false, beq_eq_false_iff_ne]
      exact (h b (List.mem_cons_self ..)).symm
  obtain ⟨h1, h2, h3⟩ := key a h
  unfold cutA
  rw [h1, h2, h3]; rfl
theorem cutA_len (c : UInt8) (s : List UInt8) : (cutA c s).1.length ≤ s.length ∧ (cutA c s).2.1.length ≤ s.length := by
  refine ⟨(List.takeWhile_sublist _).length_le, ?_⟩
  have := (List.dropWhile_sublist (l := s) (· != c)).length_le
  show ((s.dropWhile (· != c)).drop 1).length ≤ _
  rw [List.length_drop]; omega
end Go.Proofs.YtlpihekflkjkfaaDoor
