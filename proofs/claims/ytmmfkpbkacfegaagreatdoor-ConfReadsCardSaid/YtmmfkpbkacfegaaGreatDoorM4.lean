/- NumP, ThP, SplS, LgP, OpenS, OpenP. -/
import Derived.Test.YtmmfkpbkacfegaaGreatDoorM3
import Derived.Lib.AtoiAll
import Derived.Lib.AtoiAllCases
import Derived.Lib.IndexMore
import Derived.Lib.Strings
import Derived.Test.YtmmfkpbkacfegaaGreatDoorM2
import Derived.Test.YtmmfkpbkacfegaaGreatDoorPShelf
import Derived.Lib.Join
import Derived.Lib.SmallJoins
import Derived.Test.YtmmfkpbkacfegaaGreatDoorM1
namespace Go.Proofs.YtmmfkpbkacfegaaGreatDoor
section
open Go.RowKit

theorem parse_app (l r : List UInt8) : ∀ acc, Lib.parseUint10 acc (l ++ r) = match Lib.parseUint10 acc l with | .ok a => Lib.parseUint10 a r | e => e := by
  induction l with
  | nil => intro acc; rfl
  | cons c t ih =>
    intro acc
    simp only [List.cons_append, Lib.parseUint10]
    split
    · split
      · rfl
      · split
        · rfl
        · exact ih _
    · rfl
theorem dig_nat {n : Nat} (h : n < 10) : (UInt8.ofNat (48 + n)).toNat = 48 + n := UInt8.toNat_ofNat_of_lt' (by show 48 + n < 256; omega)
theorem parse_one {n : Nat} (h : n < 10) (a : Nat) (ha : a * 10 + n ≤ 9223372036854775807) : Lib.parseUint10 a [UInt8.ofNat (48 + n)] = .ok (a * 10 + n) := by
  have e : a * 10 + (48 + n - 48) = a * 10 + n := by omega
  simp only [Lib.parseUint10, dig_nat h]
  rw [if_pos (by omega), if_neg (by omega), if_neg (by omega), e]
theorem parse_digs (n : Nat) (hn : n ≤ 9223372036854775807) : Lib.parseUint10 0 (digs n) = .ok n := by
  induction n using Nat.strongRecOn with
  | _ n ih =>
    by_cases h : n < 10
    · rw [digs_small h, parse_one h 0 (by omega)]; congr 1; omega
    · rw [digs_snoc h, parse_app, ih (n / 10) (by omega) (by omega)]
      show Lib.parseUint10 (n / 10) [UInt8.ofNat (48 + n % 10)] = _
      rw [parse_one (by omega) (n / 10) (by omega)]; congr 1; omega
theorem digs_head (n : Nat) : ∃ c r, digs n = c :: r ∧ 48 ≤ c.toNat ∧ c.toNat ≤ 57 ∧ (1 ≤ n → c.toNat ≠ 48) := by
  induction n using Nat.strongRecOn with
  | _ n ih =>
    by_cases h : n < 10
    · exact ⟨_, _, digs_small h, by rw [dig_nat h]; omega, by rw [dig_nat h]; omega, by rw [dig_nat h]; omega⟩
    · obtain ⟨c, r, e, h1, h2, h3⟩ := ih (n / 10) (by omega)
      exact ⟨c, r ++ [UInt8.ofNat (48 + n % 10)], by rw [digs_snoc h, e]; rfl, h1, h2, fun _ => h3 (by omega)⟩
theorem atoi_digs (n : Nat) (hn : n ≤ 9223372036854775807) : Lib.atoiAll (digs n) = .ok (n : Int) := by
  obtain ⟨c, r, e, h1, h2, _⟩ := digs_head n
  have hp := parse_digs n hn
  rw [e] at hp ⊢
  rw [Lib.atoiAll_plain c r (by omega) (by omega)]
  unfold Lib.parseMag
  rw [if_neg (by simp), hp]
  unfold Lib.signless
  simp only
  rw [if_neg (by omega)]

/-- thresh's number: digits without zeros ahead; 0: it is none. -/
def numT (s : List UInt8) : Int := match Lib.atoiAll s with | .ok n => if Lib.itoa n = s then n else 0 | _ => 0
theorem numT_digs (n : Nat) (hn : n ≤ 9223372036854775807) : numT (digs n) = n := by
  unfold numT; rw [atoi_digs n hn]; simp only; rw [if_pos (itoa_digs n)]
theorem numT_pos {s : List UInt8} (h : 1 ≤ numT s) : s = digs (numT s).toNat ∧ numT s ≤ 9223372036854775807 := by
  unfold numT at h ⊢
  split at h
  · rename_i n hn
    have hb := Lib.atoiAll_bounds hn
    split at h
    · rename_i he
      rw [if_pos he]
      refine ⟨?_, hb.2⟩
      have := itoa_digs n.toNat
      rw [show ((n.toNat : Nat) : Int) = n by omega] at this
      rw [← this, he]
    · omega
  · omega
theorem decV_lt : ∀ (l : List UInt8), (∀ c ∈ l, isD c = true) → decV l < 10 ^ l.length := by
  intro l
  induction hn : l.length generalizing l with
  | zero =>
    intro _
    rw [List.length_eq_zero_iff.1 hn]; decide
  | succ k ih =>
    intro hd
    have hne : l ≠ [] := by intro e; rw [e] at hn; cases hn
    have hl := List.dropLast_concat_getLast hne
    have hk : l.dropLast.length = k := by rw [List.length_dropLast, hn]; rfl
    have h1 := ih l.dropLast hk (fun c hc => hd c ((List.dropLast_sublist l).mem hc))
    have h2 := hd (l.getLast hne) (List.getLast_mem hne)
    rw [isD_iff] at h2
    simp only [Bool.and_eq_true, decide_eq_true_eq] at h2
    rw [← hl, decV_snoc]
    have h3 : satN (decV l.dropLast * 10 + ((l.getLast hne).toNat - 48)) ≤ decV l.dropLast * 10 + ((l.getLast hne).toNat - 48) := by unfold satN; split <;> omega
    rw [Nat.pow_succ]
    omega
theorem digs_decV : ∀ (l : List UInt8), l ≠ [] → (∀ c ∈ l, isD c = true) → (∀ r, l = 48 :: r → r = []) → l.length ≤ 18 → digs (decV l) = l := by
  intro l
  induction hn : l.length generalizing l with
  | zero => intro h; exact absurd (List.length_eq_zero_iff.1 hn) h
  | succ k ih =>
    intro hne hd h48 hlen
    have hl := List.dropLast_concat_getLast hne
    have hk : l.dropLast.length = k := by rw [List.length_dropLast, hn]; rfl
    have hdd : ∀ c ∈ l.dropLast, isD c = true := fun c hc => hd c ((List.dropLast_sublist l).mem hc)
    have h2 := hd (l.getLast hne) (List.getLast_mem hne)
    generalize hg : l.getLast hne = c at hl h2
    rw [isD_iff] at h2
    simp only [Bool.and_eq_true, decide_eq_true_eq] at h2
    have hc : UInt8.ofNat (48 + (c.toNat - 48)) = c := by
      rw [show 48 + (c.toNat - 48) = c.toNat by omega]; exact UInt8.ofNat_toNat
    by_cases h0 : l.dropLast = []
    · rw [h0, List.nil_append] at hl
      rw [← hl, show decV [c] = c.toNat - 48 by
        have := decV_snoc [] c
        rw [List.nil_append] at this
        rw [this, show decV [] = 0 from rfl, satN_of (by omega)]; omega]
      rw [digs_small (by omega), hc]
    · have hlt := decV_lt l.dropLast hdd
      have hlt2 : decV l.dropLast < 10 ^ 17 := Nat.lt_of_lt_of_le hlt (Nat.pow_le_pow_right (by decide) (by omega))
      have hi := ih l.dropLast hk h0 hdd (fun r e => by
        rw [e] at hl
        have := h48 (r ++ [c]) hl.symm
        simp at this) (by omega)
      have hpos : 1 ≤ decV l.dropLast := by
        rcases Nat.eq_zero_or_pos (decV l.dropLast) with h | h
        · rw [h, digs_small (by decide)] at hi
          rw [← hi] at hl
          have := h48 [c] hl.symm
          simp at this
        · exact h
      have e1 : decV l = decV l.dropLast * 10 + (c.toNat - 48) := by
        conv => lhs; rw [← hl]
        rw [decV_snoc, satN_of (by omega)]
      rw [e1, digs_snoc (by omega), show (decV l.dropLast * 10 + (c.toNat - 48)) / 10 = decV l.dropLast by omega, show (decV l.dropLast * 10 + (c.toNat - 48)) % 10 = c.toNat - 48 by omega, hi, hc]
      exact hl

/-- The document's number: up to four digits without zeros ahead; below 0: it is none. -/
def numR (s : List UInt8) : Int := if s = [] ∨ 4 < s.length ∨ (s.getD 0 0 = 48 ∧ 1 < s.length) then -1 else if s.all isD then (decV s : Int) else -1
theorem numR_digs (n : Nat) (hn : n ≤ 9999) : numR (digs n) = n := by
  obtain ⟨c, r, e, h1, h2, h3⟩ := digs_head n
  have hl := digs_len n 4 (by omega) (by decide)
  unfold numR
  rw [if_neg, if_pos, decV_digs, satN_of (by omega)]
  · exact List.all_eq_true.2 (digs_isD n)
  · rintro (h | h | ⟨h, h'⟩)
    · exact digs_ne n h
    · omega
    · rcases Nat.eq_zero_or_pos n with h0 | h0
      · subst h0; rw [digs_small (by decide)] at h'; revert h'; decide
      · rw [e] at h
        exact h3 h0 (by have : c = 48 := h; rw [this]; rfl)
theorem numR_is {s : List UInt8} (h : 0 ≤ numR s) : s = digs (numR s).toNat ∧ numR s ≤ 9999 := by
  unfold numR at h ⊢
  split at h
  · omega
  · rename_i hc
    split at h
    · rename_i hd
      rw [if_neg hc, if_pos hd]
      have hd' := List.all_eq_true.1 hd
      have hlt := decV_lt s hd'
      have hlen : s.length ≤ 4 := by rcases Nat.lt_or_ge 4 s.length with h | h; exact absurd (.inr (.inl h)) hc; exact h
      have hle : (10 : Nat) ^ s.length ≤ 10 ^ 4 := Nat.pow_le_pow_right (by decide) hlen
      refine ⟨?_, by omega⟩
      rw [Int.toNat_natCast]
      refine (digs_decV s (fun e => hc (.inl e)) hd' (fun r e => ?_) (by omega)).symm
      rcases r with _ | ⟨a, b⟩
      · rfl
      · exact absurd (.inr (.inr ⟨by rw [e]; rfl, by rw [e]; simp⟩)) hc
    · omega
theorem num_same (s : List UInt8) : numR s = numT s ∨ ((numR s < 1 ∨ 1000 < numR s) ∧ (numT s < 1 ∨ 1000 < numT s)) := by
  rcases Int.lt_or_le (numR s) 1 with h | h
  · rcases Int.lt_or_le (numT s) 1 with h2 | h2
    · exact .inr ⟨.inl h, .inl h2⟩
    · rcases Int.lt_or_le 1000 (numT s) with h3 | h3
      · exact .inr ⟨.inl h, .inr h3⟩
      · have e := (numT_pos h2).1
        have := numR_digs (numT s).toNat (by omega)
        rw [← e] at this; omega
  · obtain ⟨e, hb⟩ := numR_is (s := s) (by omega)
    have := numT_digs (numR s).toNat (by omega)
    rw [← e] at this
    exact .inl (by omega)

/-- A text, cut at a byte's first place. -/
def cutA (c : UInt8) (s : List UInt8) : List UInt8 × List UInt8 × Bool := (s.takeWhile (· != c), (s.dropWhile (· != c)).drop 1, s.contains c)
theorem index_hit {c b : UInt8} (l : List UInt8) (h : b = c) : Lib.index (b :: l) [c] = 0 := by
  subst h; unfold Lib.index; rw [if_pos (by simp [List.isPrefixOf])]
theorem index_miss {c b : UInt8} (l : List UInt8) (h : b ≠ c) : Lib.index (b :: l) [c] = if Lib.index l [c] = -1 then -1 else Lib.index l [c] + 1 := by
  have h1 : ([c] : List UInt8).isPrefixOf (b :: l) = false := by simp [List.isPrefixOf, Ne.symm h]
  conv => lhs; unfold Lib.index
  rw [h1]
  by_cases e : Lib.index l [c] = -1
  · rw [e]; rfl
  · rw [if_neg e, if_neg (by decide), if_neg (by simpa using e)]
theorem cut_one (c : UInt8) (s : List UInt8) : Lib.cut s [c] = cutA c s := by
  have key : ∀ s : List UInt8, (Lib.index s [c] = -1 ∧ s.takeWhile (· != c) = s ∧ s.dropWhile (· != c) = [] ∧ s.contains c = false) ∨ (∃ i : Nat, Lib.index s [c] = i ∧ s.takeWhile (· != c) = s.take i ∧ (s.dropWhile (· != c)).drop 1 = s.drop (i + 1) ∧ s.contains c = true) := by
    intro s
    induction s with
    | nil => exact .inl ⟨rfl, rfl, rfl, rfl⟩
    | cons b l ih =>
      by_cases h : b = c
      · subst h
        exact .inr ⟨0, index_hit l rfl, by simp, by simp, by simp⟩
      · have hb : (b != c) = true := bne_iff_ne.2 h
        rcases ih with ⟨h1, h2, h3, h4⟩ | ⟨i, h1, h2, h3, h4⟩
        · refine .inl ⟨by rw [index_miss l h, h1]; rfl, ?_, ?_, ?_⟩
          · simp only [List.takeWhile_cons, hb, if_true]; rw [h2]
          · simp only [List.dropWhile_cons, hb, if_true]; rw [h3]
          · simp only [List.contains_cons, h4, Bool.or_false, beq_eq_false_iff_ne]; exact fun e => h e.symm
        · refine .inr ⟨i + 1, by rw [index_miss l h, h1, if_neg (by omega)]; omega, ?_, ?_, ?_⟩
          · simp only [List.takeWhile_cons, hb, if_true]; rw [h2, List.take_succ_cons]
          · simp only [List.dropWhile_cons, hb, if_true]; rw [h3, List.drop_succ_cons]
          · simp only [List.contains_cons, h4, Bool.or_true]
  unfold Lib.cut cutA
  rcases key s with ⟨h1, h2, h3, h4⟩ | ⟨i, h1, h2, h3, h4⟩
  · rw [if_neg (by omega), h2, h3, h4]; rfl
  · rw [if_pos (by omega), h1, h2, h3, h4, Int.toNat_natCast]; rfl
theorem cutA_none {c : UInt8} {a : List UInt8} (h : ∀ x ∈ a, x ≠ c) : cutA c a = (a, [], false) := by
  have key : ∀ a : List UInt8, (∀ x ∈ a, x ≠ c) → a.takeWhile (· != c) = a ∧ a.dropWhile (· != c) = [] ∧ a.contains c = false := by
    intro a
    induction a with
    | nil => intro _; exact ⟨rfl, rfl, rfl⟩
    | cons b l ih =>
      intro h
      have hb : (b != c) = true := bne_iff_ne.2 (h b (List.mem_cons_self ..))
      obtain ⟨h1, h2, h3⟩ := ih (fun x hx => h x (List.mem_cons_of_mem _ hx))
      refine ⟨by simp only [List.takeWhile_cons, hb, if_true]; rw [h1], by simp only [List.dropWhile_cons, hb, if_true]; rw [h2], ?_⟩
      simp only [List.contains_cons, h3, Bool.or_false, beq_eq_false_iff_ne]
      exact (h b (List.mem_cons_self ..)).symm
  obtain ⟨h1, h2, h3⟩ := key a h
  unfold cutA
  rw [h1, h2, h3]; rfl
theorem cutA_len (c : UInt8) (s : List UInt8) : (cutA c s).1.length ≤ s.length ∧ (cutA c s).2.1.length ≤ s.length := by
  refine ⟨(List.takeWhile_sublist _).length_le, ?_⟩
  have := (List.dropWhile_sublist (l := s) (· != c)).length_le
  show ((s.dropWhile (· != c)).drop 1).length ≤ _
  rw [List.length_drop]; omega
end
section
open Go.RowKit

structure Thr where
  sig : Int
  pct : Int
  amt : Int
  soft : Bool
  gr : Int
  deriving DecidableEq
def encT (t : Thr) : AV := .agg [.lit (.int .i64 t.sig), .lit (.int .i64 t.pct), .lit (.int .i64 t.amt), .lit (.bool t.soft), .lit (.int .i64 t.gr)]
def t0 : Thr := ⟨0, 0, 0, false, 0⟩
/-- What a right threshold is. -/
def RightT (t : Thr) : Prop := 0 ≤ t.sig ∧ t.sig ≤ 2 ∧ ((1 ≤ t.pct ∧ t.pct ≤ 100 ∧ t.amt = 0) ∨ (t.pct = 0 ∧ 0 < t.amt)) ∧ ((t.soft = true ∧ 1 ≤ t.gr ∧ t.gr ≤ 1000) ∨ (t.soft = false ∧ t.gr = 0))
instance (t : Thr) : Decidable (RightT t) := by unfold RightT; infer_instance
/-- The signals' words. -/
def w0L : List UInt8 := [109, 101, 109, 111, 114, 121]
def w1L : List UInt8 := [100, 105, 115, 107]
def w2L : List UInt8 := [112, 105, 100]
def wordOf (i : Int) : List UInt8 := if i = 0 then w0L else if i = 1 then w1L else w2L
def sigOf (s : List UInt8) : Int := if s = w0L then 0 else if s = w1L then 1 else if s = w2L then 2 else -1
theorem sig_cases (s : List UInt8) : (sigOf s = -1 ∧ s ≠ w0L ∧ s ≠ w1L ∧ s ≠ w2L) ∨ (sigOf s = 0 ∧ s = w0L) ∨ (sigOf s = 1 ∧ s = w1L) ∨ (sigOf s = 2 ∧ s = w2L) := by
  unfold sigOf
  by_cases h0 : s = w0L
  · exact .inr (.inl ⟨if_pos h0, h0⟩)
  · by_cases h1 : s = w1L
    · exact .inr (.inr (.inl ⟨by rw [if_neg h0, if_pos h1], h1⟩))
    · by_cases h2 : s = w2L
      · exact .inr (.inr (.inr ⟨by rw [if_neg h0, if_neg h1, if_pos h2], h2⟩))
      · exact .inl ⟨by rw [if_neg h0, if_neg h1, if_neg h2], h0, h1, h2⟩
theorem sig_range (s : List UInt8) : -1 ≤ sigOf s ∧ sigOf s ≤ 2 := by
  rcases sig_cases s with h | h | h | h <;> omega
theorem word_len (i : Int) : (wordOf i).length ≤ 6 := by unfold wordOf; split; decide; split <;> decide
def pctOf (num : List UInt8 → Int) (v : List UInt8) : Int := if Lib.hasSuffix v [37] then num (v.take (v.length - 1)) else 0
def amtOf (v : List UInt8) : Int := if Lib.hasSuffix v [37] then 0 else (qv v : Int)
def wdOf (s : List UInt8) : List UInt8 := (cutA 60 s).1
def vlOf (s : List UInt8) : List UInt8 := (cutA 58 (cutA 60 s).2.1).1
def grOf (s : List UInt8) : List UInt8 := (cutA 58 (cutA 60 s).2.1).2.1
def sfOf (s : List UInt8) : Bool := (cutA 58 (cutA 60 s).2.1).2.2
/-- What a text tells of a threshold. -/
def thrOf (num : List UInt8 → Int) (s : List UInt8) : Thr := ⟨sigOf (wdOf s), pctOf num (vlOf s), amtOf (vlOf s), sfOf s, if sfOf s then num (grOf s) else 0⟩
/-- Whether a text is a threshold's; and which one's. -/
def OkT (s : List UInt8) : Prop := s.contains 60 = true ∧ RightT (thrOf numT s)
instance (s : List UInt8) : Decidable (OkT s) := by unfold OkT; infer_instance
def readT (s : List UInt8) : Thr := if OkT s then thrOf numT s else t0
def errT (s : List UInt8) : Int := if OkT s then 0 else 2
/-- With the document's numbers it is the same. -/
theorem right_same {sg am : Int} {so : Bool} {p g p' g' : Int} (hp : p' = p ∨ ((p' < 1 ∨ 1000 < p') ∧ (p < 1 ∨ 1000 < p))) (hg : g' = g ∨ ((g' < 1 ∨ 1000 < g') ∧ (g < 1 ∨ 1000 < g))) (ham : am = 0 ∨ p' = p) (hgs : so = true ∨ g' = g) :
    RightT ⟨sg, p', am, so, g'⟩ ↔ RightT ⟨sg, p, am, so, g⟩ ∧ p' = p ∧ g' = g := by
  unfold RightT
  cases so <;> simp only [Bool.false_eq_true, false_and, or_false, false_or, true_and, reduceCtorEq] at hgs ⊢ <;> constructor <;> intro h <;> omega
theorem ref_same (s : List UInt8) : RightT (thrOf numR s) ↔ RightT (thrOf numT s) ∧ thrOf numR s = thrOf numT s := by
  have h := right_same (sg := sigOf (wdOf s)) (am := amtOf (vlOf s)) (so := sfOf s) (p := pctOf numT (vlOf s)) (g := if sfOf s then numT (grOf s) else 0) (p' := pctOf numR (vlOf s)) (g' := if sfOf s then numR (grOf s) else 0)
    (by unfold pctOf; split
        · exact num_same _
        · exact .inl rfl)
    (by split
        · exact num_same _
        · exact .inl rfl)
    (by unfold pctOf amtOf; split
        · exact .inl rfl
        · exact .inr rfl)
    (by cases sfOf s
        · exact .inr rfl
        · exact .inl rfl)
  constructor
  · intro hr
    obtain ⟨h1, h2, h3⟩ := h.1 hr
    refine ⟨h1, ?_⟩
    unfold thrOf
    rw [h2, h3]
  · rintro ⟨h1, h2⟩
    rw [h2]; exact h1
/-- What the document answers. -/
theorem ref_ok {s : List UInt8} (hc : s.contains 60 = true) (hr : RightT (thrOf numR s)) : OkT s ∧ thrOf numR s = readT s := by
  obtain ⟨h1, h2⟩ := (ref_same s).1 hr
  have : OkT s := ⟨hc, h1⟩
  exact ⟨this, by unfold readT; rw [if_pos this, h2]⟩
theorem ref_no {s : List UInt8} (h : s.contains 60 = false ∨ ¬ RightT (thrOf numR s)) : ¬ OkT s ∧ readT s = t0 := by
  have : ¬ OkT s := by
    rintro ⟨h1, h2⟩
    rcases h with h | h
    · rw [h] at h1; cases h1
    · have hr := (ref_same s)
      have hp := right_same (sg := sigOf (wdOf s)) (am := amtOf (vlOf s)) (so := sfOf s) (p := pctOf numR (vlOf s)) (g := if sfOf s then numR (grOf s) else 0) (p' := pctOf numT (vlOf s)) (g' := if sfOf s then numT (grOf s) else 0)
        (by unfold pctOf; split
            · rcases num_same (List.take ((vlOf s).length - 1) (vlOf s)) with e | e
              · exact .inl e.symm
              · exact .inr e.symm
            · exact .inl rfl)
        (by split
            · rcases num_same (grOf s) with e | e
              · exact .inl e.symm
              · exact .inr e.symm
            · exact .inl rfl)
        (by unfold pctOf amtOf; split
            · exact .inl rfl
            · exact .inr rfl)
        (by cases sfOf s
            · exact .inr rfl
            · exact .inl rfl)
      exact h (hp.1 h2).1
  exact ⟨this, by unfold readT; rw [if_neg this]⟩
theorem no_amt {s : List UInt8} (h1 : Lib.hasSuffix (vlOf s) [37] = false) (h2 : quantV (vlOf s) = none) : ¬ RightT (thrOf numR s) := by
  rintro ⟨_, _, h, _⟩
  have e1 : (thrOf numR s).pct = 0 := by show pctOf numR (vlOf s) = 0; unfold pctOf; rw [h1]; rfl
  have e2 : (thrOf numR s).amt = 0 := by show amtOf (vlOf s) = 0; unfold amtOf; rw [h1, (q_none h2).1]; rfl
  omega

/-- A threshold's text. -/
def valT (t : Thr) : List UInt8 := if 0 < t.pct then digs t.pct.toNat ++ [37] else printV t.amt.toNat
def printT (t : Thr) : List UInt8 := (wordOf t.sig ++ [60]) ++ valT t ++ (if t.soft then [58] ++ digs t.gr.toNat else [])
theorem suf_snoc (l : List UInt8) (c : UInt8) : Lib.hasSuffix (l ++ [c]) [37] = (c == 37) := by
  unfold Lib.hasSuffix List.isSuffixOf
  simp [List.isPrefixOf, Bool.beq_comm]
end
section
open Go.RowKit

theorem Fix.shaped {G : Gh} {w : World} (h : Fix G w) : w.ShapedOpen Tryz.prog := by
  obtain ⟨F, h1, h2⟩ := h
  exact (h2 w (fun b o e => (h1 b o e).2.1)).1

/-- Cut at each such byte. -/
def splitC (p : UInt8) (l : List UInt8) : List (List UInt8) := Lib.split l [p]

theorem splitB_c (p : UInt8) (l : List UInt8) : (Lib.splitB ⟨#[p]⟩ 0 (Lib.countB ⟨l.toArray⟩ ⟨#[p]⟩) ⟨l.toArray⟩).map Value.string = (splitC p l).map fun s => Value.string ⟨s.toArray⟩ := by
  have h := Lib.splitB_data ⟨#[p]⟩ 0 (Lib.countB ⟨l.toArray⟩ ⟨#[p]⟩) ⟨l.toArray⟩
  have e : splitC p l = (Lib.splitB ⟨#[p]⟩ 0 (Lib.countB ⟨l.toArray⟩ ⟨#[p]⟩) ⟨l.toArray⟩).map (·.data.toList) := by
    rw [h]
    unfold splitC Lib.split
    simp only [Lib.countB]
  rw [e, List.map_map]
  apply List.map_congr_left
  intro s _
  simp

theorem splitC_len (p : UInt8) (l : List UInt8) : (splitC p l).length = l.count p + 1 := by
  have h := Lib.splitB_all ⟨#[p]⟩ (by show 0 < (1 : Nat); decide) 0 _ ⟨l.toArray⟩ rfl
  have e : (splitC p l).length = (Lib.splitB ⟨#[p]⟩ 0 (Lib.countB ⟨l.toArray⟩ ⟨#[p]⟩) ⟨l.toArray⟩).length := by
    have := congrArg List.length (splitB_c p l)
    simpa using this.symm
  rw [e, h, Lib.countB, ← Lib.count_one]
theorem splitC_le (p : UInt8) (l : List UInt8) : (splitC p l).length ≤ l.length + 1 := by
  rw [splitC_len]; have := List.count_le_length (a := p) (l := l); omega

theorem splitC_nil (p : UInt8) : splitC p [] = [[]] := rfl
theorem index_consp (p : UInt8) (r : List UInt8) : Lib.index (p :: r) [p] = 0 := by unfold Lib.index; simp
theorem index_consp_ne {p c : UInt8} (h : c ≠ p) (r : List UInt8) : Lib.index (c :: r) [p] = if Lib.index r [p] == -1 then -1 else Lib.index r [p] + 1 := by
  rw [Lib.index, if_neg]
  simp [List.isPrefixOf, Ne.symm h]
theorem splitC_hit (p : UInt8) (r : List UInt8) : splitC p (p :: r) = [] :: splitC p r := by
  unfold splitC Lib.split
  rw [Lib.count_cons_eq, Nat.add_comm, Lib.splitK, index_consp]
  simp
theorem splitC_ne {p c : UInt8} (h : c ≠ p) (r : List UInt8) : ∃ hd tl, splitC p r = hd :: tl ∧ splitC p (c :: r) = (c :: hd) :: tl := by
  unfold splitC Lib.split
  rw [Lib.count_cons_ne c p r h]
  cases hk : Lib.count r [p] with
  | zero => exact ⟨r, [], rfl, rfl⟩
  | succ k =>
    have hi : ¬ (Lib.index r [p] == -1) = true := by
      intro e
      have := Lib.count_miss (beq_iff_eq.1 e)
      omega
    have hge := Lib.index_ge r [p]
    have hne : Lib.index r [p] ≠ -1 := fun e => hi (beq_iff_eq.2 e)
    obtain ⟨i, hi'⟩ : ∃ i : Nat, Lib.index r [p] = i := ⟨(Lib.index r [p]).toNat, by omega⟩
    refine ⟨r.take i, Lib.splitK [p] 0 k (r.drop (i + 1)), ?_, ?_⟩
    · rw [Lib.splitK, if_neg hi, hi']; simp
    · have hi2 : ¬ (Lib.index (c :: r) [p] == -1) = true := by rw [index_consp_ne h, if_neg hi, hi']; simp; omega
      have e2 : (Lib.index (c :: r) [p]).toNat = i + 1 := by rw [index_consp_ne h, if_neg hi, hi']; omega
      rw [Lib.splitK, if_neg hi2, e2]; simp

theorem splitC_mem (p : UInt8) : ∀ (l : List UInt8) (k : Nat) (s : List UInt8), (splitC p l)[k]? = some s → s.length ≤ l.length
  | [], k, s, h => by
    rw [splitC_nil] at h
    cases k with
    | zero => simp at h; subst h; simp
    | succ k => simp at h
  | c :: r, k, s, h => by
    by_cases hc : c = p
    · subst hc
      rw [splitC_hit] at h
      cases k with
      | zero => simp at h; subst h; simp
      | succ k => have := splitC_mem c r k s (by simpa using h); simp; omega
    · obtain ⟨hd, tl, e1, e2⟩ := splitC_ne hc r
      rw [e2] at h
      cases k with
      | zero =>
        simp at h; subst h
        have := splitC_mem p r 0 hd (by rw [e1]; rfl)
        simp; omega
      | succ k => have := splitC_mem p r (k + 1) s (by rw [e1]; simpa using h); simp; omega

theorem split_any (p : UInt8) (l : List UInt8) (hl : l.length ≤ 4294967280) (M : Nat → Option (List AV)) : ACall Tryz.prog 42 [.str l, .str [p]] M (fun r M' => r = .list true 9 ((splitC p l).map AV.str) ∧ M = M') := by
  have hlen1 : (splitC p l).length = Lib.countB ⟨l.toArray⟩ ⟨#[p]⟩ + 1 := by
    rw [splitC_len, Lib.countB, ← Lib.count_one]
  have hcnt : (splitC p l).length ≤ l.length + 1 := splitC_le p l
  refine ACall.ofRow (size := 1) sizeOf_9 (fun x hx => ?_) (fun x hx c hc => ?_) ?_ ?_
  · obtain ⟨s, _, rfl⟩ := List.mem_map.1 hx; rfl
  · obtain ⟨s, _, rfl⟩ := List.mem_map.1 hx; simp [AV.cells] at hc; subst hc; rfl
  · rw [List.length_map]; unfold maxLen; omega
  · intro G w vs hm hfx hlen hrel
    obtain ⟨v, u, rfl, h1, h2⟩ := arg2 hlen hrel
    have e1 := relV_str h1
    have e2 := relV_str h2
    subst e1; subst e2
    refine ⟨_, strs_rel (splitC p l), (Tryz.strings_Split_shaped ⟨l.toArray⟩ ⟨#[p]⟩ w hfx.shaped (by rw [bsize]; omega) (by show 0 < (1 : Nat); decide)).mono ?_⟩
    rintro e w' ⟨rfl, rfl⟩
    rw [splitB_c]
    refine ⟨w.heap.size, _, _, by rw [List.length_map, hlen1], Nat.le_refl _, by simp, heap_new _ _, by rw [List.length_map, hlen1]; exact Nat.le_refl _, ?_, by simp [hlen1], ?_, (Below.refl _ _).alloc (Nat.le_refl _) _⟩
    · rw [← hlen1]; unfold maxLen; omega
    · rw [List.length_map, Nat.mul_one, List.take_of_length_le (by simp)]
end
section
open Go.RowKit

structure Ev where
  kind : Int
  id : List UInt8
  sig : Int
  n : Int
  deriving DecidableEq
def e0 : Ev := ⟨0, [], 0, 0⟩
/-- The kinds' words. -/
def kwL : List (List UInt8) := [[], [97, 100, 109, 105, 116], [112, 114, 101, 101, 109, 112, 116], [114, 101, 106, 101, 99, 116], [100, 101, 108, 101, 116, 101], [101, 118, 105, 99, 116], [111, 110], [111, 102, 102], [98, 101, 103, 105, 110], [112, 117, 108, 108], [117, 112], [102, 97, 105, 108], [103, 111, 110, 101], [100, 101, 97, 100], [105, 109, 97, 103, 101], [115, 116, 111, 112], [114, 101, 99, 111, 118, 101, 114]]
def kwOf (k : Int) : List UInt8 := kwL.getD k.toNat []
def roomL : List UInt8 := [114, 111, 111, 109]
def presL : List UInt8 := [112, 114, 101, 115, 115, 117, 114, 101]
def visB (c : UInt8) : Bool := decide (33 ≤ c.toNat) && decide (c.toNat ≤ 126)
def wordB (s : List UInt8) : Bool := s.all visB && (decide (1 ≤ s.length) && (decide (s.length ≤ 60) && decide ((s.getD 0 0).toNat ≠ 35)))
def inS (n : Int) : Bool := decide (0 ≤ n) && decide (n ≤ 2)
def sgw (n : Int) : List UInt8 := if inS n then wordOf n else []
def Named (k : Int) : Prop := k ≠ 6 ∧ k ≠ 7 ∧ k ≠ 16
instance (k : Int) : Decidable (Named k) := by unfold Named; infer_instance
/-- The fields behind the kind's word. -/
def flE (e : Ev) : List (List UInt8) :=
  if e.kind = 3 then (if e.n = 3 then [e.id, presL, sgw e.sig] else [e.id, roomL])
  else if e.kind = 5 then [e.id, sgw e.sig]
  else if e.kind = 6 ∨ e.kind = 7 then [sgw e.sig]
  else if e.kind = 9 ∨ e.kind = 14 then [e.id, Lib.itoa e.n]
  else if e.kind = 16 then [Lib.itoa e.n]
  else [e.id]
/-- What is left of the event then. -/
def restE (e : Ev) : Ev := ⟨e.kind, if Named e.kind then [] else e.id, if (e.kind = 3 ∧ e.n = 3) ∨ e.kind = 5 ∨ e.kind = 6 ∨ e.kind = 7 then 0 else e.sig, if e.kind = 3 ∨ e.kind = 9 ∨ e.kind = 14 ∨ e.kind = 16 then 0 else e.n⟩
def ok1E (e : Ev) : Bool := if e.kind = 3 then (if e.n = 3 then inS e.sig else decide (e.n = 4)) else if e.kind = 5 ∨ e.kind = 6 ∨ e.kind = 7 then inS e.sig else if e.kind = 9 ∨ e.kind = 14 ∨ e.kind = 16 then decide (0 ≤ e.n) else true
def okE (e : Ev) : Bool := if Named e.kind then ok1E e && wordB e.id else ok1E e
def RightE (e : Ev) : Prop := 1 ≤ e.kind ∧ e.kind ≤ 16 ∧ okE e = true ∧ restE e = ⟨e.kind, [], 0, 0⟩
instance (e : Ev) : Decidable (RightE e) := by unfold RightE; infer_instance
/-- A line. -/
def lineE (r : Int) (e : Ev) : List UInt8 := (digs r.toNat ++ [32]) ++ Lib.join (kwOf e.kind :: flE e) [32]
def HasLine (r : Int) (e : Ev) : Prop := RightE e ∧ 0 ≤ r ∧ r ≤ 1099511627776
instance (r : Int) (e : Ev) : Decidable (HasLine r e) := by unfold HasLine; infer_instance
theorem itoa_pos {n : Int} (h : 0 ≤ n) : Lib.itoa n = digs n.toNat := by
  have := itoa_digs n.toNat
  rwa [show ((n.toNat : Nat) : Int) = n by omega] at this
/-- What a line tells: a guess. -/
def numL (s : List UInt8) : Int := match Lib.atoiAll s with | .ok n => n | _ => -1
/-- A word's place; below 0: it is none. -/
def idxL (l : List (List UInt8)) (s : List UInt8) : Int := match l.findIdx? (· == s) with | some i => (i : Int) | none => -1
def kwIdx (s : List UInt8) : Int := idxL kwL s
def lastL (l : List (List UInt8)) : List UInt8 := if 0 < l.length then l.getD (l.length - 1) [] else []
def mx0 (x : Int) : Int := if 0 ≤ x then x else 0
def guessE (k : Int) (l : List (List UInt8)) : Ev :=
  ⟨k, if Named k ∧ 0 < l.length then l.getD 0 [] else [],
   if k = 3 then (if 1 < l.length ∧ l.getD 1 [] = presL then mx0 (sigOf (lastL l)) else 0) else if k = 5 ∨ k = 6 ∨ k = 7 then mx0 (sigOf (lastL l)) else 0,
   if k = 3 then (if 1 < l.length ∧ l.getD 1 [] = presL then 3 else 4) else if k = 9 ∨ k = 14 ∨ k = 16 then numL (lastL l) else 0⟩
def spL (s : List UInt8) : List (List UInt8) := splitC 32 s
def gN (s : List UInt8) : Int := numL ((spL s).getD 0 [])
def gE (s : List UInt8) : Ev := guessE (kwIdx ((spL s).getD 1 [])) ((spL s).drop 2)
/-- A text is a line's: then the guess's own. -/
def OkL (s : List UInt8) : Prop := 2 ≤ (spL s).length ∧ HasLine (gN s) (gE s) ∧ lineE (gN s) (gE s) = s
instance (s : List UInt8) : Decidable (OkL s) := by unfold OkL; infer_instance
end
section
open Go.RowKit

section
variable {H : Type} {enc : TypeId × Value → H} {P : Program} {w : World} {r : Reach} {b0 : Nat} {t : TypeId} {v : Value} {d : DataW H} {ps : List MemPlace}
theorem i64_le {n : Int} (h : (Lit.int .i64 n).wf = true) : -9223372036854775808 ≤ n ∧ n ≤ 9223372036854775807 := by
  simp only [Lit.wf, Bool.and_eq_true, decide_eq_true_eq] at h; exact h

end
end
section
open Go.RowKit

/-- What one cell of a type holds. -/
inductive LK where
  | b | i (k : IntKind) | s | l (t : TypeId)
  deriving DecidableEq

def leavesF (P : Program) (g : TypeId → Option (List LK)) : List Field → Nat → Option (List LK)
  | [], _ => some []
  | f :: r, o => (g f.type).bind fun ks => if f.offset = o ∧ P.cellsOf f.type = ks.length then (leavesF P g r (o + ks.length)).map fun q => ks ++ q else none
def leaves (P : Program) : Nat → TypeId → Option (List LK)
  | 0, _ => none
  | n + 1, t =>
    match P.underlying t with
    | some .bool => some [.b]
    | some (.int k) => some [.i k]
    | some .string => some [.s]
    | some (.slice _) => some [.l t]
    | some (.struct fs) => (leavesF P (leaves P n) fs.toList 0).bind fun ks => if P.cellsOf t = ks.length then some ks else none
    | some (.array m e) => (leaves P n e).bind fun ks => if P.cellsOf e = ks.length ∧ P.cellsOf t = m * ks.length then some (List.replicate m ks).flatten else none
    | _ => none

section
variable {H : Type} {enc : TypeId × Value → H} {P : Program} {w : World}
def Trd (enc : TypeId × Value → H) (P : Program) (w : World) (t : TypeId) (cs : List Value) : Prop := ∃ m x, DataW.trod enc P w 0 (fun _ => true) true m t cs = some x
def LeafOK (enc : TypeId × Value → H) (P : Program) (w : World) : LK → Value → Prop
  | .b, v => ∃ q, v = .bool q
  | .i k, v => ∃ z, v = .int k z ∧ (Lit.int k z).wf = true
  | .s, v => ∃ l : List UInt8, v = .string ⟨l.toArray⟩ ∧ l.length ≤ maxLen
  | .l t, v => Trd enc P w t [v]
def LeavesOK (enc : TypeId × Value → H) (P : Program) (w : World) (ks : List LK) (cs : List Value) : Prop := cs.length = ks.length ∧ ∀ (j : Nat) k, ks[j]? = some k → ∃ v, cs[j]? = some v ∧ LeafOK enc P w k v
theorem LeavesOK.cons {k : LK} {ks : List LK} {cs : List Value} (h : LeavesOK enc P w (k :: ks) cs) : ∃ v r, cs = v :: r ∧ LeafOK enc P w k v ∧ LeavesOK enc P w ks r := by
  obtain ⟨h1, h2⟩ := h
  cases cs with
  | nil => cases h1
  | cons v r =>
    obtain ⟨u, e, hu⟩ := h2 0 k rfl
    cases e
    exact ⟨v, r, rfl, hu, by simpa using h1, fun j k' hk => h2 (j + 1) k' hk⟩
theorem LeavesOK.nil {cs : List Value} (h : LeavesOK enc P w [] cs) : cs = [] := List.length_eq_zero_iff.1 h.1

theorem leavesF_ok {g : TypeId → Option (List LK)} (hg : ∀ t ks cs, g t = some ks → Trd enc P w t cs → LeavesOK enc P w ks cs) {cs : List Value} :
    ∀ (fs : List Field) (o : Nat) (ks : List LK), leavesF P g fs o = some ks → (∀ f ∈ fs, Trd enc P w f.type ((cs.drop f.offset).take (P.cellsOf f.type))) →
      ∀ (j : Nat) k, ks[j]? = some k → ∃ v, cs[o + j]? = some v ∧ LeafOK enc P w k v
  | [], o, ks, h, _, j, k, hj => by
    simp [leavesF] at h
    subst h
    simp at hj
  | f :: r, o, ks, h, hf, j, k, hj => by
    simp only [leavesF, Option.bind_eq_some_iff] at h
    obtain ⟨k1, h1, h2⟩ := h
    split at h2
    · rename_i hc
      obtain ⟨k2, h3, rfl⟩ := Option.map_eq_some_iff.1 h2
      obtain ⟨ho, hcc⟩ := hc
      obtain ⟨a1, a2⟩ := hg f.type k1 _ h1 (hf f (List.mem_cons_self ..))
      by_cases hlt : j < k1.length
      · rw [List.getElem?_append_left hlt] at hj
        obtain ⟨v, hv, hl⟩ := a2 j k hj
        rw [hcc, List.getElem?_take_of_lt hlt, List.getElem?_drop, ho] at hv
        exact ⟨v, hv, hl⟩
      · rw [List.getElem?_append_right (by omega)] at hj
        obtain ⟨v, hv, hl⟩ := leavesF_ok hg r (o + k1.length) k2 h3 (fun f' h' => hf f' (List.mem_cons_of_mem _ h')) (j - k1.length) k hj
        rw [show o + k1.length + (j - k1.length) = o + j by omega] at hv
        exact ⟨v, hv, hl⟩
    · cases h2
theorem rep_get {α : Type} (ks : List α) : ∀ (m j : Nat) (k : α), ((List.replicate m ks).flatten)[j]? = some k → ∃ i r, i < m ∧ r < ks.length ∧ j = i * ks.length + r ∧ ks[r]? = some k
  | 0, j, k, h => by simp at h
  | m + 1, j, k, h => by
    rw [List.replicate_succ, List.flatten_cons] at h
    by_cases hlt : j < ks.length
    · rw [List.getElem?_append_left hlt] at h
      exact ⟨0, j, by omega, hlt, by omega, h⟩
    · rw [List.getElem?_append_right (by omega)] at h
      obtain ⟨i, r, h1, h2, h3, h4⟩ := rep_get ks m (j - ks.length) k h
      refine ⟨i + 1, r, by omega, h2, ?_, h4⟩
      rw [Nat.add_mul]; omega
theorem leaves_ok : ∀ (n : Nat) (t : TypeId) (ks : List LK) (cs : List Value), leaves P n t = some ks → Trd enc P w t cs → LeavesOK enc P w ks cs
  | 0, t, ks, cs, h, _ => by cases h
  | n + 1, t, ks, cs, h, ⟨m, x, hx⟩ => by
    unfold leaves at h
    split at h
    · rename_i hu
      cases h
      obtain ⟨q, rfl, _⟩ := DataW.trod_bool hu hx
      exact ⟨rfl, fun j k hj => by match j, hj with | 0, hj => cases hj; exact ⟨_, rfl, q, rfl⟩⟩
    · rename_i k hu
      cases h
      obtain ⟨z, rfl, _, hw⟩ := DataW.trod_int hu hx
      exact ⟨rfl, fun j k hj => by match j, hj with | 0, hj => cases hj; exact ⟨_, rfl, z, rfl, hw⟩⟩
    · rename_i hu
      cases h
      obtain ⟨q, rfl, _, hw⟩ := DataW.trod_string hu hx
      exact ⟨rfl, fun j k hj => by match j, hj with | 0, hj => cases hj; exact ⟨_, rfl, q.data.toList, by simp, by simpa using hw⟩⟩
    · rename_i e hu
      cases h
      have hl : ∃ v, cs = [v] := by
        rcases DataW.trod_slice hu hx with ⟨rfl, _⟩ | ⟨a, len, cap, _, _, _, _, rfl, _⟩ <;> exact ⟨_, rfl⟩
      obtain ⟨v, rfl⟩ := hl
      exact ⟨rfl, fun j k hj => by match j, hj with | 0, hj => cases hj; exact ⟨_, rfl, m, x, hx⟩⟩
    · rename_i fs hu
      obtain ⟨k1, h1, h2⟩ := Option.bind_eq_some_iff.1 h
      split at h2
      · rename_i hc
        cases h2
        obtain ⟨xs, m', _, _, hlen, hl, hf⟩ := DataW.trod_struct hu hx
        refine ⟨hlen.trans hc, fun j k hj => ?_⟩
        have := leavesF_ok (cs := cs) (fun t ks cs h1 h2 => leaves_ok n t ks cs h1 h2) fs.toList 0 ks h1 (fun f hm => by
          obtain ⟨i, hi, rfl⟩ := List.getElem_of_mem hm
          have h3 := hf i fs.toList[i] (by simp)
          have hi' : i < xs.length := by rw [hl]; simpa using hi
          rw [List.getElem?_eq_getElem hi'] at h3
          exact ⟨m', _, h3⟩) j k hj
        rwa [Nat.zero_add] at this
      · cases h2
    · rename_i q e hu
      obtain ⟨k1, h1, h2⟩ := Option.bind_eq_some_iff.1 h
      split at h2
      · rename_i hc
        cases h2
        obtain ⟨xs, m', _, _, hlen, hl, hf⟩ := DataW.trod_array hu hx
        refine ⟨by rw [hlen, hc.2]; simp, fun j k hj => ?_⟩
        obtain ⟨i, r, hi, hr, rfl, hk⟩ := rep_get k1 q j k hj
        have h3 := hf i hi
        rw [List.getElem?_eq_getElem (by rw [hl]; exact hi)] at h3
        obtain ⟨a1, a2⟩ := leaves_ok n e k1 _ h1 ⟨m', _, h3⟩
        obtain ⟨v, hv, hlf⟩ := a2 r k hk
        rw [hc.1, List.getElem?_take_of_lt hr, List.getElem?_drop] at hv
        exact ⟨v, hv, hlf⟩
      · cases h2
    · cases h

theorem flat_inv {xs : List AV} {n : Nat} (hn : 0 < n) (h : ∀ x ∈ xs, x.cells.length = n) {j : Nat} {c : AV} (hj : (xs.flatMap AV.cells)[j]? = some c) : ∃ x, xs[j / n]? = some x ∧ x.cells[j % n]? = some c := by
  induction xs generalizing j with
  | nil => simp at hj
  | cons a r ih =>
    rw [List.flatMap_cons] at hj
    have ha := h a (List.mem_cons_self ..)
    by_cases hlt : j < n
    · rw [List.getElem?_append_left (by omega)] at hj
      rw [Nat.div_eq_of_lt hlt, Nat.mod_eq_of_lt hlt]
      exact ⟨a, rfl, hj⟩
    · rw [List.getElem?_append_right (by omega), ha] at hj
      obtain ⟨x, h1, h2⟩ := ih (fun x hx => h x (List.mem_cons_of_mem _ hx)) hj
      have e1 : j / n = (j - n) / n + 1 := by
        conv => lhs; rw [show j = (j - n) + n by omega]
        exact Nat.add_div_right _ hn
      have e2 : j % n = (j - n) % n := by
        conv => lhs; rw [show j = (j - n) + n by omega]
        exact Nat.add_mod_right _ _
      rw [e1, e2]
      exact ⟨x, h1, h2⟩

/-- A row of values, opened at once. -/
theorem open_row {α : Type} (d : α) {A : α → AV} {φ : α → Prop} {n : Nat} {t e : TypeId} {v : Value} (ht : P.underlying t = some (.slice e)) (hce : P.cellsOf e = n) (hn : 0 < n) (hs : SizeOf P e n) (hA : ∀ y, (A y).cells.length = n ∧ ∀ c ∈ (A y).cells, c.scalar = true)
    (hel : ∀ cs, Trd enc P w e cs → ∃ y, φ y ∧ ∀ (j : Nat) c, (A y).cells[j]? = some c → ∃ u, cs[j]? = some u ∧ RelV P (Gh.start w) w c u)
    (h : Trd enc P w t [v]) : ∃ l : List α, (∀ y ∈ l, φ y) ∧ l.length ≤ maxLen ∧ RelV P (Gh.start w) w (.list false e (l.map A)) v := by
  obtain ⟨fuel, x, hf⟩ := h
  rcases Deep.open_slice ht hf with ⟨hcs, _⟩ | ⟨a, len, cap, m, n', D, Pl, hcs, _, hl, hm, hmm, _, hx⟩
  · cases hcs
    exact ⟨[], fun y hy => (by cases hy), Nat.zero_le _, .nil _ _⟩
  · cases hcs
    have hm' : m = cap := by rw [hmm]; rfl
    subst hm'
    rcases Nat.eq_zero_or_pos m with h0 | h0
    · have hl0 : len = 0 := by omega
      rw [h0, hl0]
      exact ⟨[], fun y hy => (by cases hy), Nat.zero_le _, .zero _ _⟩
    · rw [hce] at hx
      have hspot : a.spot = none := by
        obtain ⟨cs0, h1, _⟩ := hx 0 h0
        obtain ⟨_, q2, q3⟩ := World.cells?_some h1
        have q4 := q3 0 hn
        rw [Nat.zero_mul] at q4
        have q5 : (a.add 0).add 0 = a := rfl
        rw [q5, List.getElem?_eq_getElem (by omega)] at q4
        simp only [World.cell?] at q4
        split at q4
        · split at q4
          · cases q4
          · rename_i hq; cases hsp : a.spot with
            | none => rfl
            | some z => rw [hsp] at hq; simp at hq
        · cases q4
      obtain ⟨b, off, sp⟩ := a
      simp only at hspot
      subst hspot
      have key : ∀ i, ∃ y, i < len → φ y ∧ ∃ cs' : List Value, cs'.length = n ∧ (∀ r, r < n → w.cell? ⟨b, off + (i * n + r), none⟩ = cs'[r]?) ∧ ∀ (j : Nat) c, (A y).cells[j]? = some c → ∃ u, cs'[j]? = some u ∧ RelV P (Gh.start w) w c u := by
        intro i
        by_cases hi : i < len
        · obtain ⟨cs', h1, h2⟩ := hx i (by omega)
          obtain ⟨y, hy1, hy2⟩ := hel cs' ⟨_, _, h2⟩
          obtain ⟨_, q2, q3⟩ := World.cells?_some h1
          refine ⟨y, fun _ => ⟨hy1, cs', q2, fun r hr => ?_, hy2⟩⟩
          rw [← q3 r hr]
          congr 1
          rw [add_at, add_at, Nat.add_assoc]
        · exact ⟨d, fun h => (hi h).elim⟩
      let l : List α := (List.range len).map fun i => Classical.choose (key i)
      have hll : l.length = len := by simp [l]
      have hlg : ∀ i, i < len → l[i]? = some (Classical.choose (key i)) := by
        intro i hi
        simp [l, hi]
      have hAl : ∀ x ∈ l.map A, x.cells.length = n := by
        intro x hx'; obtain ⟨y, _, rfl⟩ := List.mem_map.1 hx'; exact (hA y).1
      refine ⟨l, ?_, by omega, ?_⟩
      · intro y hy
        obtain ⟨i, hi, rfl⟩ := List.mem_map.1 hy
        exact (Classical.choose_spec (key i) (List.mem_range.1 hi)).1
      · have hcell : ∀ i, i < len → ∀ r, r < n → ∃ u, w.cell? ⟨b, off + (i * n + r), none⟩ = some u := by
          intro i hi r hr
          obtain ⟨_, cs', q1, q2, _⟩ := Classical.choose_spec (key i) hi
          rw [q2 r hr, List.getElem?_eq_getElem (by omega)]
          exact ⟨_, rfl⟩
        have hall : ∀ j, j < len * n → ∃ u, w.cell? ⟨b, off + j, none⟩ = some u := by
          intro j hj
          have h1 : j / n < len := Nat.div_lt_of_lt_mul (by rw [Nat.mul_comm]; exact hj)
          have h2 : j % n < n := Nat.mod_lt _ hn
          have h3 := hcell (j / n) h1 (j % n) h2
          rwa [show j / n * n + j % n = j from by rw [Nat.mul_comm]; exact Nat.div_add_mod j n] at h3
        rw [show Value.slice (some ⟨b, off, none⟩) len m = .slice (some ⟨b, off, none⟩) (l.map A).length m by rw [List.length_map, hll]]
        refine RelV.row false e (l.map A) b off m n (fun j => (w.cell? ⟨b, off + j, none⟩).getD undef) hs hAl (fun x hx' => ?_) (by rw [List.length_map, hll]; exact hl) hm (fun hpos => ?_) (fun j hj => ?_) (fun j c hj => ?_)
        · obtain ⟨y, _, rfl⟩ := List.mem_map.1 hx'; exact (hA y).2
        · rw [List.length_map, hll] at hpos ⊢
          have hp : 0 < len * n := Nat.mul_pos hpos hn
          obtain ⟨u, hu⟩ := hall (len * n - 1) (by omega)
          simp only [World.cell?] at hu
          cases hb : w.heap[b]? with
          | none => simp [hb] at hu
          | some o =>
            cases o with
            | cells arr T fr =>
              rw [start_tip hb]
              simp only [hb, Option.isSome_none, Bool.false_eq_true, if_false] at hu
              have := (Array.getElem?_eq_some_iff.1 hu).1
              omega
            | _ => simp [hb] at hu
        · rw [List.length_map, hll] at hj
          obtain ⟨u, hu⟩ := hall j hj
          simp only [hu, Option.getD_some]
        · obtain ⟨x, h1, h2⟩ := flat_inv hn hAl hj
          rw [List.getElem?_map] at h1
          obtain ⟨y, hy, rfl⟩ := Option.map_eq_some_iff.1 h1
          have hi : j / n < len := by rw [← hll]; exact (List.getElem?_eq_some_iff.1 hy).1
          rw [hlg _ hi] at hy
          cases hy
          obtain ⟨_, cs', q1, q2, q3⟩ := Classical.choose_spec (key (j / n)) hi
          obtain ⟨u, hu1, hu2⟩ := q3 (j % n) c h2
          have q4 := q2 (j % n) (Nat.mod_lt _ hn)
          rw [show j / n * n + j % n = j from by rw [Nat.mul_comm]; exact Nat.div_add_mod j n, hu1] at q4
          simp only [q4, Option.getD_some]
          exact hu2
end
end
end Go.Proofs.YtmmfkpbkacfegaaGreatDoor
