/- Walks over abstract values, printed by my program av.py. -/
import Derived.Test.YtlpihekflkjkfaaDoorLg4
import Derived.Test.YtlpihekflkjkfaaDoorAvZ
namespace Go.Proofs.YtlpihekflkjkfaaDoor
open Go.RowKit

/-- Digits, added up. -/
def dU (l : List UInt8) : Nat := l.foldl (fun n c => n * 10 + (c.toNat - 48)) 0
theorem dU_snoc (l : List UInt8) (c : UInt8) : dU (l ++ [c]) = dU l * 10 + (c.toNat - 48) := by simp [dU]
theorem dU_digs (n : Nat) : dU (digs n) = n := by
  induction n using Nat.strongRecOn with
  | _ n ih =>
    by_cases h : n < 10
    · rw [digs_small h]
      show 0 * 10 + ((UInt8.ofNat (48 + n)).toNat - 48) = n
      rw [dig_nat h]; omega
    · rw [digs_snoc h, dU_snoc, ih _ (by omega), dig_nat (by omega)]; omega
theorem dU_lt (l : List UInt8) (hd : ∀ c ∈ l, isD c = true) : dU l < 10 ^ l.length := by
  induction hn : l.length generalizing l with
  | zero => rw [List.length_eq_zero_iff.1 hn]; decide
  | succ k ih =>
    have hne : l ≠ [] := by intro e; rw [e] at hn; cases hn
    have hl := List.dropLast_concat_getLast hne
    have h1 := ih l.dropLast (fun c hc => hd c ((List.dropLast_sublist l).mem hc)) (by rw [List.length_dropLast, hn]; rfl)
    have h2 := hd (l.getLast hne) (List.getLast_mem hne)
    rw [isD_iff] at h2
    simp only [Bool.and_eq_true, decide_eq_true_eq] at h2
    rw [← hl, dU_snoc, Nat.pow_succ]; omega
/-- No number of up to nineteen digits, by its length or a zero ahead. -/
def NB (s : List UInt8) : Prop := s = [] ∨ 19 < s.length ∨ (s.getD 0 0 = 48 ∧ 1 < s.length)
instance (s : List UInt8) : Decidable (NB s) := by unfold NB; infer_instance
theorem nbs_t {t : List UInt8} (h : (bif (t.length : Int) == 0 then true else (bif decide ((t.length : Int) > 19) then true else (bif ((t.getD 0 0).toNat : Int) == 48 then decide ((t.length : Int) > 1) else false))) = true) : NB t := by
  unfold NB
  by_cases h0 : (t.length : Int) = 0
  · exact .inl (List.length_eq_zero_iff.1 (by omega))
  · rw [beq_eq_false_iff_ne.2 h0, cond_false] at h
    by_cases h1 : (t.length : Int) > 19
    · exact .inr (.inl (by omega))
    · rw [decide_eq_false h1, cond_false] at h
      by_cases h2 : ((t.getD 0 0).toNat : Int) = 48
      · rw [beq_iff_eq.2 h2, cond_true] at h
        have := of_decide_eq_true h
        exact .inr (.inr ⟨UInt8.toNat_inj.1 (by show _ = 48; omega), by omega⟩)
      · rw [beq_eq_false_iff_ne.2 h2] at h; cases h
theorem nbs_f {t : List UInt8} (h : (bif (t.length : Int) == 0 then true else (bif decide ((t.length : Int) > 19) then true else (bif ((t.getD 0 0).toNat : Int) == 48 then decide ((t.length : Int) > 1) else false))) = false) : ¬ NB t := by
  rintro (h0 | h1 | ⟨h2, h3⟩)
  · rw [h0] at h; cases h
  · rw [beq_eq_false_iff_ne.2 (show ¬ (t.length : Int) = 0 by omega), cond_false, decide_eq_true (show (t.length : Int) > 19 by omega)] at h; cases h
  · have e : (bif decide ((t.length : Int) > 19) then true else true) = true := by cases decide ((t.length : Int) > 19) <;> rfl
    rw [beq_eq_false_iff_ne.2 (show ¬ (t.length : Int) = 0 by omega), cond_false, h2, decide_eq_true (show (t.length : Int) > 1 by omega)] at h
    rw [show ((((48 : UInt8).toNat : Nat) : Int) == 48) = true from rfl, cond_true, e] at h
    cases h
theorem nbs_len {t : List UInt8} (h : ¬ NB t) : 1 ≤ t.length ∧ t.length ≤ 19 := by
  unfold NB at h
  rcases Nat.eq_zero_or_pos t.length with h0 | h0
  · exact absurd (.inl (List.length_eq_zero_iff.1 h0)) h
  · rcases Nat.lt_or_ge 19 t.length with h1 | h1
    · exact absurd (.inr (.inl h1)) h
    · exact ⟨h0, h1⟩
theorem nds_t {c : UInt8} (h : (bif decide ((c.toNat : Int) < 48) then true else decide ((c.toNat : Int) > 57)) = true) : isD c = false := by
  rw [isD_iff]
  by_cases h1 : (c.toNat : Int) < 48
  · rw [decide_eq_false (show ¬ 48 ≤ c.toNat by omega)]; rfl
  · rw [decide_eq_false h1, cond_false] at h
    have := of_decide_eq_true h
    rw [decide_eq_false (show ¬ c.toNat ≤ 57 by omega), Bool.and_false]
theorem nds_f {c : UInt8} (h : (bif decide ((c.toNat : Int) < 48) then true else decide ((c.toNat : Int) > 57)) = false) : isD c = true ∧ 48 ≤ c.toNat ∧ c.toNat ≤ 57 := by
  by_cases h1 : (c.toNat : Int) < 48
  · rw [decide_eq_true h1] at h; cases h
  · rw [decide_eq_false h1, cond_false] at h
    have := of_decide_eq_false h
    refine ⟨?_, by omega, by omega⟩
    rw [isD_iff, decide_eq_true (show 48 ≤ c.toNat by omega), decide_eq_true (show c.toNat ≤ 57 by omega)]; rfl
theorem nx_d {t : List UInt8} {i : Nat} (hno : ∀ j, j < i → isD (t.getD j 0) = true) (h : isD (t.getD i 0) = true) : ∀ j, j < i + 1 → isD (t.getD j 0) = true := by
  intro j hj
  rcases Nat.lt_succ_iff_lt_or_eq.1 hj with h1 | rfl
  · exact hno j h1
  · exact h
theorem take_d {t : List UInt8} {i : Nat} (hi : i ≤ t.length) (hall : ∀ j, j < i → isD (t.getD j 0) = true) : ∀ c ∈ t.take i, isD c = true := by
  intro c hc
  obtain ⟨j, hj, rfl⟩ := List.mem_iff_getElem.1 hc
  rw [List.length_take] at hj
  have := hall j (by omega)
  rw [List.getD_eq_getElem?_getD, List.getElem?_eq_getElem (by omega)] at this
  rw [List.getElem_take]; exact this
theorem dU_le {t : List UInt8} {i : Nat} (h : t.length ≤ 19 ∧ i ≤ t.length) (hall : ∀ j, j < i → isD (t.getD j 0) = true) : dU (t.take i) ≤ 9999999999999999999 ∧ (i < t.length → dU (t.take i) ≤ 999999999999999999) := by
  have h1 := dU_lt (t.take i) (take_d h.2 hall)
  have hl : (t.take i).length = i := by rw [List.length_take]; omega
  rw [hl] at h1
  constructor
  · have h2 : (10 : Nat) ^ i ≤ 10 ^ 19 := Nat.pow_le_pow_right (by decide) (by omega)
    omega
  · intro h3
    have h2 : (10 : Nat) ^ i ≤ 10 ^ 18 := Nat.pow_le_pow_right (by decide) (by omega)
    omega
theorem dU_step {t : List UInt8} {i : Nat} (hi : i < t.length) (h : isD (t.getD i 0) = true ∧ 48 ≤ (t.getD i 0).toNat ∧ (t.getD i 0).toNat ≤ 57) : 10 * dU (t.take i) + (t.getD i 0).toNat - 48 = dU (t.take (i + 1)) := by
  rw [take_succ hi, dU_snoc]; omega
/-- The document's number; below 0: it is none. -/
def numS (s : List UInt8) : Int := if NB s then -1 else if s.all isD then (if dU s ≤ 9223372036854775807 then (dU s : Int) else -1) else -1
theorem numS_no {t : List UInt8} (h : NB t) : numS t = -1 := if_pos h
theorem numS_bad {t : List UInt8} {i : Nat} (hb : ¬ NB t) (hi : i < t.length) (h : isD (t.getD i 0) = false) : numS t = -1 := by
  unfold numS
  rw [if_neg hb, if_neg]
  intro hall
  have := List.all_eq_true.1 hall (t.getD i 0) (by rw [List.getD_eq_getElem?_getD, List.getElem?_eq_getElem hi]; exact List.getElem_mem hi)
  rw [h] at this; cases this
theorem all_d {t : List UInt8} {i : Nat} (hi : t.length ≤ i) (hall : ∀ j, j < i → isD (t.getD j 0) = true) : t.all isD = true := by
  rw [List.all_eq_true]
  intro x hx
  obtain ⟨j, hj, rfl⟩ := List.mem_iff_getElem.1 hx
  have := hall j (by omega)
  rwa [List.getD_eq_getElem?_getD, List.getElem?_eq_getElem hj] at this
theorem numS_big {t : List UInt8} {i : Nat} (hb : ¬ NB t) (hi : i ≤ t.length ∧ ¬ i < t.length) (hall : ∀ j, j < i → isD (t.getD j 0) = true) (h : dU (t.take i) > 9223372036854775807) : numS t = -1 := by
  rw [List.take_of_length_le (by omega)] at h
  unfold numS
  rw [if_neg hb, if_pos (all_d (by omega) hall), if_neg (by omega)]
theorem numS_ok {t : List UInt8} {i : Nat} (hb : ¬ NB t) (hi : i ≤ t.length ∧ ¬ i < t.length) (hall : ∀ j, j < i → isD (t.getD j 0) = true) (h : ¬ dU (t.take i) > 9223372036854775807) : numS t = (dU (t.take i) : Int) := by
  have e : t.take i = t := List.take_of_length_le (by omega)
  rw [e] at h ⊢
  unfold numS
  rw [if_neg hb, if_pos (all_d (by omega) hall), if_pos (by omega)]
theorem numS_digs (n : Nat) (hn : n ≤ 9223372036854775807) : numS (digs n) = n := by
  obtain ⟨c, r, e, h1, h2, h3⟩ := digs_head n
  have hl := digs_len n 19 (by omega) (by decide)
  unfold numS
  rw [if_neg, if_pos (List.all_eq_true.2 (digs_isD n)), dU_digs, if_pos hn]
  rintro (h | h | ⟨h, h'⟩)
  · exact digs_ne n h
  · omega
  · rcases Nat.eq_zero_or_pos n with h0 | h0
    · subst h0; rw [digs_small (by decide)] at h'; revert h'; decide
    · rw [e] at h
      exact h3 h0 (by have : c = 48 := h; rw [this]; rfl)
theorem numS_le (s : List UInt8) : -1 ≤ numS s ∧ numS s ≤ 9223372036854775807 := by
  unfold numS; (repeat' split) <;> omega

/-- Cut, with a piece ahead of the first. -/
def ahead (p : List UInt8) : List (List UInt8) → List (List UInt8)
  | [] => [p]
  | h :: tl => (p ++ h) :: tl
theorem ahead_nil {l : List (List UInt8)} (h : l ≠ []) : ahead [] l = l := by
  cases l with
  | nil => exact absurd rfl h
  | cons a r => rfl
theorem splitC_nonempty (p : UInt8) (l : List UInt8) : splitC p l ≠ [] := by
  intro e
  have := splitC_len p l
  rw [e] at this; simp at this
theorem cut_hit {t : List UInt8} {f i : Nat} {out : List (List UInt8)} (hi : i < t.length) (hc : t.getD i 0 = 32) (h : out ++ ahead ((t.take i).drop f) (splitC 32 (t.drop i)) = splitC 32 t) (hf : f ≤ i) :
    (out ++ [(t.take i).drop f]) ++ ahead ((t.take (i + 1)).drop (i + 1)) (splitC 32 (t.drop (i + 1))) = splitC 32 t := by
  have e : t.drop i = t.getD i 0 :: t.drop (i + 1) := by
    rw [List.drop_eq_getElem_cons hi, List.getD_eq_getElem?_getD, List.getElem?_eq_getElem hi]; rfl
  rw [e, hc, splitC_hit] at h
  rw [← h, show (t.take (i + 1)).drop (i + 1) = [] from List.drop_eq_nil_of_le (by rw [List.length_take]; omega), ahead_nil (splitC_nonempty 32 _)]
  simp [ahead]
theorem cut_miss {t : List UInt8} {f i : Nat} {out : List (List UInt8)} (hi : i < t.length) (hc : ¬ t.getD i 0 = 32) (h : out ++ ahead ((t.take i).drop f) (splitC 32 (t.drop i)) = splitC 32 t) (hf : f ≤ i) :
    out ++ ahead ((t.take (i + 1)).drop f) (splitC 32 (t.drop (i + 1))) = splitC 32 t := by
  have e : t.drop i = t.getD i 0 :: t.drop (i + 1) := by
    rw [List.drop_eq_getElem_cons hi, List.getD_eq_getElem?_getD, List.getElem?_eq_getElem hi]; rfl
  obtain ⟨hd, tl, e1, e2⟩ := splitC_ne hc (t.drop (i + 1))
  rw [e, e2] at h
  rw [← h, e1, take_succ hi, List.drop_append_of_le_length (by rw [List.length_take]; omega)]
  simp [ahead]
theorem cut_end {t : List UInt8} {f i : Nat} {out : List (List UInt8)} (hi : i ≤ t.length ∧ ¬ i < t.length) (h : out ++ ahead ((t.take i).drop f) (splitC 32 (t.drop i)) = splitC 32 t) : out ++ [t.drop f] = splitC 32 t := by
  rw [show t.drop i = [] from List.drop_eq_nil_of_le (by omega), show t.take i = t from List.take_of_length_le (by omega)] at h
  rw [← h]; simp [ahead, splitC_nil]

/-- The kind that a word is; 0: none. -/
def kindR (s : List UInt8) : Nat := if kwIdx s < 1 then 0 else (kwIdx s).toNat
theorem kindR_of {s : List UInt8} {c : Nat} (h : (c = 0 ∧ ∀ j, 1 ≤ j → j < 17 → kwL.getD j [] ≠ s) ∨ (1 ≤ c ∧ c < 17 ∧ kwL.getD c [] = s)) : c = kindR s := by
  have hk : ∀ j, j < 17 → kwIdx (kwL.getD j []) = (j : Int) := by decide
  rcases h with ⟨rfl, h⟩ | ⟨h1, h2, rfl⟩
  · unfold kindR
    by_cases hs : kwIdx s < 1
    · rw [if_pos hs]
    · exfalso
      unfold kwIdx idxL at hs
      cases hf : kwL.findIdx? (· == s) with
      | none => rw [hf] at hs; simp only at hs; omega
      | some i =>
        rw [hf] at hs
        simp only at hs
        rw [List.findIdx?_eq_some_iff_getElem] at hf
        obtain ⟨hl, he, _⟩ := hf
        have hl' : i < 17 := hl
        refine h i (by omega) hl' ?_
        rw [List.getD_eq_getElem?_getD, List.getElem?_eq_getElem hl]
        exact eq_of_beq he
  · unfold kindR
    rw [hk c h2, if_neg (by omega)]; omega
theorem kindR_le (s : List UInt8) : kindR s ≤ 16 := by
  unfold kindR
  split
  · omega
  · unfold kwIdx idxL
    split
    · rename_i i hf
      have := (List.findIdx?_eq_some_iff_getElem.1 hf).1
      have h17 : kwL.length = 17 := rfl
      omega
    · omega
theorem kindR_kw {k : Int} (h0 : 1 ≤ k) (h : k ≤ 16) : ((kindR (kwOf k) : Nat) : Int) = k := by
  unfold kindR
  rw [kwIdx_kw (by omega) h, if_neg (by omega)]; omega
/-- What the document guesses of fields. -/
def rEv (k : Nat) (l : List (List UInt8)) : Ev :=
  if k = 3 then ⟨3, l.getD 2 [], if l.getD 3 [] = presL then sigOf (l.getD 4 []) else 0, if l.getD 3 [] = presL then 3 else if l.getD 3 [] = roomL then 4 else 0⟩
  else if k = 5 then ⟨5, l.getD 2 [], sigOf (l.getD 3 []), 0⟩
  else if k = 6 ∨ k = 7 then ⟨(k : Int), [], sigOf (l.getD 2 []), 0⟩
  else if k = 9 ∨ k = 14 then ⟨(k : Int), l.getD 2 [], 0, numS (l.getD 3 [])⟩
  else if k = 16 then ⟨16, [], 0, numS (l.getD 2 [])⟩
  else ⟨(k : Int), l.getD 2 [], 0, 0⟩
/-- How many fields it takes. -/
def rUsed (k : Nat) (l : List (List UInt8)) : Nat :=
  if k = 3 then (if l.getD 3 [] = presL then 5 else 4) else if k = 5 ∨ k = 9 ∨ k = 14 then 4 else 3
theorem inS_iff (n : Int) : inS n = true ↔ 0 ≤ n ∧ n ≤ 2 := by unfold inS; simp
theorem okl_back {t : List UInt8} (h : OkL t) : ∃ r e, HasLine r e ∧ e.n ≤ 9223372036854775807 ∧ lineE r e = t ∧ rdN t = r ∧ rdE t = e ∧ splitC 32 t = digs r.toNat :: kwOf e.kind :: flE e := by
  obtain ⟨h1, h2⟩ := ok_line h
  obtain ⟨_, _, _, h3⟩ := line_read h1 (rdE_n t) h2
  exact ⟨_, _, h1, rdE_n t, h2, rfl, rfl, h3⟩
theorem rl_line {r : Int} {e : Ev} (h : HasLine r e) (hn : e.n ≤ 9223372036854775807) : rEv e.kind.toNat (digs r.toNat :: kwOf e.kind :: flE e) = e ∧ rUsed e.kind.toNat (digs r.toNat :: kwOf e.kind :: flE e) = (flE e).length + 2 := by
  obtain ⟨k, id, sg, n⟩ := e
  have hroom : ¬ roomL = presL := by decide
  have hroom2 : ¬ [114, 111, 111, 109] = ([112, 114, 101, 115, 115, 117, 114, 101] : List UInt8) := by decide
  rcases right_shapes.1 h.1 with ⟨a, b, c, d⟩ | ⟨a, b, c, d⟩ | ⟨a, b, c, d⟩ | ⟨a, b, c, d⟩ | ⟨a, b, c, d⟩ | ⟨a, b, c, d⟩ | ⟨a, b, c, d⟩
  all_goals simp only at a b c d hn
  · subst a; subst b; simp [rEv, rUsed, flE, (sig_sgw c).1]
  · subst a; subst b; subst c; simp [rEv, rUsed, flE, hroom]
  · subst a; subst d; simp [rEv, rUsed, flE, (sig_sgw b).1]
  · subst c; subst d; rcases a with rfl | rfl <;> simp [rEv, rUsed, flE, (sig_sgw b).1]
  · have := numS_digs n.toNat (by omega)
    subst d; rcases a with rfl | rfl <;> simp [rEv, rUsed, flE, itoa_pos b, this] <;> omega
  · have := numS_digs n.toNat (by omega)
    subst a; subst c; subst d; simp [rEv, rUsed, flE, itoa_pos b, this]; omega
  · subst c; subst d; rcases a with rfl | rfl | rfl | rfl | rfl | rfl | rfl | rfl | rfl <;> simp [rEv, rUsed, flE]
/-- A line, by what the document guesses. -/
theorem rl_main {t : List UInt8} {k : Nat} (hk : kindR ((splitC 32 t).getD 1 []) = k) (hn : (rEv k (splitC 32 t)).n ≤ 9223372036854775807) :
    OkL t ↔ (3 ≤ (splitC 32 t).length ∧ (splitC 32 t).length ≤ 5 ∧ (splitC 32 t).length = rUsed k (splitC 32 t) ∧ HasLine (numS ((splitC 32 t).getD 0 [])) (rEv k (splitC 32 t)) ∧ lineE (numS ((splitC 32 t).getD 0 [])) (rEv k (splitC 32 t)) = t) := by
  constructor
  · intro h
    obtain ⟨r, e, h1, h2, h3, _, _, h4⟩ := okl_back h
    have h5 := rl_line h1 h2
    have hr : numS ((splitC 32 t).getD 0 []) = r := by
      rw [h4]
      show numS (digs r.toNat) = r
      have := h1.2
      rw [numS_digs _ (by omega)]; omega
    have hkk : k = e.kind.toNat := by
      rw [← hk, h4]
      show kindR (kwOf e.kind) = _
      have h7 := kindR_kw h1.1.1 h1.1.2.1
      have h8 := h1.1.1
      generalize kindR (kwOf e.kind) = q at h7 ⊢
      omega
    have hl : (flE e).length = 1 ∨ (flE e).length = 2 ∨ (flE e).length = 3 := by
      unfold flE; (repeat' split) <;> simp
    rw [hr, hkk, h4, h5.1, h5.2]
    have hk1 := h1.1.1
    simp only [List.length_cons]
    exact ⟨by omega, by omega, by first | rfl | trivial | omega, h1, h3⟩
  · rintro ⟨_, _, _, h1, h2⟩
    exact (line_read h1 hn h2).1
theorem rl_val {t : List UInt8} {k : Nat} (hn : (rEv k (splitC 32 t)).n ≤ 9223372036854775807) (h1 : HasLine (numS ((splitC 32 t).getD 0 [])) (rEv k (splitC 32 t))) (h2 : lineE (numS ((splitC 32 t).getD 0 [])) (rEv k (splitC 32 t)) = t) :
    rdN t = numS ((splitC 32 t).getD 0 []) ∧ rdE t = rEv k (splitC 32 t) := by
  obtain ⟨_, h3, h4, _⟩ := line_read h1 hn h2
  exact ⟨h3, h4⟩
theorem rEv_n (k : Nat) (l : List (List UInt8)) : -9223372036854775808 ≤ (rEv k l).n ∧ (rEv k l).n ≤ 9223372036854775807 := by
  have h1 := numS_le (l.getD 2 [])
  have h2 := numS_le (l.getD 3 [])
  unfold rEv
  (repeat' split) <;> simp only <;> (try split) <;> (try split) <;> omega

/-- No name, where one is wanted; or one, where none is. -/
def BadId (e : Ev) : Prop := (Named e.kind ∧ wordB e.id = false) ∨ (¬ Named e.kind ∧ ¬ e.id = [])
instance (e : Ev) : Decidable (BadId e) := by unfold BadId; infer_instance
theorem kw_nil {k : Int} : kwOf k = [] ↔ ¬ (1 ≤ k ∧ k ≤ 16) := by
  constructor
  · rintro h ⟨h1, h2⟩
    have hk : k = 1 ∨ k = 2 ∨ k = 3 ∨ k = 4 ∨ k = 5 ∨ k = 6 ∨ k = 7 ∨ k = 8 ∨ k = 9 ∨ k = 10 ∨ k = 11 ∨ k = 12 ∨ k = 13 ∨ k = 14 ∨ k = 15 ∨ k = 16 := by omega
    rcases hk with rfl | rfl | rfl | rfl | rfl | rfl | rfl | rfl | rfl | rfl | rfl | rfl | rfl | rfl | rfl | rfl <;> exact absurd h (by decide)
  · intro h
    unfold kwOf
    by_cases h0 : k ≤ 0
    · rw [show k.toNat = 0 by omega]; rfl
    · rw [List.getD_eq_getElem?_getD, List.getElem?_eq_none (by show 17 ≤ _; omega)]; rfl
theorem hl_e {r : Int} {e : Ev} : HasLine r e ↔ ((1 ≤ e.kind ∧ e.kind ≤ 16 ∧ 0 ≤ r ∧ r ≤ 1099511627776) ∧ ¬ BadId e ∧
    ((e.kind = 3 ∧ ((e.n = 3 ∧ 0 ≤ e.sig ∧ e.sig ≤ 2) ∨ (e.n = 4 ∧ e.sig = 0))) ∨ ((e.kind = 5 ∨ e.kind = 6 ∨ e.kind = 7) ∧ (0 ≤ e.sig ∧ e.sig ≤ 2) ∧ e.n = 0) ∨
     ((e.kind = 9 ∨ e.kind = 14 ∨ e.kind = 16) ∧ 0 ≤ e.n ∧ e.sig = 0) ∨ (¬ (e.kind = 3 ∨ e.kind = 5 ∨ e.kind = 6 ∨ e.kind = 7 ∨ e.kind = 9 ∨ e.kind = 14 ∨ e.kind = 16) ∧ e.sig = 0 ∧ e.n = 0))) := by
  unfold HasLine
  rw [right_shapes]
  simp only [inS_iff]
  unfold BadId Named
  obtain ⟨k, id, sg, n⟩ := e
  simp only
  constructor
  · rintro ⟨h, hr⟩
    rcases h with ⟨a, b, c, d⟩ | ⟨a, b, c, d⟩ | ⟨a, b, c, d⟩ | ⟨a, b, c, d⟩ | ⟨a, b, c, d⟩ | ⟨a, b, c, d⟩ | ⟨a, b, c, d⟩
    · refine ⟨by omega, ?_, by omega⟩; rw [d]; rintro (⟨_, h⟩ | ⟨h, _⟩); cases h; omega
    · refine ⟨by omega, ?_, by omega⟩; rw [d]; rintro (⟨_, h⟩ | ⟨h, _⟩); cases h; omega
    · refine ⟨by omega, ?_, by omega⟩; rw [c]; rintro (⟨_, h⟩ | ⟨h, _⟩); cases h; omega
    · refine ⟨by omega, ?_, by omega⟩; rintro (⟨h, _⟩ | ⟨_, h⟩); omega; exact h c
    · refine ⟨by omega, ?_, by omega⟩; rw [c]; rintro (⟨_, h⟩ | ⟨h, _⟩); cases h; omega
    · refine ⟨by omega, ?_, by omega⟩; rintro (⟨h, _⟩ | ⟨_, h⟩); omega; exact h c
    · refine ⟨by omega, ?_, by omega⟩; rw [b]; rintro (⟨_, h⟩ | ⟨h, _⟩); cases h; omega
  · rintro ⟨hp, hb, h⟩
    refine ⟨?_, hp.2.2⟩
    have hw : ¬ (k = 6 ∨ k = 7 ∨ k = 16) → wordB id = true := by
      intro hk
      rcases Bool.eq_false_or_eq_true (wordB id) with h | h
      · exact h
      · exact absurd (.inl ⟨by omega, h⟩) hb
    have hi : (k = 6 ∨ k = 7 ∨ k = 16) → id = [] := by
      intro hk
      by_cases h : id = []
      · exact h
      · exact absurd (.inr ⟨by omega, h⟩) hb
    rcases h with ⟨a, (b | b)⟩ | ⟨a, b, c⟩ | ⟨a, b, c⟩ | ⟨a, b, c⟩
    · exact .inl ⟨a, b.1, b.2, hw (by omega)⟩
    · exact .inr (.inl ⟨a, b.1, b.2, hw (by omega)⟩)
    · rcases a with a | a
      · exact .inr (.inr (.inl ⟨a, b, hw (by omega), c⟩))
      · exact .inr (.inr (.inr (.inl ⟨a, b, hi (by omega), c⟩)))
    · rcases (show (k = 9 ∨ k = 14) ∨ k = 16 by omega) with a | a
      · exact .inr (.inr (.inr (.inr (.inl ⟨a, b, hw (by omega), c⟩))))
      · exact .inr (.inr (.inr (.inr (.inr (.inl ⟨a, b, hi (by omega), c⟩)))))
    · exact .inr (.inr (.inr (.inr (.inr (.inr ⟨by omega, hw (by omega), b, c⟩)))))

/-- What the document's reading has found, step by step. -/
def R1 (c : Nat) (l : List (List UInt8)) (id : List UInt8) (r1 : List (List UInt8)) : Prop := (Named (c : Int) ∧ id = l.getD 2 [] ∧ r1 = l.drop 3) ∨ (¬ Named (c : Int) ∧ id = [] ∧ r1 = l.drop 2)
def R2 (c : Nat) (r1 : List (List UInt8)) (n1 : Int) (r2 : List (List UInt8)) : Prop := (c = 3 ∧ r1.length ≠ 0 ∧ n1 = (if r1.getD 0 [] = presL then 3 else if r1.getD 0 [] = roomL then 4 else 0) ∧ r2 = r1.drop 1) ∨ (¬ c = 3 ∧ n1 = 0 ∧ r2 = r1)
def C3 (c : Nat) (n1 : Int) : Prop := (c = 3 ∧ n1 = 3) ∨ (5 ≤ c ∧ c ≤ 7)
def R3 (c : Nat) (r2 : List (List UInt8)) (n1 sg n2 : Int) (r3 : List (List UInt8)) : Prop :=
  (C3 c n1 ∧ r2.length ≠ 0 ∧ sg = sigOf (r2.getD 0 []) ∧ n2 = n1 ∧ r3 = r2.drop 1) ∨ (¬ C3 c n1 ∧ (c = 9 ∨ c = 14 ∨ c = 16) ∧ r2.length ≠ 0 ∧ sg = 0 ∧ n2 = numS (r2.getD 0 []) ∧ r3 = r2.drop 1) ∨ (¬ C3 c n1 ∧ ¬ (c = 9 ∨ c = 14 ∨ c = 16) ∧ sg = 0 ∧ n2 = n1 ∧ r3 = r2)
theorem getD_drop0 (l : List (List UInt8)) (i : Nat) : (l.drop i).getD 0 [] = l.getD i [] := by
  rw [List.getD_eq_getElem?_getD, List.getD_eq_getElem?_getD, List.getElem?_drop, Nat.add_zero]
section
variable {t : List UInt8} {c : Nat} {id : List UInt8} {r1 r2 r3 : List (List UInt8)} {n1 n2 sg : Int}
theorem rr_B (hk : kindR ((splitC 32 t).getD 1 []) = c) (h1 : R1 c (splitC 32 t) id r1) (hc : c = 3) (h0 : r1.length = 0) : ¬ OkL t := by
  intro hok
  subst hc
  have q := ((rl_main hk (rEv_n _ _).2).1 hok).2.2.1
  rcases h1 with ⟨_, _, rfl⟩ | ⟨h, _⟩
  · rw [List.length_drop] at h0
    have : rUsed 3 (splitC 32 t) = 4 ∨ rUsed 3 (splitC 32 t) = 5 := by unfold rUsed; simp only [if_true]; split <;> simp
    omega
  · exact h (by decide)
theorem rr_C (hk : kindR ((splitC 32 t).getD 1 []) = c) (h1 : R1 c (splitC 32 t) id r1) (h2 : R2 c r1 n1 r2) (hC : (c = 3 ∧ n1 = 3) ∨ (5 ≤ c ∧ c ≤ 7)) (h0 : r2.length = 0) : ¬ OkL t := by
  intro hok
  have q := ((rl_main hk (rEv_n _ _).2).1 hok).2.2.1
  rcases hC with ⟨rfl, rfl⟩ | hC
  · rcases h2 with ⟨_, _, h3, rfl⟩ | ⟨h, _⟩
    · rcases h1 with ⟨_, _, rfl⟩ | ⟨h, _⟩
      · rw [getD_drop0] at h3
        have hp : (splitC 32 t).getD 3 [] = presL := by
          by_cases hp : (splitC 32 t).getD 3 [] = presL
          · exact hp
          · rw [if_neg hp] at h3; split at h3 <;> omega
        have : rUsed 3 (splitC 32 t) = 5 := by unfold rUsed; rw [if_pos rfl, if_pos hp]
        rw [List.length_drop, List.length_drop] at h0
        omega
      · exact h (by decide)
    · exact h rfl
  · rcases h2 with ⟨h, _⟩ | ⟨_, _, rfl⟩
    · omega
    · rcases (show c = 5 ∨ (c = 6 ∨ c = 7) by omega) with rfl | h
      · rcases h1 with ⟨_, _, rfl⟩ | ⟨h, _⟩
        · rw [List.length_drop] at h0
          have : rUsed 5 (splitC 32 t) = 4 := rfl
          omega
        · exact h (by decide)
      · rcases h1 with ⟨h4, _⟩ | ⟨_, _, rfl⟩
        · rcases h with rfl | rfl <;> exact absurd h4 (by decide)
        · rw [List.length_drop] at h0
          have : rUsed c (splitC 32 t) = 3 := by rcases h with rfl | rfl <;> rfl
          omega
theorem rr_D (hk : kindR ((splitC 32 t).getD 1 []) = c) (h1 : R1 c (splitC 32 t) id r1) (h2 : R2 c r1 n1 r2) (hC : c = 9 ∨ c = 14 ∨ c = 16) (h0 : r2.length = 0) : ¬ OkL t := by
  intro hok
  have q := ((rl_main hk (rEv_n _ _).2).1 hok).2.2.1
  rcases h2 with ⟨h, _⟩ | ⟨_, _, rfl⟩
  · omega
  · rcases (show (c = 9 ∨ c = 14) ∨ c = 16 by omega) with h | rfl
    · rcases h1 with ⟨_, _, rfl⟩ | ⟨h4, _⟩
      · rw [List.length_drop] at h0
        have : rUsed c (splitC 32 t) = 4 := by rcases h with rfl | rfl <;> rfl
        omega
      · rcases h with rfl | rfl <;> exact absurd (by decide) h4
    · rcases h1 with ⟨h4, _⟩ | ⟨_, _, rfl⟩
      · exact absurd h4 (by decide)
      · rw [List.length_drop] at h0
        have : rUsed 16 (splitC 32 t) = 3 := rfl
        omega
theorem rr_key (hc : c ≤ 16) {l : List (List UInt8)} (h1 : R1 c l id r1) (h2 : R2 c r1 n1 r2) (h3 : R3 c r2 n1 sg n2 r3) : (⟨(c : Int), id, sg, n2⟩ : Ev) = rEv c l ∧ r3 = l.drop (rUsed c l) := by
  have hroom : ¬ roomL = presL := by decide
  have hk : c = 0 ∨ c = 1 ∨ c = 2 ∨ c = 3 ∨ c = 4 ∨ c = 5 ∨ c = 6 ∨ c = 7 ∨ c = 8 ∨ c = 9 ∨ c = 10 ∨ c = 11 ∨ c = 12 ∨ c = 13 ∨ c = 14 ∨ c = 15 ∨ c = 16 := by omega
  unfold R1 at h1; unfold R2 at h2; unfold R3 C3 at h3
  by_cases h : c = 3
  · subst h
    rcases h1 with ⟨_, rfl, rfl⟩ | ⟨h, _⟩
    · rcases h2 with ⟨_, _, rfl, rfl⟩ | ⟨h, _⟩
      · rw [getD_drop0] at h3
        unfold rEv rUsed
        by_cases hp : l.getD 3 [] = presL
        · simp only [hp, if_true] at h3 ⊢
          rcases h3 with ⟨_, _, rfl, rfl, rfl⟩ | ⟨h, _⟩ | ⟨h, _⟩
          · simp [getD_drop0]
          · exact absurd (by simp) h
          · exact absurd (by simp) h
        · rw [if_neg hp] at h3
          simp only [if_neg hp, if_true]
          rcases h3 with ⟨h, _⟩ | ⟨_, h, _⟩ | ⟨_, _, rfl, rfl, rfl⟩
          · split at h <;> omega
          · omega
          · simp
      · exact absurd rfl h
    · exact absurd (by decide) h
  · rcases h2 with ⟨h', _⟩ | ⟨_, rfl, rfl⟩
    · exact absurd h' h
    · rcases hk with rfl | rfl | rfl | rfl | rfl | rfl | rfl | rfl | rfl | rfl | rfl | rfl | rfl | rfl | rfl | rfl | rfl
      all_goals first
        | exact absurd rfl h
        | (rcases h1 with ⟨_, rfl, rfl⟩ | ⟨h', _⟩
           · simp at h3
             first
               | (obtain ⟨_, rfl, rfl, rfl⟩ := h3; simp [rEv, rUsed, getD_drop0]; done)
               | (obtain ⟨rfl, rfl, rfl⟩ := h3; simp [rEv, rUsed, getD_drop0]; done)
           · exact absurd (by decide) h')
        | (rcases h1 with ⟨h', _⟩ | ⟨_, rfl, rfl⟩
           · exact absurd h' (by decide)
           · simp at h3
             first
               | (obtain ⟨_, rfl, rfl, rfl⟩ := h3; simp [rEv, rUsed, getD_drop0]; done)
               | (obtain ⟨rfl, rfl, rfl⟩ := h3; simp [rEv, rUsed, getD_drop0]; done))
theorem rr_E {x : List UInt8} (hc : c ≤ 16) (hk : kindR ((splitC 32 t).getD 1 []) = c) (h1 : R1 c (splitC 32 t) id r1) (h2 : R2 c r1 n1 r2) (h3 : R3 c r2 n1 sg n2 r3)
    (hx : HasLine (numS ((splitC 32 t).getD 0 [])) ⟨(c : Int), id, sg, n2⟩ → x = lineE (numS ((splitC 32 t).getD 0 [])) ⟨(c : Int), id, sg, n2⟩) (h : ¬ (HasLine (numS ((splitC 32 t).getD 0 [])) ⟨(c : Int), id, sg, n2⟩ ∧ x = t ∧ r3.length = 0)) : ¬ OkL t := by
  intro hok
  obtain ⟨e1, e2⟩ := rr_key hc h1 h2 h3
  rw [e1] at h hx
  obtain ⟨_, _, q1, q2, q3⟩ := (rl_main hk (rEv_n _ _).2).1 hok
  exact h ⟨q2, (hx q2).trans q3, by rw [e2, List.length_drop]; omega⟩
theorem rr_F {x : List UInt8} (hc : c ≤ 16) (h1 : R1 c (splitC 32 t) id r1) (h2 : R2 c r1 n1 r2) (h3 : R3 c r2 n1 sg n2 r3)
    (hx : HasLine (numS ((splitC 32 t).getD 0 [])) ⟨(c : Int), id, sg, n2⟩ → x = lineE (numS ((splitC 32 t).getD 0 [])) ⟨(c : Int), id, sg, n2⟩) (h : HasLine (numS ((splitC 32 t).getD 0 [])) ⟨(c : Int), id, sg, n2⟩ ∧ x = t ∧ r3.length = 0) :
    OkL t ∧ rdN t = numS ((splitC 32 t).getD 0 []) ∧ rdE t = ⟨(c : Int), id, sg, n2⟩ := by
  obtain ⟨e1, _⟩ := rr_key hc h1 h2 h3
  rw [e1] at h hx ⊢
  obtain ⟨q1, q2, q3, _⟩ := line_read h.1 (rEv_n _ _).2 ((hx h.1).symm.trans h.2.1)
  exact ⟨q1, q2, q3⟩
theorem rr_n2 (hc : c ≤ 16) {l : List (List UInt8)} (h1 : R1 c l id r1) (h2 : R2 c r1 n1 r2) (h3 : R3 c r2 n1 sg n2 r3) : -9223372036854775808 ≤ n2 ∧ n2 ≤ 9223372036854775807 := by
  have := (rr_key hc h1 h2 h3).1
  have h := rEv_n c l
  rw [← this] at h; exact h
end

theorem kz_t {k : Int} (h : (bif decide (k < 0) then true else decide (k > 16)) = true) : k < 0 ∨ k > 16 := by
  by_cases h0 : k < 0
  · exact .inl h0
  · rw [decide_eq_false h0] at h; exact .inr (of_decide_eq_true h)
theorem kz_f {k : Int} (h : (bif decide (k < 0) then true else decide (k > 16)) = false) : 0 ≤ k ∧ k ≤ 16 := by
  by_cases h0 : k < 0
  · rw [decide_eq_true h0] at h; cases h
  · rw [decide_eq_false h0] at h; have := of_decide_eq_false h; omega
theorem kw_out {k : Int} (h : k < 0 ∨ k > 16) : kwOf k = [] := by
  unfold kwOf
  rcases h with h | h
  · rw [show k.toNat = 0 by omega]; rfl
  · rw [List.getD_eq_getElem?_getD, List.getElem?_eq_none (by show 17 ≤ _; omega)]; rfl
theorem nx_w {t : List UInt8} {i : Nat} (hno : ∀ j : Nat, j < i → wordOf (j : Int) ≠ t) (h : ¬ wordOf (i : Int) = t) : ∀ j : Nat, j < i + 1 → wordOf (j : Int) ≠ t := by
  intro j hj
  rcases Nat.lt_succ_iff_lt_or_eq.1 hj with h1 | rfl
  · exact hno j h1
  · exact h
theorem rsig_at {t : List UInt8} {i : Nat} (hi : i ≤ 2) (h : wordOf (i : Int) = t) : sigOf t = (i : Int) := by
  rw [← h]; exact sig_word (by omega) (by omega)
theorem rsig_no {t : List UInt8} {i : Nat} (hi : 3 ≤ i) (hno : ∀ j : Nat, j < i → wordOf (j : Int) ≠ t) : sigOf t = -1 := by
  rcases sig_cases t with h | ⟨_, h⟩ | ⟨_, h⟩ | ⟨_, h⟩
  · exact h.1
  · exact absurd h.symm (hno 0 (by omega))
  · exact absurd h.symm (hno 1 (by omega))
  · exact absurd h.symm (hno 2 (by omega))

theorem lDigits_int (n : Int) (h0 : 0 ≤ n) (hn : n ≤ 9223372036854775807) (M : Nat → Option (List AV)) : ACall Tryd.prog 19 [zI n] M (fun r M' => r = .str (digs n.toNat) ∧ M = M') := by
  obtain ⟨m, rfl⟩ := Int.eq_ofNat_of_zero_le h0
  exact Digits_any m (by omega) M

set_option maxRecDepth 20000 in
theorem lrw06_any (i : Int) (M : Nat → Option (List AV)) : ACall Tryd.prog 41 [zI i] M (fun r M' => r = .str (wordOf i) ∧ M = M') := by
  refine ACall.of Tryd.func41 rfl (n := 7) rfl rfl rfl ?_
  refine zg ?_
  refine zM (.str []) ?_
  refine zN ?_
  refine AWp.seq ?_
  refine zg ?_
  refine zM (zI i) ?_
  refine zr (zi (i == 0)) ?_
  refine zN ?_
  refine zC (b := i == 0) rfl (fun h1 => ?_) (fun h1 => ?_)
  · skip
    have h1' : i = 0 := (by have hh := eq_of_beq h1; omega)
    clear h1
    refine zg ?_
    refine zM (.str [109, 101, 109, 111, 114, 121]) ?_
    refine zN ?_
    refine AWp.ret ?_
    exact ⟨.inl rfl, _, ResOf.one 2 (.str [109, 101, 109, 111, 114, 121]) rfl rfl, ⟨congrArg AV.str (by unfold wordOf; first | (rw [if_pos (by assumption)]; rfl) | (rw [if_neg (by assumption), if_pos (by assumption)]; rfl) | (rw [if_neg (by assumption), if_neg (by assumption)]; rfl)), rfl⟩⟩
  · skip
    have h1' : ¬ (i = 0) := (by have hh := beq_eq_false_iff_ne.1 h1; omega)
    clear h1
    refine AWp.skip ?_
    refine AWp.seq ?_
    refine zg ?_
    refine zM (zI i) ?_
    refine zr (zi (i == 1)) ?_
    refine zN ?_
    refine zC (b := i == 1) rfl (fun h2 => ?_) (fun h2 => ?_)
    · skip
      have h2' : i = 1 := (by have hh := eq_of_beq h2; omega)
      clear h2
      refine zg ?_
      refine zM (.str [100, 105, 115, 107]) ?_
      refine zN ?_
      refine AWp.ret ?_
      exact ⟨.inl rfl, _, ResOf.one 2 (.str [100, 105, 115, 107]) rfl rfl, ⟨congrArg AV.str (by unfold wordOf; first | (rw [if_pos (by assumption)]; rfl) | (rw [if_neg (by assumption), if_pos (by assumption)]; rfl) | (rw [if_neg (by assumption), if_neg (by assumption)]; rfl)), rfl⟩⟩
    · skip
      have h2' : ¬ (i = 1) := (by have hh := beq_eq_false_iff_ne.1 h2; omega)
      clear h2
      refine AWp.skip ?_
      refine zg ?_
      refine zM (.str [112, 105, 100]) ?_
      refine zN ?_
      refine AWp.ret ?_
      exact ⟨.inl rfl, _, ResOf.one 2 (.str [112, 105, 100]) rfl rfl, ⟨congrArg AV.str (by unfold wordOf; first | (rw [if_pos (by assumption)]; rfl) | (rw [if_neg (by assumption), if_pos (by assumption)]; rfl) | (rw [if_neg (by assumption), if_neg (by assumption)]; rfl)), rfl⟩⟩

set_option maxRecDepth 20000 in
theorem rWd_any (t : List UInt8) (hl : t.length ≤ 4294967280) (M : Nat → Option (List AV)) : ACall Tryd.prog 51 [.str t] M (fun r M' => r = zB (wordB t) ∧ M = M') := by
  refine ACall.of Tryd.func51 rfl (n := 33) rfl rfl rfl ?_
  refine zg ?_
  refine zM (zB false) ?_
  refine zN ?_
  refine AWp.seq ?_
  refine zg ?_
  refine zM (zI 0) ?_
  refine zN ?_
  refine AWp.block ?_
  refine AWp.loopE [0, 3] [] (fun m s => ∃ (i : Nat), m = t.length - i ∧ s = ⟨[(0, .str t), (3, zI (i : Int))], [], M⟩ ∧ (i ≤ t.length) ∧ (∀ j, j < i → visB (t.getD j 0) = true)) ?_ ?_
  · exact ⟨_, 0, rfl, rfl, Nat.zero_le _, fun j hj => by omega⟩
  · rintro _ _ ⟨i, rfl, rfl, hi, hno⟩
    refine AWp.seq ?_
    refine zg ?_
    refine zM (zI (i : Int)) ?_
    refine zM (.str t) ?_
    refine zr (zS t t.length Tryd.underlying9) ?_
    refine zr (zi (decide ((i : Int) < (t.length : Int)))) ?_
    refine zN ?_
    refine zC (b := decide ((i : Int) < (t.length : Int))) rfl (fun h1 => ?_) (fun h1 => ?_)
    · skip
      have h1' : i < t.length := (by have hh := of_decide_eq_true h1; omega)
      clear h1
      refine AWp.skip ?_
      refine AWp.seq ?_
      refine AWp.block ?_
      refine zj 19 [(0, .str t), (3, zI (i : Int)), (7, zB (decide ((i : Int) < (t.length : Int))))] [] M (bif (decide (((t.getD i 0).toNat : Int) < 33)) then true else (decide (((t.getD i 0).toNat : Int) > 126))) ?_ ?_
      · skip
        refine zM (.str t) ?_
        refine zM (zI (i : Int)) ?_
        refine zr (Reader.byte (m := i) (c := t.getD i 0) rfl Tryd.underlying9 rfl rfl rfl (getD_some (by first | omega | (simp; omega)))) ?_
        refine zr (zi (decide (((t.getD i 0).toNat : Int) < 33))) ?_
        refine zM (zB (decide (((t.getD i 0).toNat : Int) < 33))) ?_
        refine AOps.splitJ (t := 14) (b := decide (((t.getD i 0).toNat : Int) < 33)) (x := true) (y := (decide (((t.getD i 0).toNat : Int) > 126))) rfl (fun h2 => ?_) (fun h2 => ?_)
        · skip
          have h2' : ((t.getD i 0).toNat) < 33 := (by have hh := of_decide_eq_true h2; omega)
          clear h2
          refine zs ?_
          refine zs ?_
          refine zs ?_
          refine zs ?_
          refine zr (zp true (zB true)) ?_
          exact AOps.nil rfl
        · skip
          have h2' : ¬ (((t.getD i 0).toNat) < 33) := (by have hh := of_decide_eq_false h2; omega)
          clear h2
          refine zM (.str t) ?_
          refine zM (zI (i : Int)) ?_
          refine zr (Reader.byte (m := i) (c := t.getD i 0) rfl Tryd.underlying9 rfl rfl rfl (getD_some (by first | omega | (simp; omega)))) ?_
          refine zr (zi (decide (((t.getD i 0).toNat : Int) > 126))) ?_
          refine zr (zp false (zB (decide (((t.getD i 0).toNat : Int) > 126)))) ?_
          exact AOps.nil rfl
      refine zC (b := bif (decide (((t.getD i 0).toNat : Int) < 33)) then true else (decide (((t.getD i 0).toNat : Int) > 126))) rfl (fun h3 => ?_) (fun h3 => ?_)
      · skip
        have h3' : visB (t.getD i 0) = false := (visr_f h3)
        clear h3
        refine zg ?_
        refine zM (zB false) ?_
        refine zN ?_
        refine AWp.ret ?_
        exact ⟨.inl rfl, _, ResOf.one 2 (zB false) rfl rfl, ⟨congrArg (fun b => AV.lit (.bool b)) ((word_bad (by omega) (by assumption)).symm), rfl⟩⟩
      · skip
        have h3' : visB (t.getD i 0) = true := (visr_t h3)
        clear h3
        refine AWp.skip ?_
        refine AWp.region ?_
        refine zM (zI (i : Int)) ?_
        refine zr (zw ((i : Int) + 1) ((i + 1 : Nat) : Int)) ?_
        refine zM (zI ((i + 1 : Nat) : Int)) ?_
        refine zN ?_
        exact ⟨_, by omega, i + 1, rfl, rfl, by omega, nx_vis hno (by assumption)⟩
    · skip
      have h1' : ¬ (i < t.length) := (by have hh := of_decide_eq_false h1; omega)
      clear h1
      refine AWp.exit ?_
      refine zj 2 [(0, .str t), (3, zI (i : Int)), (7, zB (decide ((i : Int) < (t.length : Int))))] [] M (bif (decide ((t.length : Int) ≥ 1)) then (bif (decide ((t.length : Int) ≤ 60)) then (((t.getD 0 0).toNat : Int) != 35) else false) else false) ?_ ?_
      · skip
        refine zM (.str t) ?_
        refine zr (zS t t.length Tryd.underlying9) ?_
        refine zr (zi (decide ((t.length : Int) ≥ 1))) ?_
        refine zM (zB (decide ((t.length : Int) ≥ 1))) ?_
        refine AOps.splitJ (t := 23) (b := decide ((t.length : Int) ≥ 1)) (x := (bif (decide ((t.length : Int) ≤ 60)) then (((t.getD 0 0).toNat : Int) != 35) else false)) (y := false) rfl (fun h4 => ?_) (fun h4 => ?_)
        · skip
          have h4' : t.length ≥ 1 := (by have hh := of_decide_eq_true h4; omega)
          clear h4
          refine zM (.str t) ?_
          refine zr (zS t t.length Tryd.underlying9) ?_
          refine zr (zi (decide ((t.length : Int) ≤ 60))) ?_
          refine zr (zp true (zB (decide ((t.length : Int) ≤ 60)))) ?_
          refine zM (zB (decide ((t.length : Int) ≤ 60))) ?_
          refine AOps.splitJ (t := 28) (b := decide ((t.length : Int) ≤ 60)) (x := (((t.getD 0 0).toNat : Int) != 35)) (y := false) rfl (fun h5 => ?_) (fun h5 => ?_)
          · skip
            have h5' : t.length ≤ 60 := (by have hh := of_decide_eq_true h5; omega)
            clear h5
            refine zM (.str t) ?_
            refine zr (Reader.byte (m := 0) (c := t.getD 0 0) rfl Tryd.underlying9 rfl rfl rfl (getD_some (by first | omega | (simp; omega)))) ?_
            refine zr (zi (((t.getD 0 0).toNat : Int) != 35)) ?_
            refine zr (zp true (zB (((t.getD 0 0).toNat : Int) != 35))) ?_
            refine zM (zB (((t.getD 0 0).toNat : Int) != 35)) ?_
            exact AOps.nil rfl
          · skip
            have h5' : ¬ (t.length ≤ 60) := (by have hh := of_decide_eq_false h5; omega)
            clear h5
            refine zs ?_
            refine zs ?_
            refine zs ?_
            refine zr (zp false (zB false)) ?_
            refine zM (zB false) ?_
            exact AOps.nil rfl
        · skip
          have h4' : ¬ (t.length ≥ 1) := (by have hh := of_decide_eq_false h4; omega)
          clear h4
          refine zs ?_
          refine zs ?_
          refine zs ?_
          refine zr (zp false (zB false)) ?_
          refine zM (zB false) ?_
          refine zs ?_
          refine zs ?_
          refine zs ?_
          refine zr (zp false (zB false)) ?_
          refine zM (zB false) ?_
          exact AOps.nil rfl
      refine AWp.ret ?_
      exact ⟨.inl rfl, _, ResOf.one 2 (zB (bif (decide ((t.length : Int) ≥ 1)) then (bif (decide ((t.length : Int) ≤ 60)) then (((t.getD 0 0).toNat : Int) != 35) else false) else false)) rfl rfl, ⟨congrArg (fun b => AV.lit (.bool b)) (word_end (by omega) hno), rfl⟩⟩

set_option maxRecDepth 20000 in
theorem rkw_any (k : Int) (M : Nat → Option (List AV)) : ACall Tryd.prog 50 [zI k] M (fun r M' => r = .str (kwOf k) ∧ M = M') := by
  refine ACall.of Tryd.func50 rfl (n := 15) rfl rfl rfl ?_
  refine zg ?_
  refine zM (.str []) ?_
  refine zN ?_
  refine zg ?_
  refine zbS [] (kwL.map AV.str) Tryd.underlying23 Tryd.i9 ?_
  refine zT (v := .list true 9 (kwL.map AV.str)) rfl ?_
  refine zN ?_
  refine AWp.seq ?_
  refine zj 10 [(0, zI k), (2, .str []), (3, .list true 9 (kwL.map AV.str))] [] M (bif (decide (k < 0)) then true else (decide (k > 16))) ?_ ?_
  · skip
    refine zM (zI k) ?_
    refine zr (zi (decide (k < 0))) ?_
    refine zM (zB (decide (k < 0))) ?_
    refine AOps.splitJ (t := 7) (b := decide (k < 0)) (x := true) (y := (decide (k > 16))) rfl (fun h1 => ?_) (fun h1 => ?_)
    · skip
      have h1' : k < 0 := (by have hh := of_decide_eq_true h1; omega)
      clear h1
      refine zs ?_
      refine zs ?_
      refine zr (zp true (zB true)) ?_
      exact AOps.nil rfl
    · skip
      have h1' : ¬ (k < 0) := (by have hh := of_decide_eq_false h1; omega)
      clear h1
      refine zM (zI k) ?_
      refine zr (zi (decide (k > 16))) ?_
      refine zr (zp false (zB (decide (k > 16)))) ?_
      exact AOps.nil rfl
  refine zC (b := bif (decide (k < 0)) then true else (decide (k > 16))) rfl (fun h2 => ?_) (fun h2 => ?_)
  · skip
    have h2' : k < 0 ∨ k > 16 := (kz_t h2)
    clear h2
    refine zg ?_
    refine zM (.str []) ?_
    refine zN ?_
    refine AWp.ret ?_
    exact ⟨.inl rfl, _, ResOf.one 2 (.str []) rfl rfl, ⟨congrArg AV.str ((kw_out (by assumption)).symm), rfl⟩⟩
  · skip
    have h2' : 0 ≤ k ∧ k ≤ 16 := (kz_f h2)
    clear h2
    refine AWp.skip ?_
    refine zg ?_
    refine zM (.list false 9 (kwL.map AV.str)) ?_
    refine zM (zI k) ?_
    refine zr (Reader.elemAddr (m := k.toNat) rfl Tryd.underlying23 sizeOf_9 rfl rfl (by omega) (e := .str (kwL.getD k.toNat [])) (strs_at (by first | omega | (show _ < 17; omega)))) ?_
    refine zr (zlE (.str (kwL.getD k.toNat [])) Tryd.underlying9 sizeOf_9) ?_
    refine zM (.str (kwL.getD k.toNat [])) ?_
    refine zN ?_
    refine AWp.ret ?_
    exact ⟨.inl rfl, _, ResOf.one 2 (.str (kwL.getD k.toNat [])) rfl rfl, ⟨congrArg AV.str (rfl), rfl⟩⟩

set_option maxRecDepth 20000 in
theorem rnumS_any (t : List UInt8) (hl : t.length ≤ 4294967280) (M : Nat → Option (List AV)) : ACall Tryd.prog 58 [.str t] M (fun r M' => r = zI (numS t) ∧ M = M') := by
  refine ACall.of Tryd.func58 rfl (n := 51) rfl rfl rfl ?_
  refine zg ?_
  refine zM (zI 0) ?_
  refine zN ?_
  refine AWp.seq ?_
  refine zj 22 [(0, .str t), (2, zI 0)] [] M (bif ((t.length : Int) == 0) then true else (bif (decide ((t.length : Int) > 19)) then true else (bif (((t.getD 0 0).toNat : Int) == 48) then (decide ((t.length : Int) > 1)) else false))) ?_ ?_
  · skip
    refine zM (.str t) ?_
    refine zr (zS t t.length Tryd.underlying9) ?_
    refine zr (zi ((t.length : Int) == 0)) ?_
    refine zM (zB ((t.length : Int) == 0)) ?_
    refine AOps.splitJ (t := 8) (b := (t.length : Int) == 0) (x := true) (y := (bif (decide ((t.length : Int) > 19)) then true else (bif (((t.getD 0 0).toNat : Int) == 48) then (decide ((t.length : Int) > 1)) else false))) rfl (fun h1 => ?_) (fun h1 => ?_)
    · skip
      have h1' : t.length = 0 := (by have hh := eq_of_beq h1; omega)
      clear h1
      refine zs ?_
      refine zs ?_
      refine zs ?_
      refine zr (zp true (zB true)) ?_
      refine zM (zB true) ?_
      refine zs ?_
      refine zs ?_
      refine zs ?_
      refine zs ?_
      refine zs ?_
      refine zs ?_
      refine zs ?_
      refine zs ?_
      refine zr (zp true (zB true)) ?_
      exact AOps.nil rfl
    · skip
      have h1' : ¬ (t.length = 0) := (by have hh := beq_eq_false_iff_ne.1 h1; omega)
      clear h1
      refine zM (.str t) ?_
      refine zr (zS t t.length Tryd.underlying9) ?_
      refine zr (zi (decide ((t.length : Int) > 19))) ?_
      refine zr (zp false (zB (decide ((t.length : Int) > 19)))) ?_
      refine zM (zB (decide ((t.length : Int) > 19))) ?_
      refine AOps.splitJ (t := 13) (b := decide ((t.length : Int) > 19)) (x := true) (y := (bif (((t.getD 0 0).toNat : Int) == 48) then (decide ((t.length : Int) > 1)) else false)) rfl (fun h2 => ?_) (fun h2 => ?_)
      · skip
        have h2' : t.length > 19 := (by have hh := of_decide_eq_true h2; omega)
        clear h2
        refine zs ?_
        refine zs ?_
        refine zs ?_
        refine zs ?_
        refine zs ?_
        refine zs ?_
        refine zs ?_
        refine zs ?_
        refine zr (zp true (zB true)) ?_
        exact AOps.nil rfl
      · skip
        have h2' : ¬ (t.length > 19) := (by have hh := of_decide_eq_false h2; omega)
        clear h2
        refine zM (.str t) ?_
        refine zr (Reader.byte (m := 0) (c := t.getD 0 0) rfl Tryd.underlying9 rfl rfl rfl (getD_some (by first | omega | (simp; omega)))) ?_
        refine zr (zi (((t.getD 0 0).toNat : Int) == 48)) ?_
        refine zM (zB (((t.getD 0 0).toNat : Int) == 48)) ?_
        refine AOps.splitJ (t := 17) (b := ((t.getD 0 0).toNat : Int) == 48) (x := (decide ((t.length : Int) > 1))) (y := false) rfl (fun h3 => ?_) (fun h3 => ?_)
        · skip
          have h3' : ((t.getD 0 0).toNat) = 48 := (by have hh := eq_of_beq h3; omega)
          clear h3
          refine zM (.str t) ?_
          refine zr (zS t t.length Tryd.underlying9) ?_
          refine zr (zi (decide ((t.length : Int) > 1))) ?_
          refine zr (zp true (zB (decide ((t.length : Int) > 1)))) ?_
          refine zr (zp false (zB (decide ((t.length : Int) > 1)))) ?_
          exact AOps.nil rfl
        · skip
          have h3' : ¬ (((t.getD 0 0).toNat) = 48) := (by have hh := beq_eq_false_iff_ne.1 h3; omega)
          clear h3
          refine zs ?_
          refine zs ?_
          refine zs ?_
          refine zr (zp false (zB false)) ?_
          refine zr (zp false (zB false)) ?_
          exact AOps.nil rfl
  refine zC (b := bif ((t.length : Int) == 0) then true else (bif (decide ((t.length : Int) > 19)) then true else (bif (((t.getD 0 0).toNat : Int) == 48) then (decide ((t.length : Int) > 1)) else false))) rfl (fun h4 => ?_) (fun h4 => ?_)
  · skip
    have h4' : NB t := (nbs_t h4)
    clear h4
    refine zg ?_
    refine zM (zI (-1)) ?_
    refine zN ?_
    refine AWp.ret ?_
    exact ⟨.inl rfl, _, ResOf.one 2 (zI (-1)) rfl rfl, ⟨congrArg (fun x : Int => AV.lit (.int .i64 x)) (by first | exact (numS_no (by assumption)).symm | exact (numS_bad hb (by omega) (by assumption)).symm | exact (numS_big hb (by omega) hall (by omega)).symm), rfl⟩⟩
  · skip
    have h4' : ¬ NB t := (nbs_f h4)
    clear h4
    refine AWp.skip ?_
    refine zg ?_
    refine zM (.lit (.int .u64 0)) ?_
    refine zN ?_
    refine AWp.seq ?_
    refine zg ?_
    refine zM (zI 0) ?_
    refine zN ?_
    refine AWp.block ?_
    refine AWp.loopE [0, 3, 4] [] (fun m s => ∃ (i : Nat), m = t.length - i ∧ s = ⟨[(0, .str t), (3, .lit (.int .u64 ((dU (t.take i) : Nat) : Int))), (4, zI (i : Int))], [], M⟩ ∧ (i ≤ t.length) ∧ (¬ NB t) ∧ (∀ j, j < i → isD (t.getD j 0) = true)) ?_ ?_
    · exact ⟨_, 0, rfl, rfl, Nat.zero_le _, by assumption, fun j hj => by omega⟩
    · rintro _ _ ⟨i, rfl, rfl, hi, hb, hall⟩
      have h4 := nbs_len hb
      have hdl := dU_le (i := i) (by omega) hall
      refine AWp.seq ?_
      refine zg ?_
      refine zM (zI (i : Int)) ?_
      refine zM (.str t) ?_
      refine zr (zS t t.length Tryd.underlying9) ?_
      refine zr (zi (decide ((i : Int) < (t.length : Int)))) ?_
      refine zN ?_
      refine zC (b := decide ((i : Int) < (t.length : Int))) rfl (fun h5 => ?_) (fun h5 => ?_)
      · skip
        have h5' : i < t.length := (by have hh := of_decide_eq_true h5; omega)
        clear h5
        refine AWp.skip ?_
        refine AWp.seq ?_
        refine AWp.block ?_
        refine AWp.seq ?_
        refine zj 38 [(0, .str t), (3, .lit (.int .u64 ((dU (t.take i) : Nat) : Int))), (4, zI (i : Int)), (26, zB (decide ((i : Int) < (t.length : Int))))] [] M (bif (decide (((t.getD i 0).toNat : Int) < 48)) then true else (decide (((t.getD i 0).toNat : Int) > 57))) ?_ ?_
        · skip
          refine zM (.str t) ?_
          refine zM (zI (i : Int)) ?_
          refine zr (Reader.byte (m := i) (c := t.getD i 0) rfl Tryd.underlying9 rfl rfl rfl (getD_some (by first | omega | (simp; omega)))) ?_
          refine zr (zi (decide (((t.getD i 0).toNat : Int) < 48))) ?_
          refine zM (zB (decide (((t.getD i 0).toNat : Int) < 48))) ?_
          refine AOps.splitJ (t := 33) (b := decide (((t.getD i 0).toNat : Int) < 48)) (x := true) (y := (decide (((t.getD i 0).toNat : Int) > 57))) rfl (fun h6 => ?_) (fun h6 => ?_)
          · skip
            have h6' : ((t.getD i 0).toNat) < 48 := (by have hh := of_decide_eq_true h6; omega)
            clear h6
            refine zs ?_
            refine zs ?_
            refine zs ?_
            refine zs ?_
            refine zr (zp true (zB true)) ?_
            exact AOps.nil rfl
          · skip
            have h6' : ¬ (((t.getD i 0).toNat) < 48) := (by have hh := of_decide_eq_false h6; omega)
            clear h6
            refine zM (.str t) ?_
            refine zM (zI (i : Int)) ?_
            refine zr (Reader.byte (m := i) (c := t.getD i 0) rfl Tryd.underlying9 rfl rfl rfl (getD_some (by first | omega | (simp; omega)))) ?_
            refine zr (zi (decide (((t.getD i 0).toNat : Int) > 57))) ?_
            refine zr (zp false (zB (decide (((t.getD i 0).toNat : Int) > 57)))) ?_
            exact AOps.nil rfl
        refine zC (b := bif (decide (((t.getD i 0).toNat : Int) < 48)) then true else (decide (((t.getD i 0).toNat : Int) > 57))) rfl (fun h7 => ?_) (fun h7 => ?_)
        · skip
          have h7' : isD (t.getD i 0) = false := (nds_t h7)
          clear h7
          refine zg ?_
          refine zM (zI (-1)) ?_
          refine zN ?_
          refine AWp.ret ?_
          exact ⟨.inl rfl, _, ResOf.one 2 (zI (-1)) rfl rfl, ⟨congrArg (fun x : Int => AV.lit (.int .i64 x)) (by first | exact (numS_no (by assumption)).symm | exact (numS_bad hb (by omega) (by assumption)).symm | exact (numS_big hb (by omega) hall (by omega)).symm), rfl⟩⟩
        · skip
          have h7' : isD (t.getD i 0) = true ∧ 48 ≤ (t.getD i 0).toNat ∧ (t.getD i 0).toNat ≤ 57 := (nds_f h7)
          clear h7
          refine AWp.skip ?_
          refine AWp.region ?_
          refine zM (.lit (.int .u64 ((dU (t.take i) : Nat) : Int))) ?_
          refine zr (zu (10 * ((dU (t.take i) : Nat) : Int)) ((10 * (dU (t.take i)) : Nat) : Int) (by first | exact IntWalk.u64_in _ (by omega) | exact IntWalk.u64_in _ (by constructor <;> omega) | (simp only [];omega))) ?_
          refine zM (.str t) ?_
          refine zM (zI (i : Int)) ?_
          refine zr (Reader.byte (m := i) (c := t.getD i 0) rfl Tryd.underlying9 rfl rfl rfl (getD_some (by first | omega | (simp; omega)))) ?_
          refine zr (Reader.conv rfl Tryd.underlying5 Tryd.underlying121 (by simp) rfl (c := ((t.getD i 0).toNat : Int)) (by first | exact IntWalk.u64_in _ (by omega) | exact IntWalk.u64_in _ (by constructor <;> omega) | (simp only [];omega))) ?_
          refine zr (zu (((10 * (dU (t.take i)) : Nat) : Int) + ((t.getD i 0).toNat : Int)) (((10 * (dU (t.take i))) + ((t.getD i 0).toNat) : Nat) : Int) (by first | exact IntWalk.u64_in _ (by omega) | exact IntWalk.u64_in _ (by constructor <;> omega) | (simp only [];omega))) ?_
          refine zr (zu ((((10 * (dU (t.take i))) + ((t.getD i 0).toNat) : Nat) : Int) - 48) ((((10 * (dU (t.take i))) + ((t.getD i 0).toNat)) - 48 : Nat) : Int) (by rw [IntWalk.u64_in _ (by omega)]; omega)) ?_
          refine zM (.lit (.int .u64 ((((10 * (dU (t.take i))) + ((t.getD i 0).toNat)) - 48 : Nat) : Int))) ?_
          refine zN ?_
          refine AWp.region ?_
          refine zM (zI (i : Int)) ?_
          refine zr (zw ((i : Int) + 1) ((i + 1 : Nat) : Int)) ?_
          refine zM (zI ((i + 1 : Nat) : Int)) ?_
          refine zN ?_
          exact ⟨_, by omega, i + 1, rfl, (by rw [← dU_step (by omega) (by assumption)]; rfl), by omega, hb, nx_d hall (by have hx := (by assumption : isD (t.getD i 0) = true ∧ 48 ≤ (t.getD i 0).toNat ∧ (t.getD i 0).toNat ≤ 57); exact hx.1)⟩
      · skip
        have h5' : ¬ (i < t.length) := (by have hh := of_decide_eq_false h5; omega)
        clear h5
        refine AWp.exit ?_
        refine AWp.seq ?_
        refine zg ?_
        refine zM (.lit (.int .u64 ((dU (t.take i) : Nat) : Int))) ?_
        refine zr (zi (decide (((dU (t.take i) : Nat) : Int) > 9223372036854775807))) ?_
        refine zN ?_
        refine zC (b := decide (((dU (t.take i) : Nat) : Int) > 9223372036854775807)) rfl (fun h8 => ?_) (fun h8 => ?_)
        · skip
          have h8' : (dU (t.take i)) > 9223372036854775807 := (by have hh := of_decide_eq_true h8; omega)
          clear h8
          refine zg ?_
          refine zM (zI (-1)) ?_
          refine zN ?_
          refine AWp.ret ?_
          exact ⟨.inl rfl, _, ResOf.one 2 (zI (-1)) rfl rfl, ⟨congrArg (fun x : Int => AV.lit (.int .i64 x)) (by first | exact (numS_no (by assumption)).symm | exact (numS_bad hb (by omega) (by assumption)).symm | exact (numS_big hb (by omega) hall (by omega)).symm), rfl⟩⟩
        · skip
          have h8' : ¬ ((dU (t.take i)) > 9223372036854775807) := (by have hh := of_decide_eq_false h8; omega)
          clear h8
          refine AWp.skip ?_
          refine zg ?_
          refine zM (.lit (.int .u64 ((dU (t.take i) : Nat) : Int))) ?_
          refine zr (Reader.conv rfl Tryd.underlying121 Tryd.underlying3 (by simp) rfl (c := ((dU (t.take i) : Nat) : Int)) (by first | exact IntWalk.i64_in _ (by omega) | exact IntWalk.i64_in _ (by constructor <;> omega) | (simp only [];omega))) ?_
          refine zM (zI ((dU (t.take i) : Nat) : Int)) ?_
          refine zN ?_
          refine AWp.ret ?_
          exact ⟨.inl rfl, _, ResOf.one 2 (zI ((dU (t.take i) : Nat) : Int)) rfl rfl, ⟨congrArg (fun x : Int => AV.lit (.int .i64 x)) ((numS_ok hb (by omega) hall (by omega)).symm), rfl⟩⟩

set_option maxRecDepth 20000 in
theorem rsig_any (t : List UInt8) (M : Nat → Option (List AV)) : ACall Tryd.prog 59 [.str t] M (fun r M' => r = zI (sigOf t) ∧ M = M') := by
  refine ACall.of Tryd.func59 rfl (n := 13) rfl rfl rfl ?_
  refine zg ?_
  refine zM (zI 0) ?_
  refine zN ?_
  refine AWp.seq ?_
  refine zg ?_
  refine zM (zI 0) ?_
  refine zN ?_
  refine AWp.block ?_
  refine AWp.loopE [0, 3] [] (fun m s => ∃ (i : Nat), m = 3 - i ∧ s = ⟨[(0, .str t), (3, zI (i : Int))], [], M⟩ ∧ (i ≤ 3) ∧ (∀ j, j < i → wordOf (j : Int) ≠ t)) ?_ ?_
  · exact ⟨_, 0, rfl, rfl, by omega, fun j hj => by omega⟩
  · rintro _ _ ⟨i, rfl, rfl, hi, hno⟩
    refine AWp.seq ?_
    refine zg ?_
    refine zM (zI (i : Int)) ?_
    refine zr (zi (decide ((i : Int) < 3))) ?_
    refine zN ?_
    refine zC (b := decide ((i : Int) < 3)) rfl (fun h1 => ?_) (fun h1 => ?_)
    · skip
      have h1' : i < 3 := (by have hh := of_decide_eq_true h1; omega)
      clear h1
      refine AWp.skip ?_
      refine AWp.seq ?_
      refine AWp.block ?_
      refine zg ?_
      refine zM (zI (i : Int)) ?_
      refine zc [zI (i : Int)] Tryd.call41 (lrw06_any (i : Int) M) ?_
      rintro _ _ ⟨rfl, rfl⟩
      refine zM (.str t) ?_
      refine zr (zt ((wordOf (i : Int)) == t)) ?_
      refine zN ?_
      refine zC (b := (wordOf (i : Int)) == t) rfl (fun h2 => ?_) (fun h2 => ?_)
      · skip
        have h2' : (wordOf (i : Int)) = t := (eq_of_beq h2)
        clear h2
        refine zg ?_
        refine zM (zI (i : Int)) ?_
        refine zM (zI (i : Int)) ?_
        refine zN ?_
        refine AWp.ret ?_
        exact ⟨.inl rfl, _, ResOf.one 2 (zI (i : Int)) rfl rfl, ⟨congrArg (fun x : Int => AV.lit (.int .i64 x)) ((rsig_at (by omega) (by assumption)).symm), rfl⟩⟩
      · skip
        have h2' : ¬ ((wordOf (i : Int)) = t) := (beq_eq_false_iff_ne.1 h2)
        clear h2
        refine AWp.skip ?_
        refine AWp.region ?_
        refine zM (zI (i : Int)) ?_
        refine zr (zw ((i : Int) + 1) ((i + 1 : Nat) : Int)) ?_
        refine zM (zI ((i + 1 : Nat) : Int)) ?_
        refine zN ?_
        exact ⟨_, by omega, i + 1, rfl, rfl, by omega, nx_w hno (by assumption)⟩
    · skip
      have h1' : ¬ (i < 3) := (by have hh := of_decide_eq_false h1; omega)
      clear h1
      refine AWp.exit ?_
      refine zg ?_
      refine zM (zI (-1)) ?_
      refine zN ?_
      refine AWp.ret ?_
      exact ⟨.inl rfl, _, ResOf.one 2 (zI (-1)) rfl rfl, ⟨congrArg (fun x : Int => AV.lit (.int .i64 x)) ((rsig_no (by omega) hno).symm), rfl⟩⟩

set_option maxRecDepth 20000 in
theorem rsplit_any (t : List UInt8) (hl : t.length ≤ 4294967280) (M : Nat → Option (List AV)) : ACall Tryd.prog 57 [.str t] M (fun r M' => r = .list true 9 ((splitC 32 t).map AV.str) ∧ M = M') := by
  refine ACall.of Tryd.func57 rfl (n := 31) rfl rfl rfl ?_
  refine zg ?_
  refine AOps.nilList 9 trivial rfl (by decide) (.inl rfl) ?_
  refine zN ?_
  refine zg ?_
  refine AOps.nilList 9 trivial rfl (by decide) (.inl rfl) ?_
  refine zN ?_
  refine zg ?_
  refine zM (zI 0) ?_
  refine zN ?_
  refine AWp.seq ?_
  refine zg ?_
  refine zM (zI 0) ?_
  refine zN ?_
  refine AWp.block ?_
  refine AWp.loopE [0, 3, 4, 5] [] (fun m s => ∃ (i : Nat) (f : Nat) (out : List (List UInt8)), m = t.length - i ∧ s = ⟨[(0, .str t), (3, .list true 9 (out.map AV.str)), (4, zI (f : Int)), (5, zI (i : Int))], [], M⟩ ∧ (i ≤ t.length) ∧ (f ≤ i) ∧ (out.length ≤ i) ∧ (out ++ ahead ((t.take i).drop f) (splitC 32 (t.drop i)) = splitC 32 t)) ?_ ?_
  · exact ⟨_, 0, 0, [], rfl, rfl, Nat.zero_le _, Nat.le_refl _, Nat.le_refl _, ahead_nil (splitC_nonempty 32 t)⟩
  · rintro _ _ ⟨i, f, out, rfl, rfl, hi, hf, ho, hinv⟩
    refine AWp.seq ?_
    refine zg ?_
    refine zM (zI (i : Int)) ?_
    refine zM (.str t) ?_
    refine zr (zS t t.length Tryd.underlying9) ?_
    refine zr (zi (decide ((i : Int) < (t.length : Int)))) ?_
    refine zN ?_
    refine zC (b := decide ((i : Int) < (t.length : Int))) rfl (fun h1 => ?_) (fun h1 => ?_)
    · skip
      have h1' : i < t.length := (by have hh := of_decide_eq_true h1; omega)
      clear h1
      refine AWp.skip ?_
      refine AWp.seq ?_
      refine AWp.block ?_
      refine zg ?_
      refine zM (.str t) ?_
      refine zM (zI (i : Int)) ?_
      refine zr (Reader.byte (m := i) (c := t.getD i 0) rfl Tryd.underlying9 rfl rfl rfl (getD_some (by first | omega | (simp; omega)))) ?_
      refine zr (zi (((t.getD i 0).toNat : Int) == 32)) ?_
      refine zN ?_
      refine zC (b := ((t.getD i 0).toNat : Int) == 32) rfl (fun h2 => ?_) (fun h2 => ?_)
      · skip
        have h2' : ((t.getD i 0).toNat) = 32 := (by have hh := eq_of_beq h2; omega)
        clear h2
        refine zg ?_
        refine zT (v := .list true 9 (out.map AV.str)) rfl ?_
        refine zM (.str t) ?_
        refine zM (zI (f : Int)) ?_
        refine zM (zI (i : Int)) ?_
        refine zr (Reader.sub (i := f) (j := i) rfl Tryd.underlying9 rfl ⟨_, _, rfl, rfl⟩ ⟨_, _, rfl, rfl⟩ (by first | omega | (simp; omega)) (by first | omega | (simp; omega)) (m := (t.take i).drop f) rfl) ?_
        refine zbS [] [.str ((t.take i).drop f)] Tryd.underlying23 Tryd.i9 ?_
        refine zap (m1 := out.length) (m2 := 1) 16 (out.map AV.str) [.str ((t.take i).drop f)] ((out ++ [(t.take i).drop f]).map AV.str) Tryd.underlying23 Tryd.underlying23 Tryd.i9 (by simp) rfl (by simp) ?_
        refine zT (v := .list true 9 ((out ++ [(t.take i).drop f]).map AV.str)) rfl ?_
        refine zN ?_
        refine AWp.region ?_
        refine zM (zI (i : Int)) ?_
        refine zr (zw ((i : Int) + 1) ((i + 1 : Nat) : Int)) ?_
        refine zM (zI ((i + 1 : Nat) : Int)) ?_
        refine zN ?_
        refine AWp.region ?_
        refine zM (zI (i : Int)) ?_
        refine zr (zw ((i : Int) + 1) ((i + 1 : Nat) : Int)) ?_
        refine zM (zI ((i + 1 : Nat) : Int)) ?_
        refine zN ?_
        first | exact ⟨_, by omega, i + 1, i + 1, _, rfl, rfl, by omega, Nat.le_refl _, by rw [List.length_append]; simp; omega, cut_hit (by omega) (UInt8.toNat_inj.1 (by assumption)) hinv hf⟩ | exact ⟨_, by omega, i + 1, f, out, rfl, rfl, by omega, by omega, by omega, cut_miss (by omega) (fun e => (by assumption : ¬ (t.getD i 0).toNat = 32) (by rw [e]; rfl)) hinv hf⟩
      · skip
        have h2' : ¬ (((t.getD i 0).toNat) = 32) := (by have hh := beq_eq_false_iff_ne.1 h2; omega)
        clear h2
        refine AWp.skip ?_
        refine AWp.region ?_
        refine zM (zI (i : Int)) ?_
        refine zr (zw ((i : Int) + 1) ((i + 1 : Nat) : Int)) ?_
        refine zM (zI ((i + 1 : Nat) : Int)) ?_
        refine zN ?_
        first | exact ⟨_, by omega, i + 1, i + 1, _, rfl, rfl, by omega, Nat.le_refl _, by rw [List.length_append]; simp; omega, cut_hit (by omega) (UInt8.toNat_inj.1 (by assumption)) hinv hf⟩ | exact ⟨_, by omega, i + 1, f, out, rfl, rfl, by omega, by omega, by omega, cut_miss (by omega) (fun e => (by assumption : ¬ (t.getD i 0).toNat = 32) (by rw [e]; rfl)) hinv hf⟩
    · skip
      have h1' : ¬ (i < t.length) := (by have hh := of_decide_eq_false h1; omega)
      clear h1
      refine AWp.exit ?_
      refine zg ?_
      refine zT (v := .list true 9 (out.map AV.str)) rfl ?_
      refine zM (.str t) ?_
      refine zM (zI (f : Int)) ?_
      refine zr (Reader.sub (i := f) (j := t.length) rfl Tryd.underlying9 rfl ⟨_, _, rfl, rfl⟩ rfl (by first | omega | (simp; omega)) (by first | omega | (simp; omega)) (m := t.drop f) (by rw [List.take_length])) ?_
      refine zbS [] [.str (t.drop f)] Tryd.underlying23 Tryd.i9 ?_
      refine zap (m1 := out.length) (m2 := 1) 16 (out.map AV.str) [.str (t.drop f)] ((out ++ [t.drop f]).map AV.str) Tryd.underlying23 Tryd.underlying23 Tryd.i9 (by simp) rfl (by simp) ?_
      refine zT (v := .list true 9 ((out ++ [t.drop f]).map AV.str)) rfl ?_
      refine zN ?_
      refine AWp.ret ?_
      exact ⟨.inl rfl, _, ResOf.one 2 (.list true 9 ((out ++ [t.drop f]).map AV.str)) rfl rfl, ⟨congrArg (fun l : List (List UInt8) => AV.list true 9 (l.map AV.str)) (cut_end (by omega) hinv), rfl⟩⟩

end Go.Proofs.YtlpihekflkjkfaaDoor
