/- CfL. -/
import Derived.Test.YtmmfkpbkacfegaaGreatDoorM9
namespace Go.Proofs.YtmmfkpbkacfegaaGreatDoor
open Go.RowKit

def lnT (ws : List (List UInt8)) : List UInt8 := wT ws ++ [10]
theorem jT_one (ws : List (List UInt8)) : jT [ws] = lnT ws := by simp [jT, lnT]
theorem jT_snoc (X : List (List (List UInt8))) (ws : List (List UInt8)) : jT X ++ lnT ws = jT (X ++ [ws]) := by rw [jT_app, jT_one]
section
variable {X : List (List (List UInt8))} {i q : Nat}
theorem tk_snoc (h : i < X.length) : X.take (i + 1) = X.take i ++ [X.getD i []] := by
  rw [List.take_succ_eq_append_getElem h, List.getD_eq_getElem?_getD, List.getElem?_eq_getElem h]; rfl
theorem er_same (h : i < X.length) (hq : i = q) : (X.take (i + 1)).eraseIdx q = (X.take i).eraseIdx q := by
  subst hq
  have hl : (X.take i).length = i := by rw [List.length_take]; omega
  rw [tk_snoc h, List.eraseIdx_append_of_length_le (by omega), hl, Nat.sub_self, List.eraseIdx_of_length_le (l := X.take i) (by omega)]
  simp
theorem er_more (h : i < X.length) (hq : i ≠ q) : jT ((X.take i).eraseIdx q) ++ lnT (X.getD i []) = jT ((X.take (i + 1)).eraseIdx q) := by
  have hl : (X.take i).length = i := by rw [List.length_take]; omega
  rw [jT_snoc, tk_snoc h]
  by_cases hlt : q < i
  · rw [List.eraseIdx_append_of_lt_length (by omega)]
  · rw [List.eraseIdx_append_of_length_le (by omega), hl, List.eraseIdx_of_length_le (l := X.take i) (by omega), List.eraseIdx_of_length_le (by simp; omega)]
theorem er_len (i q : Nat) : (jT ((X.take i).eraseIdx q)).length ≤ (jT X).length := by
  have hsub : ∀ (A B : List (List (List UInt8))), A.Sublist B → (jT A).length ≤ (jT B).length := by
    intro A B h
    induction h with
    | slnil => exact Nat.le_refl _
    | cons a _ ih => simp only [jT_cons, List.length_append]; omega
    | cons_cons a _ ih => simp only [jT_cons, List.length_append]; omega
  exact hsub _ _ ((List.eraseIdx_sublist ..).trans (List.take_sublist ..))
theorem ln_le (h : i < X.length) : (lnT (X.getD i [])).length ≤ (jT X).length := by
  have := jT_at h
  have e : (jT X).length = (jT (X.take i)).length + ((wT (X.getD i [])).length + ((jT (X.drop (i + 1))).length + 1)) := by
    rw [this]; simp only [List.length_append, List.length_cons]
  unfold lnT
  simp only [List.length_append, List.length_cons, List.length_nil]
  omega
theorem ln_app (h : i < X.length) : ((X.take i).map lnT).map AV.str ++ [AV.str (lnT (X.getD i []))] = ((X.take (i + 1)).map lnT).map AV.str := by
  rw [tk_snoc h]; simp
theorem ln_len (h : i ≤ X.length) : (((X.take i).map lnT).map AV.str).length = i := by
  rw [List.length_map, List.length_map, List.length_take]; omega
theorem ln_len2 : ((X.map lnT).map AV.str).length = X.length := by
  rw [List.length_map, List.length_map]
theorem ln_at (h : i < X.length) : ((X.map lnT).map AV.str)[i]? = some (AV.str (lnT (X.getD i []))) := by
  rw [List.getElem?_map, List.getElem?_map, List.getD_eq_getElem?_getD, List.getElem?_eq_getElem h]; rfl
theorem pos_end {j F : Nat} (h : Posn X j F i) (hi : (jT X).length ≤ i) : j = X.length := by
  obtain ⟨h1, h2, h3, h4, h5⟩ := h
  rcases Nat.lt_or_ge j X.length with hj | hj
  · exfalso
    have h6 := h4 hj
    have h7 := congrArg List.length (jT_at hj)
    simp only [List.length_append, List.length_cons] at h7
    omega
  · omega
end
theorem hds_mem : ∀ {X : List (List (List UInt8))} {ws : List (List UInt8)}, ws ∈ X → ¬ IsThr ws → ws.getD 0 [] ∈ hds X
  | v :: r, ws, h, hn => by
    rw [hds]
    rcases List.mem_cons.1 h with rfl | h
    · rw [if_neg hn]; exact List.mem_cons_self ..
    · have := hds_mem h hn
      split
      · exact this
      · exact List.mem_cons_of_mem _ this
section
variable {c : Cfg} {q : Nat}
/-- Is a line a threshold's? -/
def ThrAt (c : Cfg) (q : Nat) : Prop := 2 ≤ q ∧ q < 2 + c.thr.length
instance (c : Cfg) (q : Nat) : Decidable (ThrAt c q) := by unfold ThrAt; infer_instance
theorem line_thr (h : ThrAt c q) : (linesC c).getD q [] = [trL, printT (c.thr.getD (q - 2) t0)] := by
  obtain ⟨h1, h2⟩ := h
  have hl : (hdL c ++ thL c).length = 2 + c.thr.length := by rw [List.length_append, thL_len]; rfl
  unfold linesC
  rw [List.getD_eq_getElem?_getD, List.getElem?_append_left (by omega), List.getElem?_append_right (by show 2 ≤ q; omega)]
  show ((thL c)[q - 2]?).getD [] = _
  unfold thL
  rw [List.getElem?_map, List.getElem?_eq_getElem (by omega), List.getD_eq_getElem?_getD, List.getElem?_eq_getElem (by omega)]; rfl
theorem line_num (hq : q < (linesC c).length) (h : ¬ ThrAt c q) : (linesC c).getD q [] ∈ hdL c ++ tlL c := by
  rw [lines_len] at hq
  have hl : (hdL c ++ thL c).length = 2 + c.thr.length := by rw [List.length_append, thL_len]; rfl
  unfold linesC
  rw [List.getD_eq_getElem?_getD]
  by_cases h2 : q < 2
  · rw [List.getElem?_append_left (by omega), List.getElem?_append_left (by show q < 2; omega), List.getElem?_eq_getElem (by show q < 2; omega)]
    exact List.mem_append_left _ (List.getElem_mem _)
  · have h3 : 2 + c.thr.length ≤ q := by
      rcases Nat.lt_or_ge q (2 + c.thr.length) with h4 | h4
      · exact absurd ⟨by omega, h4⟩ h
      · exact h4
    rw [List.getElem?_append_right (by omega), hl, List.getElem?_eq_getElem (by show q - (2 + c.thr.length) < 4; omega)]
    exact List.mem_append_right _ (List.getElem_mem _)
theorem num_not {ws : List (List UInt8)} (h : ws ∈ hdL c ++ tlL c) : ¬ IsThr ws ∧ (lnT ws).take 1 ≠ [116] := by
  simp only [hdL, tlL, List.cons_append, List.nil_append, List.mem_cons, List.mem_nil_iff, or_false] at h
  rcases h with rfl | rfl | rfl | rfl | rfl | rfl
  all_goals refine ⟨not_thr (by decide) _, ?_⟩
  · show [(99 : UInt8)] ≠ [116]; decide
  · show [(97 : UInt8)] ≠ [116]; decide
  · show [(112 : UInt8)] ≠ [116]; decide
  · show [(114 : UInt8)] ≠ [116]; decide
  · show [(109 : UInt8)] ≠ [116]; decide
  · show [(100 : UInt8)] ≠ [116]; decide
theorem thr_first (h : ThrAt c q) : (lnT ((linesC c).getD q [])).take 1 = [116] := by rw [line_thr h]; rfl
theorem num_first (hq : q < (linesC c).length) (h : ¬ ThrAt c q) : (lnT ((linesC c).getD q [])).take 1 ≠ [116] := (num_not (line_num hq h)).2
theorem right_with (h : RightC c) {l : List Thr} (hl : l.length ≤ 12) (ha : ∀ t ∈ l, RightT t) : RightC { c with thr := l } := by
  obtain ⟨p0, p1, p2, p3, p4, p5, p6, p7, _, _, p8⟩ := h
  exact ⟨p0, p1, p2, p3, p4, p5, p6, p7, hl, ha, p8⟩
theorem in_with (h : InR c) {l : List Thr} (ha : ∀ t ∈ l, t.amt ≤ 9223372036854775807) : InR { c with thr := l } := ⟨h.c0, h.c1, h.c2, h.a0, h.a1, h.a2, h.per, h.ret, h.age, h.ded, ha⟩
theorem er_map {α β : Type} (f : α → β) : ∀ (l : List α) (k : Nat), (l.map f).eraseIdx k = (l.eraseIdx k).map f
  | [], _ => rfl
  | _ :: _, 0 => rfl
  | a :: r, k + 1 => by simp [List.eraseIdx, er_map f r k]
theorem less_thr (h : ThrAt c q) : (linesC c).eraseIdx q = linesC { c with thr := c.thr.eraseIdx (q - 2) } := by
  obtain ⟨h1, h2⟩ := h
  have hl : (hdL c ++ thL c).length = 2 + c.thr.length := by rw [List.length_append, thL_len]; rfl
  unfold linesC
  rw [List.eraseIdx_append_of_lt_length (by omega), List.eraseIdx_append_of_length_le (by show 2 ≤ q; omega)]
  show hdL c ++ (thL c).eraseIdx (q - 2) ++ tlL c = hdL c ++ thL { c with thr := c.thr.eraseIdx (q - 2) } ++ tlL c
  congr 2
  unfold thL
  exact er_map _ _ _
theorem less_t (hR : RightC c) (hi : InR c) (h : ThrAt c q) : cfE (jT ((linesC c).eraseIdx q)) = 0 := by
  have hs := List.eraseIdx_sublist c.thr (q - 2)
  have hp := prC hR
  rw [less_thr h]
  exact (back_C (c := { c with thr := c.thr.eraseIdx (q - 2) }) (right_with hR (by have := hs.length_le; have := hp.len; omega) (fun t ht => hp.thr t (hs.subset ht))) (in_with hi (fun t ht => hi.thr t (hs.subset ht)))).1
theorem more_t (hR : RightC c) (hi : InR c) (h12 : c.thr.length ≠ 12) (h : ThrAt c q) : cfE (jT (linesC c ++ [(linesC c).getD q []])) = 0 := by
  have hp := prC hR
  have hl := text_len hp hi
  have hlen := hp.len
  have hm : c.thr.getD (q - 2) t0 ∈ c.thr := thr_mem2 (by have := h.2; have := h.1; omega)
  have ht := hp.thr _ hm
  have ha := hi.thr _ hm
  have h3 := printT_le ht ha
  obtain ⟨k1, k2, k3⟩ := thr_line ht ha
  have hf : fC cf0 (linesC c ++ [[trL, printT (c.thr.getD (q - 2) t0)]]) = { c with thr := c.thr ++ [c.thr.getD (q - 2) t0] } := by
    rw [fC_app, fC_lines hp hi]
    exact fC_thr [c.thr.getD (q - 2) t0] c (fun t ht' => by rw [List.mem_singleton.1 ht']; exact ⟨ht, ha⟩)
  have hh : hds (linesC c ++ [[trL, printT (c.thr.getD (q - 2) t0)]]) = cwL := by
    rw [hds_app, hds_lines, hds, if_pos k1]; rfl
  have htl : (jT (linesC c)).length ≤ 1400 := hl
  rw [line_thr h]
  refine (cf_good ?_ ?_ ?_ ?_ ?_ ?_).1
  · refine join_plain fun ws hws => ?_
    rcases List.mem_append.1 hws with hws | hws
    · exact lines_plain c ws hws
    · rw [List.mem_singleton.1 hws, ← line_thr h]
      refine lines_plain c _ ?_
      rw [List.getD_eq_getElem?_getD, List.getElem?_eq_getElem (by rw [lines_len]; have := h.2; omega)]; exact List.getElem_mem _
  · rw [← jT_snoc, List.length_append]
    have e : lnT [trL, printT (c.thr.getD (q - 2) t0)] = trL ++ (32 :: printT (c.thr.getD (q - 2) t0)) ++ [10] := by simp [lnT, wT]
    have e9 : trL.length = 9 := rfl
    rw [e, List.length_append, List.length_append, List.length_cons, List.length_cons, List.length_nil]
    omega
  · intro ws hws
    rcases List.mem_append.1 hws with hws | hws
    · exact line_ok hp hi ws hws
    · rw [List.mem_singleton.1 hws]; exact .inl ⟨k1, k2⟩
  · rw [hh]; exact cw_nodup
  · rw [hh]; rfl
  · rw [hf]
    refine right_with hR (by rw [List.length_append, List.length_cons, List.length_nil]; omega) fun t ht' => ?_
    rcases List.mem_append.1 ht' with h' | h'
    · exact hp.thr t h'
    · rw [List.mem_singleton.1 h']; exact ht
theorem er_parts (hq : q < (linesC c).length) : (linesC c).eraseIdx q = (linesC c).take q ++ (linesC c).drop (q + 1) ∧ linesC c = (linesC c).take q ++ (linesC c).getD q [] :: (linesC c).drop (q + 1) := by
  refine ⟨List.eraseIdx_eq_take_drop_succ .., ?_⟩
  conv => lhs; rw [← List.take_append_drop q (linesC c), List.drop_eq_getElem_cons hq]
  rw [List.getD_eq_getElem?_getD, List.getElem?_eq_getElem hq]; rfl
theorem less_n (hR : RightC c) (hi : InR c) (hq : q < (linesC c).length) (h : ¬ ThrAt c q) : cfE (jT ((linesC c).eraseIdx q)) = 4 ∧ cfN (jT ((linesC c).eraseIdx q)) = 0 := by
  have hp := prC hR
  have hl : (jT (linesC c)).length ≤ 1400 := text_len hp hi
  obtain ⟨e1, e2⟩ := er_parts hq
  have hn := (num_not (line_num hq h)).1
  have hh : cwL = hds ((linesC c).take q) ++ ((linesC c).getD q []).getD 0 [] :: hds ((linesC c).drop (q + 1)) := by
    conv => lhs; rw [← hds_lines c, e2]
    rw [hds_app, hds, if_neg hn]
  have hh2 : hds ((linesC c).eraseIdx q) = hds ((linesC c).take q) ++ hds ((linesC c).drop (q + 1)) := by rw [e1, hds_app]
  have hsub : (hds ((linesC c).eraseIdx q)).Sublist cwL := by
    rw [hh, hh2]; exact List.Sublist.append (List.Sublist.refl _) (List.sublist_cons_self _ _)
  have hlen : (hds ((linesC c).eraseIdx q)).length < 6 := by
    have := congrArg List.length hh
    rw [List.length_append, List.length_cons] at this
    have h6 : cwL.length = 6 := rfl
    rw [hh2, List.length_append]; omega
  have hm : ∀ ws ∈ (linesC c).eraseIdx q, ws ∈ linesC c := fun ws h => (List.eraseIdx_sublist ..).subset h
  have hel : (jT ((linesC c).eraseIdx q)).length ≤ 1400 := by
    have := er_len (X := linesC c) (linesC c).length q
    rw [List.take_length] at this
    omega
  exact cf_less (fun ws h => lines_ok c ws (hm ws h)) (by omega) (fun ws h => line_ok hp hi ws (hm ws h)) (List.Nodup.sublist hsub cw_nodup) hlen
theorem more_n (hR : RightC c) (hi : InR c) (hq : q < (linesC c).length) (h : ¬ ThrAt c q) : cfE (jT (linesC c ++ [(linesC c).getD q []])) = 5 ∧ cfN (jT (linesC c ++ [(linesC c).getD q []])) = 1 + (linesC c).length := by
  have hp := prC hR
  have hl : (jT (linesC c)).length ≤ 1400 := text_len hp hi
  have hn := (num_not (line_num hq h)).1
  have hm : (linesC c).getD q [] ∈ linesC c := by rw [List.getD_eq_getElem?_getD, List.getElem?_eq_getElem hq]; exact List.getElem_mem _
  have h5 : clE (hds (linesC c)) ((linesC c).getD q []) = 5 := by
    unfold clE
    rw [if_neg hn]
    rcases line_ok hp hi _ hm with ⟨ht, _⟩ | ⟨_, hf⟩
    · exact absurd ht hn
    · rw [if_pos hf, if_pos (hds_mem hm hn)]
  have hle := ln_le (X := linesC c) hq
  have := cf_bad (X := linesC c) (Y := []) (ws := (linesC c).getD q []) (join_plain fun ws hws => by
      rcases List.mem_append.1 hws with hws | hws
      · exact lines_plain c ws hws
      · rw [List.mem_singleton.1 hws]; exact lines_plain c _ hm)
    (by rw [← jT_snoc, List.length_append]; omega) (line_ok hp hi) (by rw [hds_lines]; exact cw_nodup) (by rw [h5]; decide)
  rw [h5] at this
  exact this
end
end Go.Proofs.YtmmfkpbkacfegaaGreatDoor
