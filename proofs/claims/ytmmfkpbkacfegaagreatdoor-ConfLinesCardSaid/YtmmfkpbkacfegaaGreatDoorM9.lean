/- CfR. -/
import Derived.Test.YtmmfkpbkacfegaaGreatDoorM6
namespace Go.Proofs.YtmmfkpbkacfegaaGreatDoor
open Go.RowKit

theorem qe_zw {n : Int} (h0 : 0 ≤ n) (h : n ≤ 9223372036854775807) : qe (zW n) = 0 ∧ (qv (zW n) : Int) = n := by
  have h1 := printV_read n.toNat 0 (by omega)
  simp only [List.replicate_zero, List.nil_append] at h1
  have h2 : quantV (zW n) = some n.toNat := h1
  unfold qe qv
  rw [h2]
  exact ⟨rfl, by show ((n.toNat : Nat) : Int) = n; omega⟩
/-- A line that is one: a threshold's; a number's. -/
def LineOk (ws : List (List UInt8)) : Prop := (IsThr ws ∧ errT (ws.getD 1 []) = 0) ∨ (¬ IsThr ws ∧ Fits ws)
/-- The words of the numbers' lines. -/
def hds : List (List (List UInt8)) → List (List UInt8)
  | [] => []
  | ws :: r => if IsThr ws then hds r else ws.getD 0 [] :: hds r
theorem hds_app (X Y : List (List (List UInt8))) : hds (X ++ Y) = hds X ++ hds Y := by
  induction X with
  | nil => rfl
  | cons ws r ih => rw [List.cons_append, hds, hds]; split <;> simp [ih]
def fC (c : Cfg) (X : List (List (List UInt8))) : Cfg := X.foldl clC c
theorem fC_app (c : Cfg) (X Y : List (List (List UInt8))) : fC c (X ++ Y) = fC (fC c X) Y := List.foldl_append ..
theorem ftx_scan {ws : List (List UInt8)} (h : ∀ w ∈ ws, GoodW w) (n : Nat) : ftx (scan n 0 (wT ws)) = ws := scan_wT ws h n 0
theorem run_good : ∀ (X Y : List (List (List UInt8))) (n : Nat) (c : Cfg) (sn : List (List UInt8)), JoinOk X → (∀ ws ∈ X, LineOk ws) → (sn ++ hds X).Nodup →
    runC c sn (relaid n (X ++ Y)) = runC (fC c X) (sn ++ hds X) (relaid (n + X.length) Y)
  | [], Y, n, c, sn, _, _, _ => by simp [fC, hds]
  | ws :: r, Y, n, c, sn, hJ, hok, hnd => by
    have hg := ftx_scan (fun w hw => ((hJ ws (List.mem_cons_self ..)).2 w hw).1) n
    have hJ' : JoinOk r := fun v hv => hJ v (List.mem_cons_of_mem _ hv)
    have hok' : ∀ v ∈ r, LineOk v := fun v hv => hok v (List.mem_cons_of_mem _ hv)
    rw [List.cons_append, relaid, runC, hg, List.length_cons, show n + (r.length + 1) = n + 1 + r.length by omega]
    rcases hok ws (List.mem_cons_self ..) with ⟨ht, he⟩ | ⟨ht, hf⟩
    · have e1 : clE sn ws = 0 := by unfold clE; rw [if_pos ht, he]
      have e2 : clS sn ws = sn := if_pos ht
      have e3 : hds (ws :: r) = hds r := if_pos ht
      rw [e3] at hnd ⊢
      rw [if_pos e1, e2, run_good r Y (n + 1) (clC c ws) sn hJ' hok' hnd]; rfl
    · have e3 : hds (ws :: r) = ws.getD 0 [] :: hds r := if_neg ht
      rw [e3] at hnd ⊢
      have hn : ws.getD 0 [] ∉ sn := fun hm => by
        have := (List.nodup_append.1 hnd).2.2 _ hm _ (List.mem_cons_self ..)
        exact this rfl
      have e1 : clE sn ws = 0 := by unfold clE; rw [if_neg ht, if_pos hf, if_neg hn]
      have e2 : clS sn ws = sn ++ [ws.getD 0 []] := if_neg ht
      have e4 : sn ++ ws.getD 0 [] :: hds r = (sn ++ [ws.getD 0 []]) ++ hds r := by simp
      rw [e4] at hnd ⊢
      rw [if_pos e1, e2, run_good r Y (n + 1) (clC c ws) _ hJ' hok' hnd]; rfl
theorem run_stop {ws : List (List UInt8)} {Y : List (List (List UInt8))} {n : Nat} {c : Cfg} {sn : List (List UInt8)} (hg : ∀ w ∈ ws, GoodW w) (hne : ws ≠ []) (he : clE sn ws ≠ 0) : runC c sn (relaid n (ws :: Y)) = (clE sn ws, n, cf0, []) := by
  have h := ftx_scan hg n
  have hl : 0 < (scan n 0 (wT ws)).length := by
    rw [← ftx_len, h]; exact List.length_pos_iff.2 hne
  have hn : ((scan n 0 (wT ws)).getD 0 f0).line = n := by
    rw [List.getD_eq_getElem?_getD, List.getElem?_eq_getElem hl]
    exact (scan_good _ _ _ _ (List.getElem_mem _)).2.1
  rw [relaid, runC, h, if_neg he, hn]
theorem raw_text {X : List (List (List UInt8))} (hJ : JoinOk X) (hl : (jT X).length ≤ 65536) : readableB (jT X) = true ∧ rawC (jT X) = runC cf0 [] (relaid 1 X) := by
  have hr := readable_jT hJ hl
  refine ⟨hr, ?_⟩
  unfold rawC
  rw [lexLines, hr, if_pos rfl, splitNl_jT _ hJ, lexFrom_wT _ _ hJ]
theorem raw_good {X : List (List (List UInt8))} (hJ : JoinOk X) (hl : (jT X).length ≤ 65536) (hok : ∀ ws ∈ X, LineOk ws) (hnd : (hds X).Nodup) : readableB (jT X) = true ∧ rawC (jT X) = (0, 0, fC cf0 X, hds X) := by
  obtain ⟨h1, h2⟩ := raw_text hJ hl
  have h3 := run_good X [] 1 cf0 [] hJ hok (by simpa using hnd)
  rw [List.append_nil] at h3
  exact ⟨h1, by rw [h2, h3]; simp [relaid, runC]⟩
theorem cf_good {X : List (List (List UInt8))} (hJ : JoinOk X) (hl : (jT X).length ≤ 65536) (hok : ∀ ws ∈ X, LineOk ws) (hnd : (hds X).Nodup) (h6 : (hds X).length = 6) (hR : RightC (fC cf0 X)) : cfE (jT X) = 0 ∧ cfN (jT X) = 0 ∧ cfC (jT X) = fC cf0 X := by
  obtain ⟨h1, h2⟩ := raw_good hJ hl hok hnd
  have h3 : cfE (jT X) = 0 := by unfold cfE; simp [h1, h2, h6, hR]
  exact ⟨h3, by unfold cfN; simp [h2], by unfold cfC; rw [if_pos h3, h2]⟩
theorem cf_less {X : List (List (List UInt8))} (hJ : JoinOk X) (hl : (jT X).length ≤ 65536) (hok : ∀ ws ∈ X, LineOk ws) (hnd : (hds X).Nodup) (h6 : (hds X).length < 6) : cfE (jT X) = 4 ∧ cfN (jT X) = 0 := by
  obtain ⟨h1, h2⟩ := raw_good hJ hl hok hnd
  exact ⟨by unfold cfE; simp [h1, h2, h6], by unfold cfN; simp [h2]⟩
theorem cf_odd {X : List (List (List UInt8))} (hJ : JoinOk X) (hl : (jT X).length ≤ 65536) (hok : ∀ ws ∈ X, LineOk ws) (hnd : (hds X).Nodup) (h6 : (hds X).length = 6) (hR : ¬ RightC (fC cf0 X)) : cfE (jT X) = 1 ∧ cfN (jT X) = 0 := by
  obtain ⟨h1, h2⟩ := raw_good hJ hl hok hnd
  exact ⟨by unfold cfE; simp [h1, h2, h6, hR], by unfold cfN; simp [h2]⟩
theorem cf_bad {X Y : List (List (List UInt8))} {ws : List (List UInt8)} (hJ : JoinOk (X ++ ws :: Y)) (hl : (jT (X ++ ws :: Y)).length ≤ 65536) (hok : ∀ v ∈ X, LineOk v) (hnd : (hds X).Nodup) (he : clE (hds X) ws ≠ 0) : cfE (jT (X ++ ws :: Y)) = clE (hds X) ws ∧ cfN (jT (X ++ ws :: Y)) = 1 + X.length := by
  obtain ⟨h1, h2⟩ := raw_text hJ hl
  have hX : JoinOk X := fun v hv => hJ v (List.mem_append_left _ hv)
  have hw := hJ ws (List.mem_append_right _ (List.mem_cons_self ..))
  have h3 := run_good X (ws :: Y) 1 cf0 [] hX hok (by simpa using hnd)
  rw [List.nil_append, run_stop (fun w h => (hw.2 w h).1) hw.1 he] at h3
  rw [h3] at h2
  exact ⟨by unfold cfE; simp [h1, h2, he], by unfold cfN; simp [h1, h2, he]⟩

/-! A config's lines. -/
theorem not_thr {w : List UInt8} (h : w ≠ trL) (l : List (List UInt8)) : ¬ IsThr (w :: l) := fun e => h e.1
theorem clC_k {c : Cfg} {w : List UInt8} {k : Int} (hw : kOf w = k) (ht : w ≠ trL) (l : List (List UInt8)) : clC c (w :: l) = setC c k (l.map fun v => (qv v : Int)) := by
  unfold clC
  rw [if_neg (not_thr ht l)]
  show setC c (kOf w) _ = _
  rw [hw]; rfl
theorem ok_k {w : List UInt8} {k : Int} (hw : kOf w = k) (h0 : 0 ≤ k) (ht : w ≠ trL) {l : List (List UInt8)} (hl : l.length + 1 = if k < 2 then 4 else 2) (hq : ∀ v ∈ l, qe v = 0) : LineOk (w :: l) := by
  refine .inr ⟨not_thr ht l, ?_⟩
  unfold Fits
  show 0 ≤ kOf w ∧ (w :: l).length = (if kOf w < 2 then 4 else 2) ∧ _
  rw [hw]
  exact ⟨h0, hl, hq⟩
theorem thr_line {t : Thr} (h : RightT t) (ha : t.amt ≤ 9223372036854775807) : IsThr [trL, printT t] ∧ errT (printT t) = 0 ∧ readT (printT t) = t := by
  obtain ⟨h1, h2⟩ := back_T h ha
  exact ⟨⟨rfl, rfl⟩, by unfold errT; rw [if_pos h1], h2⟩
theorem fC_thr : ∀ (l : List Thr) (c : Cfg), (∀ t ∈ l, RightT t ∧ t.amt ≤ 9223372036854775807) → fC c (l.map fun t => [trL, printT t]) = { c with thr := c.thr ++ l }
  | [], c, _ => by simp [fC]
  | t :: r, c, h => by
    obtain ⟨h1, _, h3⟩ := thr_line (h t (List.mem_cons_self ..)).1 (h t (List.mem_cons_self ..)).2
    have e : clC c [trL, printT t] = { c with thr := c.thr ++ [t] } := by
      unfold clC
      rw [if_pos h1]
      show { c with thr := c.thr ++ [readT (printT t)] } = _
      rw [h3]
    rw [List.map_cons]
    show fC (clC c [trL, printT t]) _ = _
    rw [e, fC_thr r _ (fun u hu => h u (List.mem_cons_of_mem _ hu))]
    simp
theorem hds_thr : ∀ (l : List Thr), hds (l.map fun t => [trL, printT t]) = []
  | [] => rfl
  | t :: r => by
    rw [List.map_cons, hds, if_pos ⟨rfl, rfl⟩]; exact hds_thr r
theorem hds_hd (c : Cfg) : hds (hdL c) = [cpL, alL] := by
  unfold hdL
  rw [hds, if_neg (not_thr (by decide) _), hds, if_neg (not_thr (by decide) _)]; rfl
theorem hds_tl (c : Cfg) : hds (tlL c) = [peL, reL, agL, deL] := by
  unfold tlL
  rw [hds, if_neg (not_thr (by decide) _), hds, if_neg (not_thr (by decide) _), hds, if_neg (not_thr (by decide) _), hds, if_neg (not_thr (by decide) _)]; rfl
theorem hds_lines (c : Cfg) : hds (linesC c) = cwL := by
  unfold linesC thL
  rw [hds_app, hds_app, hds_hd, hds_thr, hds_tl]; rfl
theorem line_ok {c : Cfg} (hp : PrC c) (hi : InR c) : ∀ ws ∈ linesC c, LineOk ws := by
  intro ws hws
  have q : ∀ {n : Int}, 0 ≤ n → n ≤ 9223372036854775807 → qe (zW n) = 0 := fun h0 h => (qe_zw h0 h).1
  rcases List.mem_append.1 hws with hws | hws
  · rcases List.mem_append.1 hws with hws | hws
    · simp only [hdL, List.mem_cons, List.mem_nil_iff, or_false] at hws
      rcases hws with rfl | rfl
      · refine ok_k (k := 0) (by decide) (by decide) (by decide) rfl fun v hv => ?_
        simp only [List.mem_cons, List.mem_nil_iff, or_false] at hv
        rcases hv with rfl | rfl | rfl
        · exact q hp.c0 hi.c0
        · exact q hp.c1 hi.c1
        · exact q hp.c2 hi.c2
      · refine ok_k (k := 1) (by decide) (by decide) (by decide) rfl fun v hv => ?_
        simp only [List.mem_cons, List.mem_nil_iff, or_false] at hv
        rcases hv with rfl | rfl | rfl
        · exact q hp.a0 hi.a0
        · exact q hp.a1 hi.a1
        · exact q hp.a2 hi.a2
    · obtain ⟨t, ht, rfl⟩ := List.mem_map.1 hws
      obtain ⟨h1, h2, _⟩ := thr_line (hp.thr t ht) (hi.thr t ht)
      exact .inl ⟨h1, h2⟩
  · simp only [tlL, List.mem_cons, List.mem_nil_iff, or_false] at hws
    rcases hws with rfl | rfl | rfl | rfl
    · refine ok_k (k := 2) (by decide) (by decide) (by decide) rfl fun v hv => ?_
      rw [List.mem_singleton.1 hv]; exact q hp.per hi.per
    · refine ok_k (k := 3) (by decide) (by decide) (by decide) rfl fun v hv => ?_
      rw [List.mem_singleton.1 hv]; exact q hp.ret hi.ret
    · refine ok_k (k := 4) (by decide) (by decide) (by decide) rfl fun v hv => ?_
      rw [List.mem_singleton.1 hv]; exact q hp.age hi.age
    · refine ok_k (k := 5) (by decide) (by decide) (by decide) rfl fun v hv => ?_
      rw [List.mem_singleton.1 hv]; exact q hp.ded hi.ded
section
variable {c d : Cfg}
theorem cl_cp (hp : PrC c) (hi : InR c) : clC d [cpL, zW c.c0, zW c.c1, zW c.c2] = { d with c0 := c.c0, c1 := c.c1, c2 := c.c2 } := by
  rw [clC_k (k := 0) (by decide) (by decide)]
  simp [setC, (qe_zw hp.c0 hi.c0).2, (qe_zw hp.c1 hi.c1).2, (qe_zw hp.c2 hi.c2).2]
theorem cl_al (hp : PrC c) (hi : InR c) : clC d [alL, zW c.a0, zW c.a1, zW c.a2] = { d with a0 := c.a0, a1 := c.a1, a2 := c.a2 } := by
  rw [clC_k (k := 1) (by decide) (by decide)]
  simp [setC, (qe_zw hp.a0 hi.a0).2, (qe_zw hp.a1 hi.a1).2, (qe_zw hp.a2 hi.a2).2]
theorem fC_tl (hp : PrC c) (hi : InR c) : fC d (tlL c) = { d with per := c.per, ret := c.ret, age := c.age, ded := c.ded } := by
  show clC (clC (clC (clC d [peL, zW c.per]) [reL, zW c.ret]) [agL, zW c.age]) [deL, zW c.ded] = _
  rw [clC_k (w := peL) (k := 2) (by decide) (by decide), clC_k (w := reL) (k := 3) (by decide) (by decide), clC_k (w := agL) (k := 4) (by decide) (by decide), clC_k (w := deL) (k := 5) (by decide) (by decide)]
  simp [setC, (qe_zw hp.per hi.per).2, (qe_zw hp.ret hi.ret).2, (qe_zw hp.age hi.age).2, (qe_zw hp.ded hi.ded).2]
theorem fC_th (hp : PrC c) (hi : InR c) : fC d (thL c) = { d with thr := d.thr ++ c.thr } := fC_thr c.thr d fun t ht => ⟨hp.thr t ht, hi.thr t ht⟩
theorem fC_hd (hp : PrC c) (hi : InR c) : fC d (hdL c) = { d with c0 := c.c0, c1 := c.c1, c2 := c.c2, a0 := c.a0, a1 := c.a1, a2 := c.a2 } := by
  show clC (clC d [cpL, zW c.c0, zW c.c1, zW c.c2]) [alL, zW c.a0, zW c.a1, zW c.a2] = _
  rw [cl_cp hp hi, cl_al hp hi]
theorem fC_lines (hp : PrC c) (hi : InR c) : fC cf0 (linesC c) = c := by
  unfold linesC
  rw [fC_app, fC_app, fC_hd hp hi, fC_th hp hi, fC_tl hp hi]
  simp [cf0]
theorem fC_turn1 (hp : PrC c) (hi : InR c) : fC cf0 ((linesC c).drop 1 ++ (linesC c).take 1) = c := by
  show fC cf0 ([alL, zW c.a0, zW c.a1, zW c.a2] :: (thL c ++ tlL c) ++ [[cpL, zW c.c0, zW c.c1, zW c.c2]]) = c
  rw [fC_app]
  show clC (fC (clC cf0 [alL, zW c.a0, zW c.a1, zW c.a2]) (thL c ++ tlL c)) [cpL, zW c.c0, zW c.c1, zW c.c2] = c
  rw [cl_cp hp hi, fC_app, cl_al hp hi, fC_th hp hi, fC_tl hp hi]
  simp [cf0]
theorem fC_turn2 (hp : PrC c) (hi : InR c) : fC cf0 ((linesC c).drop 2 ++ (linesC c).take 2) = c := by
  show fC cf0 ((thL c ++ tlL c) ++ hdL c) = c
  rw [fC_app, fC_app, fC_hd hp hi, fC_th hp hi, fC_tl hp hi]
  simp [cf0]
end
theorem cw_nodup : cwL.Nodup := by decide
theorem lines_ok (c : Cfg) : JoinOk (linesC c) := join_plain (lines_plain c)
/-- What is printed is read as it was. -/
theorem back_C {c : Cfg} (hR : RightC c) (hi : InR c) : cfE (textC c) = 0 ∧ cfN (textC c) = 0 ∧ cfC (textC c) = c := by
  have hp := prC hR
  have hl := text_len hp hi
  have h := cf_good (X := linesC c) (lines_ok c) (by show (textC c).length ≤ _; omega) (line_ok hp hi) (by rw [hds_lines]; exact cw_nodup) (by rw [hds_lines]; rfl) (by rw [fC_lines hp hi]; exact hR)
  rw [fC_lines hp hi] at h
  exact h
theorem odd_C {c : Cfg} (hR : ¬ RightC c) (hp : PrC c) (hi : InR c) : cfE (textC c) = 1 ∧ cfN (textC c) = 0 := by
  have hl := text_len hp hi
  exact cf_odd (X := linesC c) (lines_ok c) (by show (textC c).length ≤ _; omega) (line_ok hp hi) (by rw [hds_lines]; exact cw_nodup) (by rw [hds_lines]; rfl) (by rw [fC_lines hp hi]; exact hR)
theorem jT_swap (X : List (List (List UInt8))) (k : Nat) : jT (X.drop k) ++ jT (X.take k) = jT (X.drop k ++ X.take k) := (jT_app ..).symm
theorem swap_len (X : List (List (List UInt8))) (k : Nat) : (jT (X.drop k ++ X.take k)).length = (jT X).length := by
  rw [jT_app, List.length_append, Nat.add_comm, ← List.length_append, ← jT_app, List.take_append_drop]
/-- With its first lines at the end it is read as it was. -/
theorem turn_C {c : Cfg} (hR : RightC c) (hi : InR c) {k : Nat} (hk : k = 1 ∨ k = 2) : cfE (jT ((linesC c).drop k) ++ jT ((linesC c).take k)) = 0 ∧ cfC (jT ((linesC c).drop k) ++ jT ((linesC c).take k)) = c := by
  have hp := prC hR
  have hl := text_len hp hi
  have hm : ∀ ws, ws ∈ (linesC c).drop k ++ (linesC c).take k → ws ∈ linesC c := fun ws h => by
    rcases List.mem_append.1 h with h | h
    · exact List.mem_of_mem_drop h
    · exact List.mem_of_mem_take h
  have hh : hds ((linesC c).drop k ++ (linesC c).take k) = cwL.drop k ++ cwL.take k := by
    rcases hk with rfl | rfl
    · show hds ([alL, zW c.a0, zW c.a1, zW c.a2] :: (thL c ++ tlL c) ++ [[cpL, zW c.c0, zW c.c1, zW c.c2]]) = _
      rw [hds_app, hds, if_neg (not_thr (by decide) _), hds_app, thL, hds_thr, hds_tl, hds, if_neg (not_thr (by decide) _)]; rfl
    · show hds ((thL c ++ tlL c) ++ hdL c) = _
      rw [hds_app, hds_app, thL, hds_thr, hds_tl, hds_hd]; rfl
  have hf : fC cf0 ((linesC c).drop k ++ (linesC c).take k) = c := by
    rcases hk with rfl | rfl
    · exact fC_turn1 hp hi
    · exact fC_turn2 hp hi
  rw [jT_swap]
  have h := cf_good (X := (linesC c).drop k ++ (linesC c).take k) (fun ws h => lines_ok c ws (hm ws h)) (by rw [swap_len]; show (textC c).length ≤ _; omega) (fun ws h => line_ok hp hi ws (hm ws h)) (by rw [hh]; rcases hk with rfl | rfl <;> decide) (by rw [hh]; rcases hk with rfl | rfl <;> rfl) (by rw [hf]; exact hR)
  rw [hf] at h
  exact ⟨h.1, h.2.2⟩

/-! Where the lines of a text are. -/
def Posn (X : List (List (List UInt8))) (j F i : Nat) : Prop := j ≤ X.length ∧ F = (jT (X.take j)).length ∧ F ≤ i ∧ (j < X.length → i ≤ F + (wT (X.getD j [])).length) ∧ (j = X.length → i = F)
theorem pos_0 (X : List (List (List UInt8))) : Posn X 0 0 0 := ⟨Nat.zero_le _, rfl, Nat.zero_le _, fun _ => Nat.zero_le _, fun _ => rfl⟩
theorem jT_at {X : List (List (List UInt8))} {j : Nat} (hj : j < X.length) : jT X = jT (X.take j) ++ (wT (X.getD j []) ++ 10 :: jT (X.drop (j + 1))) := by
  conv => lhs; rw [← List.take_append_drop j X, List.drop_eq_getElem_cons hj]
  rw [jT_app, jT_cons, List.getD_eq_getElem?_getD, List.getElem?_eq_getElem hj]
  simp
theorem jT_take {X : List (List (List UInt8))} {j : Nat} (hj : j < X.length) : jT (X.take (j + 1)) = jT (X.take j) ++ (wT (X.getD j []) ++ [10]) := by
  rw [List.take_succ_eq_append_getElem hj, jT_app, List.getD_eq_getElem?_getD, List.getElem?_eq_getElem hj]
  simp [jT]
theorem pos_in {X : List (List (List UInt8))} {j F i : Nat} (h : Posn X j F i) (hi : i < (jT X).length) : j < X.length := by
  obtain ⟨h1, h2, h3, h4, h5⟩ := h
  rcases Nat.lt_or_ge j X.length with h | h
  · exact h
  · have e : j = X.length := by omega
    have := h5 e
    rw [e, List.take_length] at h2
    omega
theorem pos_byte {X : List (List (List UInt8))} (hJ : JoinOk X) {j F i : Nat} (h : Posn X j F i) (hi : i < (jT X).length) : ((jT X).getD i 0 = 10 ↔ i = F + (wT (X.getD j [])).length) := by
  have hj := pos_in h hi
  obtain ⟨h1, h2, h3, h4, h5⟩ := h
  have h6 := h4 hj
  have e : (jT X)[i]? = (wT (X.getD j []) ++ 10 :: jT (X.drop (j + 1)))[i - F]? := by
    conv => lhs; rw [jT_at hj]
    rw [List.getElem?_append_right (by omega), h2]
  rw [List.getD_eq_getElem?_getD, e]
  have hm : X.getD j [] ∈ X := by rw [List.getD_eq_getElem?_getD, List.getElem?_eq_getElem hj]; exact List.getElem_mem _
  by_cases hlt : i - F < (wT (X.getD j [])).length
  · rw [List.getElem?_append_left hlt, List.getElem?_eq_getElem hlt]
    refine ⟨fun h10 => ?_, fun h10 => by omega⟩
    exfalso
    have hin : (10 : UInt8) ∈ wT (X.getD j []) := by
      have h11 : (wT (X.getD j []))[i - F] = 10 := h10
      rw [← h11]; exact List.getElem_mem _
    rcases wT_mem hin with h0 | ⟨w, hw, hc⟩
    · cases h0
    · exact ((hJ _ hm).2 w hw).2 10 hc |>.1 rfl
  · have e2 : i - F = (wT (X.getD j [])).length := by omega
    rw [e2, List.getElem?_append_right (Nat.le_refl _), Nat.sub_self]
    exact ⟨fun _ => by omega, fun _ => rfl⟩
theorem pos_nl {X : List (List (List UInt8))} (hJ : JoinOk X) {j F i : Nat} (h : Posn X j F i) (hi : i < (jT X).length) (h10 : (jT X).getD i 0 = 10) : Posn X (j + 1) (i + 1) (i + 1) := by
  have hj := pos_in h hi
  have he := (pos_byte hJ h hi).1 h10
  obtain ⟨h1, h2, h3, h4, h5⟩ := h
  refine ⟨hj, ?_, Nat.le_refl _, fun _ => by omega, fun _ => rfl⟩
  rw [jT_take hj]
  simp only [List.length_append, List.length_cons, List.length_nil]
  omega
theorem pos_go {X : List (List (List UInt8))} (hJ : JoinOk X) {j F i : Nat} (h : Posn X j F i) (hi : i < (jT X).length) (h10 : (jT X).getD i 0 ≠ 10) : Posn X j F (i + 1) := by
  have hj := pos_in h hi
  have he : ¬ (i = F + (wT (X.getD j [])).length) := fun e => h10 ((pos_byte hJ h hi).2 e)
  obtain ⟨h1, h2, h3, h4, h5⟩ := h
  have := h4 hj
  exact ⟨h1, h2, by omega, fun _ => by omega, fun e => by omega⟩
theorem pos_parts {X : List (List (List UInt8))} {j F i : Nat} (h : Posn X j F i) : (jT X).take F = jT (X.take j) ∧ (jT X).drop F = jT (X.drop j) := by
  have e : jT X = jT (X.take j) ++ jT (X.drop j) := by rw [← jT_app, List.take_append_drop]
  obtain ⟨_, h2, _⟩ := h
  rw [e, h2]
  exact ⟨by simp, by simp⟩
theorem pos_line {X : List (List (List UInt8))} (hJ : JoinOk X) {j F i : Nat} (h : Posn X j F i) (hi : i < (jT X).length) (h10 : (jT X).getD i 0 = 10) : ((jT X).take (i + 1)).drop F = wT (X.getD j []) ++ [10] := by
  have hj := pos_in h hi
  have h2 := pos_nl hJ h hi h10
  rw [(pos_parts h2).1, jT_take hj, h.2.1]
  simp

/-! A line more, that is none. -/
def wrongL : List (List (List UInt8)) := [[[111, 116, 104, 101, 114], [49]], [peL], [peL, [49], [50]], [reL, [120]], [trL], [trL, [112, 105, 100, 60, 48]], [cpL, [49], [50]], [deL, [45, 49]]]
theorem wrong_err (sn : List (List UInt8)) : ∀ ws ∈ wrongL, clE sn ws = 2 := by
  intro ws hws
  simp only [wrongL, List.mem_cons, List.mem_nil_iff, or_false] at hws
  rcases hws with rfl | rfl | rfl | rfl | rfl | rfl | rfl | rfl
  · unfold clE; rw [if_neg (by decide), if_neg (by decide)]
  · unfold clE; rw [if_neg (by decide), if_neg (by decide)]
  · unfold clE; rw [if_neg (by decide), if_neg (by decide)]
  · unfold clE; rw [if_neg (by decide), if_neg (by decide)]
  · unfold clE; rw [if_neg (by decide), if_neg (by decide)]
  · unfold clE; rw [if_pos (by decide)]; decide +kernel
  · unfold clE; rw [if_neg (by decide), if_neg (by decide)]
  · unfold clE; rw [if_neg (by decide), if_neg (by decide +kernel)]
theorem wrong_plain : ∀ ws ∈ wrongL, ws ≠ [] ∧ ∀ w ∈ ws, Plain w := by
  intro ws hws
  refine ⟨?_, fun w hw => ⟨?_, ?_⟩⟩
  · revert ws; decide
  · revert w; revert ws; decide
  · revert w; revert ws; decide
theorem nodup_hds {c : Cfg} {k : Nat} : (hds ((linesC c).take k)).Nodup := by
  have h : hds ((linesC c).take k) ++ hds ((linesC c).drop k) = cwL := by rw [← hds_app, List.take_append_drop, hds_lines]
  have h2 := cw_nodup
  rw [← h] at h2
  exact (List.nodup_append.1 h2).1
/-- A right config's text with such a line, in whatever place. -/
theorem wrong_C {c : Cfg} (hp : PrC c) (hi : InR c) {j : Nat} (hj : j ≤ (linesC c).length) {ws : List (List UInt8)} (hw : ws ∈ wrongL) (hl : (wT ws).length ≤ 20) :
    cfE (jT ((linesC c).take j) ++ (wT ws ++ [10]) ++ jT ((linesC c).drop j)) = 2 ∧ cfN (jT ((linesC c).take j) ++ (wT ws ++ [10]) ++ jT ((linesC c).drop j)) = 1 + j := by
  have e : jT ((linesC c).take j) ++ (wT ws ++ [10]) ++ jT ((linesC c).drop j) = jT ((linesC c).take j ++ ws :: (linesC c).drop j) := by
    rw [jT_app, jT_cons]; simp
  have hJ : JoinOk ((linesC c).take j ++ ws :: (linesC c).drop j) := join_plain fun v hv => by
    rcases List.mem_append.1 hv with h | h
    · exact lines_plain c v (List.mem_of_mem_take h)
    · rcases List.mem_cons.1 h with rfl | h
      · exact wrong_plain v hw
      · exact lines_plain c v (List.mem_of_mem_drop h)
  have htl := text_len hp hi
  have hlen : (jT ((linesC c).take j ++ ws :: (linesC c).drop j)).length ≤ 65536 := by
    rw [← e]
    have e2 : (jT ((linesC c).take j)).length + (jT ((linesC c).drop j)).length = (textC c).length := by
      rw [← List.length_append, ← jT_app, List.take_append_drop]; rfl
    simp only [List.length_append, List.length_cons, List.length_nil]
    omega
  have h2 := wrong_err (hds ((linesC c).take j)) ws hw
  have h := cf_bad hJ hlen (fun v hv => line_ok hp hi v (List.mem_of_mem_take hv)) nodup_hds (by rw [h2]; decide)
  rw [h2, List.length_take, Nat.min_eq_left hj] at h
  rw [e]; exact h
end Go.Proofs.YtmmfkpbkacfegaaGreatDoor
