/- Walks over abstract values, printed by my program av.py. -/
import Derived.Test.YtlpihekflkjkfaaDoorLg13
import Derived.Test.YtlpihekflkjkfaaDoorAvTB
import Derived.Test.YtlpihekflkjkfaaDoorAvZ
namespace Go.Proofs.YtlpihekflkjkfaaDoor
open Go.RowKit

theorem strs_kd (l : List (List UInt8)) : ∀ x ∈ l.map AV.str, x.kd = 1 ∧ 1 ≠ 0 ∧ x.cells = [x] ∧ Clr 1 x := by
  intro x hx
  obtain ⟨c, _, rfl⟩ := List.mem_map.1 hx
  exact ⟨rfl, by decide, rfl, .str _⟩
theorem no_q {l : List Stp} {m : Nat} (hm : m < (linesL l).length) (h : (linesL l).getD m [] = [63]) : False := by
  unfold linesL at hm h
  split at hm
  · rename_i ha
    rw [if_pos ha] at h
    rw [List.length_map] at hm
    rw [List.getD_eq_getElem?_getD, List.getElem?_map, List.getElem?_eq_getElem hm] at h
    have hp : HasLine ((evsOf l)[m]).1 ((evsOf l)[m]).2 := of_decide_eq_true (List.all_eq_true.1 ha _ (List.getElem_mem hm))
    have h2 : textE ((evsOf l)[m]).1 ((evsOf l)[m]).2 = [63] := h
    rw [textE_yes hp] at h2
    have h3 := congrArg List.length h2
    have h4 := List.length_pos_iff.2 (digs_ne ((evsOf l)[m]).1.toNat)
    unfold lineE at h3
    simp only [List.length_append, List.length_cons, List.length_nil] at h3
    omega
  · cases hm
theorem lkeeps_ok {l : List Stp} {ws : List (List UInt8)} (h : ws.length = (linesL l).length) : (bif linesX l == linesX l then ((ws.length : Int) == ((linesL l).length : Int)) else false) = true := by rw [h]; simp

set_option maxRecDepth 20000 in
theorem LogKeeps_T (w0 : World) (hfx : Fix (Gh.start w0) w0) (l : List Stp) (wn : ∀ x ∈ l, ∀ e ∈ x.evs, -9223372036854775808 ≤ e.n ∧ e.n ≤ 9223372036854775807) (hll : l.length ≤ 9223372036854775807) (hb : ∀ x ∈ l, x.evs.length ≤ 9223372036854775807) (v0 : Value) (hv0 : RelV Tryd.prog (Gh.start w0) w0 (.list false 57 (l.map encS)) v0) : Calls Tryd.prog 11 [v0].toArray w0 fun e w' => e = .returned (.bool true) ∧ Below w0.heap.size w0 w' := by
  refine TWp.law (args := [.list false 57 (l.map encS)]) Tryd.func11 rfl (n := 103) rfl rfl hfx rfl (by intro j x v hx hv; match j, hx, hv with | 0, hx, hv => cases hx; cases hv; exact hv0 | _ + 1, hx, hv => cases hx) ?_
  refine TWp.seqA (AWp.region ?_)
  refine zM (zB false) ?_
  refine zN ?_
  refine TWp.seq ?_
  refine TWp.seqA (AWp.region ?_)
  refine zc [] Tryd.call21 (lawake_any noM) ?_
  rintro _ _ ⟨rfl, rfl⟩
  refine zr (zn true) ?_
  refine zM (zB false) ?_
  refine zM (.list false 57 (l.map encS)) ?_
  refine zc [.list false 57 (l.map encS)] Tryd.call27 (few_any l hll hb noM) ?_
  rintro _ _ ⟨⟨fb, rfl, hfb⟩, rfl⟩
  refine zr (zn fb) ?_
  refine zr (zp false (zB (!fb))) ?_
  refine zN ?_
  refine TWp.cond (b := !fb) rfl (fun h1 => ?_) (fun h1 => ?_)
  · skip
    have h1' : True := trivial
    clear h1
    refine TWp.seqA (AWp.region ?_)
    refine zc [] Tryd.call21 (lawake_any noM) ?_
    rintro _ _ ⟨rfl, rfl⟩
    refine zM (zB true) ?_
    refine zN ?_
    refine TWp.ret ?_
    exact ⟨.inl rfl, _, ResOf.one 2 (zB true) rfl rfl, rfl⟩
  · skip
    have h1' : FewP l := (hfb (bnot_f h1))
    clear h1
    refine TWp.skip ?_
    refine TWp.seqA (AWp.region ?_)
    refine AOps.nilList 57 trivial rfl (by decide) (.inl rfl) ?_
    refine zN ?_
    refine TWp.seq ?_
    refine TWp.seqA (AWp.region ?_)
    refine zM (zI 0) ?_
    refine zN ?_
    refine TWp.block ?_
    refine TWp.loopE [0, 3, 4] [] (fun m s => ∃ (i : Nat), m = l.length - i ∧ s = ⟨[(0, .list false 57 (l.map encS)), (3, .list true 57 ((l.take i).map encS)), (4, zI (i : Int))], [], noM⟩ ∧ (i ≤ l.length)) ?_ ?_
    · exact ⟨_, 0, rfl, rfl, Nat.zero_le _⟩
    · rintro _ _ ⟨i, rfl, rfl, hi⟩
      have hfl := ((show FewP l by assumption)).1
      have hti : (l.take i).length = i := by rw [List.length_take]; omega
      have hel := few_at ((show FewP l by assumption)) (i := i)
      refine TWp.seq ?_
      refine TWp.seqA (AWp.region ?_)
      refine zM (zI (i : Int)) ?_
      refine zM (.list false 57 (l.map encS)) ?_
      refine zr (zL (l.map encS) l.length Tryd.underlying48 (by simp)) ?_
      refine zr (zi (decide ((i : Int) < (l.length : Int)))) ?_
      refine zN ?_
      refine TWp.cond (b := decide ((i : Int) < (l.length : Int))) rfl (fun h2 => ?_) (fun h2 => ?_)
      · skip
        have h2' : i < l.length := (by have hh := of_decide_eq_true h2; omega)
        clear h2
        refine TWp.skip ?_
        refine TWp.seq ?_
        refine TWp.block ?_
        refine TWp.seqA (AWp.region ?_)
        refine zM (.list false 57 (l.map encS)) ?_
        refine zM (zI (i : Int)) ?_
        refine zr (zel i (encS (l.getD i s0)) Tryd.underlying48 sizeOf_57 (encS_at (by omega))) ?_
        refine zr (zlE (encS (l.getD i s0)) Tryd.underlying57 sizeOf_57) ?_
        refine zal [34, 199] zero_57 [zI 0, .list false 34 [], zI 0, .list false 199 [], zB false, zB false, zB false] ?_
        refine zst sizeOf_57 (encS (l.getD i s0)) ?_
        refine zN ?_
        refine TWp.seqA (AWp.region ?_)
        refine AOps.buildEmpty trivial rfl (by decide) rfl rfl Tryd.underlying51 sizeOf_34 ?_
        refine zM (.list false 57 (l.map encS)) ?_
        refine zM (zI (i : Int)) ?_
        refine zr (zel i (encS (l.getD i s0)) Tryd.underlying48 sizeOf_57 (encS_at (by omega))) ?_
        refine zr (zfE Tryd.underlying57 sizeOf_51) ?_
        refine zr (zlE (.list false 34 ((l.getD i s0).evs.map encE)) Tryd.underlying51 sizeOf_51) ?_
        refine zap (m1 := 0) (m2 := ((l.getD i s0).evs.length)) 40 [] ((l.getD i s0).evs.map encE) ((l.getD i s0).evs.map encE) Tryd.underlying51 Tryd.underlying51 Tryd.i34 rfl (by simp) rfl ?_
        refine zr (zfL Tryd.underlying57 sizeOf_51) ?_
        refine zst sizeOf_51 (.list false 34 ((l.getD i s0).evs.map encE)) ?_
        refine zN ?_
        refine TWp.region ?_
        refine zT (v := .list true 57 ((l.take i).map encS)) rfl ?_
        refine zr (zlL (.agg [zI ((l.getD i s0).er), .list false 34 ((l.getD i s0).evs.map encE), zI ((l.getD i s0).rd), .list false 199 ((l.getD i s0).pods), zB ((l.getD i s0).o0), zB ((l.getD i s0).o1), zB ((l.getD i s0).o2)]) Tryd.underlying57 sizeOf_57) ?_
        refine zbS [34, 199] [.agg [zI ((l.getD i s0).er), .list false 34 ((l.getD i s0).evs.map encE), zI ((l.getD i s0).rd), .list false 199 ((l.getD i s0).pods), zB ((l.getD i s0).o0), zB ((l.getD i s0).o1), zB ((l.getD i s0).o2)]] Tryd.underlying48 Tryd.i57 ?_
        refine zap (m1 := ((l.take i).length)) (m2 := 1) 72 ((l.take i).map encS) [.agg [zI ((l.getD i s0).er), .list false 34 ((l.getD i s0).evs.map encE), zI ((l.getD i s0).rd), .list false 199 ((l.getD i s0).pods), zB ((l.getD i s0).o0), zB ((l.getD i s0).o1), zB ((l.getD i s0).o2)]] ((l.take (i + 1)).map encS) Tryd.underlying48 Tryd.underlying48 Tryd.i57 (by simp) rfl (by rw [take_stp (by omega), List.map_append]; rfl) ?_
        refine zT (v := .list true 57 ((l.take (i + 1)).map encS)) rfl ?_
        refine zN ?_
        refine TWp.region ?_
        refine zM (zI (i : Int)) ?_
        refine zr (zw ((i : Int) + 1) ((i + 1 : Nat) : Int)) ?_
        refine zM (zI ((i + 1 : Nat) : Int)) ?_
        refine zN ?_
        exact ⟨_, by omega, i + 1, rfl, rfl, by omega⟩
      · skip
        have h2' : ¬ (i < l.length) := (by have hh := of_decide_eq_false h2; omega)
        clear h2
        refine TWp.exit ?_
        have hpe0 : l.take i = l := List.take_of_length_le (by omega)
        rw [hpe0]
        refine TWp.mark 3 [0] rfl rfl rfl rfl ?_
        intro G1 w1 vo hB hvo
        show TB _ _ G1 w1 _ (⟨[(3, .pin (.list false 57 (l.map encS)) vo), (0, .list false 57 (l.map encS))], [], noM⟩) _
        refine TB.seqA (AWp.region ?_)
        refine zM (.list false 57 (l.map encS)) ?_
        refine zc [.list false 57 (l.map encS)] Tryd.call28 (lines_any l (few_good (show FewP l by assumption) wn) (few_gl (show FewP l by assumption)) (few_l (show FewP l by assumption)) noM) ?_
        rintro _ _ ⟨rfl, rfl⟩
        refine zT (v := .tuple [.list true 9 ((linesL l).map AV.str), zI (linesX l)]) rfl ?_
        refine AOps.take trivial rfl (by decide) (by decide) rfl rfl (v := .list true 9 ((linesL l).map AV.str)) rfl (.inr ⟨_, _, rfl⟩) ?_
        refine zr (zx (zI (linesX l))) ?_
        refine zT (v := .list true 9 ((linesL l).map AV.str)) rfl ?_
        refine zM (zI (linesX l)) ?_
        refine zN ?_
        refine TB.seqA (AWp.region ?_)
        refine zM (.list false 57 (l.map encS)) ?_
        refine zc [.list false 57 (l.map encS)] Tryd.call29 (count_any l (few_gl (show FewP l by assumption)) (few_l (show FewP l by assumption)) noM) ?_
        rintro _ _ ⟨rfl, rfl⟩
        refine zN ?_
        refine TB.seq ?_
        refine TB.seqA (AWp.region ?_)
        refine zM (zI 0) ?_
        refine zN ?_
        refine TB.block ?_
        refine TB.loopE [0, 3, 6, 7, 8] [] (fun m s => ∃ (i : Nat), m = l.length - i ∧ s = ⟨[(0, .list false 57 (l.map encS)), (3, .pin (.list false 57 (l.map encS)) vo), (6, .list true 9 ((linesL l).map AV.str)), (7, zI (linesX l)), (8, zI (i : Int))], [], noM⟩ ∧ (i ≤ l.length)) ?_ ?_
        · exact ⟨_, 0, rfl, rfl, Nat.zero_le _⟩
        · rintro _ _ ⟨i, rfl, rfl, hi⟩
          have hfl := ((show FewP l by assumption)).1
          refine TB.seq ?_
          refine TB.seqA (AWp.region ?_)
          refine zM (zI (i : Int)) ?_
          refine zM (.list false 57 (l.map encS)) ?_
          refine zr (zL (l.map encS) l.length Tryd.underlying48 (by simp)) ?_
          refine zr (zi (decide ((i : Int) < (l.length : Int)))) ?_
          refine zN ?_
          refine TB.cond (b := decide ((i : Int) < (l.length : Int))) rfl (fun h3 => ?_) (fun h3 => ?_)
          · skip
            have h3' : i < l.length := (by have hh := of_decide_eq_true h3; omega)
            clear h3
            refine TB.skip ?_
            refine TB.seq ?_
            refine TB.block ?_
            refine TB.seqA (AWp.anyR [0, 3, 6, 7, 8, 53, 67] [] (⟨[(0, .list false 57 (l.map encS)), (3, .pin (.list false 57 (l.map encS)) vo), (6, .list true 9 ((linesL l).map AV.str)), (7, zI (linesX l)), (8, zI (i : Int)), (53, zB (decide ((i : Int) < (l.length : Int)))), (67, zB false)], [], noM⟩) (by kernel_rfl) ?_ ?_)
            · skip
              skip
              refine SAny.share 2 #[true, true, true, true, true, true, true, true, true, true, false, false] (⟨[(0, .list false 57 (l.map encS)), (3, .pin (.list false 57 (l.map encS)) vo), (6, .list true 9 ((linesL l).map AV.str)), (7, zI (linesX l)), (8, zI (i : Int)), (50, zI (i : Int)), (51, .list false 57 (l.map encS)), (52, zI (l.length : Int)), (53, zB (decide ((i : Int) < (l.length : Int)))), (56, .list false 57 (l.map encS)), (57, zI (i : Int)), (58, .eptr (encS (l.getD i s0)) 0), (59, .eptr (encS (l.getD i s0)) 1), (61, .list false 57 (l.map encS)), (62, zI (i : Int)), (63, .eptr (encS (l.getD i s0)) 0), (64, .eptr (encS (l.getD i s0)) 1), (65, .list false 34 ((l.getD i s0).evs.map encE)), (60, .list false 34 ((l.getD i s0).evs.map encE))], [], noM⟩) ?_ (fun sh0 => ?_)
              · skip
                refine zq [10] ⟨⟨_, rfl, ?_⟩, trivial⟩
                · skip
                  refine zc [.list false 34 ((l.getD i s0).evs.map encE), .list false 34 ((l.getD i s0).evs.map encE)] Tryd.call31 (sameE_any (l.getD i s0).evs (by have := ((show FewP l by assumption).2 i (by omega)).1; omega) noM) ?_
                  rintro _ _ ⟨rfl, rfl⟩
                  refine zN ?_
                  refine zk 11 rfl (PReader.not (b := true) rfl rfl) ?_
                  exact SAny.done (by kernel_rfl) rfl
              refine zkm 0 (.list false 57 (l.map encS)) ?_
              refine zkm 1 (zI (i : Int)) ?_
              refine zk 2 rfl (PReader.elemAddr (m := i) rfl Tryd.underlying48 sizeOf_57 rfl rfl rfl (e := encS (l.getD i s0)) (encS_at (by omega))) ?_
              refine zk 3 rfl (PReader.fieldE rfl ⟨_, _, Tryd.underlying57, rfl, rfl, rfl, sizeOf_51⟩ (by decide) rfl) ?_
              refine zkm 5 (.list false 57 (l.map encS)) ?_
              refine zkm 6 (zI (i : Int)) ?_
              refine zk 7 rfl (PReader.elemAddr (m := i) rfl Tryd.underlying48 sizeOf_57 rfl rfl rfl (e := encS (l.getD i s0)) (encS_at (by omega))) ?_
              refine zk 8 rfl (PReader.fieldE rfl ⟨_, _, Tryd.underlying57, rfl, rfl, rfl, sizeOf_51⟩ (by decide) rfl) ?_
              refine zq [4, 9] ⟨⟨_, rfl, ?_⟩, ⟨_, rfl, ?_⟩, trivial⟩
              · skip
                refine zr (zlE (.list false 34 ((l.getD i s0).evs.map encE)) Tryd.underlying51 sizeOf_51) ?_
                refine zN ?_
                refine zq [9] ⟨⟨_, rfl, ?_⟩, trivial⟩
                · skip
                  refine zr (zlE (.list false 34 ((l.getD i s0).evs.map encE)) Tryd.underlying51 sizeOf_51) ?_
                  refine zN ?_
                  exact SAny.same [0, 3, 6, 7, 8, 50, 51, 52, 53, 56, 57, 58, 59, 61, 62, 63, 64, 65, 60] [] sh0 (by kernel_rfl) rfl
              · skip
                refine zr (zlE (.list false 34 ((l.getD i s0).evs.map encE)) Tryd.underlying51 sizeOf_51) ?_
                refine zN ?_
                refine zq [4] ⟨⟨_, rfl, ?_⟩, trivial⟩
                · skip
                  refine zr (zlE (.list false 34 ((l.getD i s0).evs.map encE)) Tryd.underlying51 sizeOf_51) ?_
                  refine zN ?_
                  exact SAny.same [0, 3, 6, 7, 8, 50, 51, 52, 53, 56, 57, 58, 59, 61, 62, 63, 64, 65, 60] [] sh0 (by kernel_rfl) rfl
            refine TB.cond (b := false) rfl (fun hx => by cases hx) (fun hx => ?_)
            refine TB.skip ?_
            refine TB.region ?_
            refine zM (zI (i : Int)) ?_
            refine zr (zw ((i : Int) + 1) ((i + 1 : Nat) : Int)) ?_
            refine zM (zI ((i + 1 : Nat) : Int)) ?_
            refine zN ?_
            exact ⟨_, by omega, i + 1, rfl, rfl, by omega⟩
          · skip
            have h3' : ¬ (i < l.length) := (by have hh := of_decide_eq_false h3; omega)
            clear h3
            refine TB.exit ?_
            refine TB.seq ?_
            refine TB.seqA (AWp.region ?_)
            refine zM (zI 0) ?_
            refine zN ?_
            refine TB.block ?_
            refine TB.unpin 3 rfl ?_
            refine TB.loopE [3, 6, 7, 9] [] (fun m s => ∃ (i : Nat) (ws : List (List UInt8)), m = (linesL l).length - i ∧ s = ⟨[(3, .lit vo), (6, .list true 9 (ws.map AV.str)), (7, zI (linesX l)), (9, zI (i : Int))], [], noM⟩ ∧ (i ≤ (linesL l).length) ∧ (ws.length = (linesL l).length)) ?_ ?_
            · exact ⟨_, 0, linesL l, rfl, rfl, Nat.zero_le _, rfl⟩
            · rintro _ _ ⟨i, ws, rfl, rfl, hi, hws⟩
              have hfl := few_gl (show FewP l by assumption)
              have hlln := lines_len l
              refine TB.seq ?_
              refine TB.seqA (AWp.region ?_)
              refine zM (zI (i : Int)) ?_
              refine zM (.list false 9 (ws.map AV.str)) ?_
              refine zr (zL (ws.map AV.str) ws.length Tryd.underlying23 (by simp)) ?_
              refine zr (zi (decide ((i : Int) < (ws.length : Int)))) ?_
              refine zN ?_
              refine TB.cond (b := decide ((i : Int) < (ws.length : Int))) rfl (fun h4 => ?_) (fun h4 => ?_)
              · skip
                have h4' : i < ws.length := (by have hh := of_decide_eq_true h4; omega)
                clear h4
                refine TB.skip ?_
                refine TB.seq ?_
                refine TB.block ?_
                refine TB.setElem hB (c := .str [63]) (ys := ((ws.set i [63]).map AV.str)) (m := i) [3, 6, 7, 9] .i64 ⟨rfl, rfl, rfl⟩ ⟨rfl, rfl, rfl⟩ ⟨rfl, rfl, rfl⟩ ⟨rfl, rfl, rfl⟩ (by decide) Tryd.underlying23 sizeOf_9 sizeOf_9 rfl rfl (by rw [List.length_map]; omega) rfl (fun _ _ => .str _) rfl rfl (strs_kd _) (by intro i hi hne; simp only [List.mem_cons, List.mem_nil_iff, or_false] at hi; rcases hi with rfl | rfl | rfl | rfl <;> first  | exact Clr.lit _ | exact Clr.str _ | exact absurd rfl hne) rfl (by rw [List.map_set]) ?_
                refine TB.region ?_
                refine zM (zI (i : Int)) ?_
                refine zr (zw ((i : Int) + 1) ((i + 1 : Nat) : Int)) ?_
                refine zM (zI ((i + 1 : Nat) : Int)) ?_
                refine zN ?_
                exact ⟨_, by omega, i + 1, ws.set i [63], rfl, rfl, by omega, by rw [List.length_set]; exact hws⟩
              · skip
                have h4' : ¬ (i < ws.length) := (by have hh := of_decide_eq_false h4; omega)
                clear h4
                refine TB.exit ?_
                refine TB.pin 3 (x := .list false 57 (l.map encS)) rfl rfl hvo ?_
                refine TB.seqA (AWp.region ?_)
                refine zM (.list false 57 (l.map encS)) ?_
                refine zc [.list false 57 (l.map encS)] Tryd.call28 (lines_any l (few_good (show FewP l by assumption) wn) (few_gl (show FewP l by assumption)) (few_l (show FewP l by assumption)) noM) ?_
                rintro _ _ ⟨rfl, rfl⟩
                refine zT (v := .tuple [.list true 9 ((linesL l).map AV.str), zI (linesX l)]) rfl ?_
                refine AOps.take trivial rfl (by decide) (by decide) rfl rfl (v := .list true 9 ((linesL l).map AV.str)) rfl (.inr ⟨_, _, rfl⟩) ?_
                refine zr (zx (zI (linesX l))) ?_
                refine zT (v := .list true 9 ((linesL l).map AV.str)) rfl ?_
                refine zM (zI (linesX l)) ?_
                refine zN ?_
                refine TB.seq ?_
                refine TB.seqA (AWp.region ?_)
                refine zM (zI 0) ?_
                refine zN ?_
                refine TB.block ?_
                refine TB.loopE [6, 7, 10, 11, 12] [] (fun m s => ∃ (u : Nat), m = (linesL l).length - u ∧ s = ⟨[(6, .list true 9 (ws.map AV.str)), (7, zI (linesX l)), (10, .list true 9 ((linesL l).map AV.str)), (11, zI (linesX l)), (12, zI (u : Int))], [], noM⟩ ∧ (u ≤ (linesL l).length)) ?_ ?_
                · exact ⟨_, 0, rfl, rfl, Nat.zero_le _⟩
                · rintro _ _ ⟨u, rfl, rfl, hu⟩
                  have hfl := few_gl (show FewP l by assumption)
                  have hlln := lines_len l
                  refine TB.seq ?_
                  refine TB.seqA (AWp.region ?_)
                  refine zM (zI (u : Int)) ?_
                  refine zM (.list false 9 ((linesL l).map AV.str)) ?_
                  refine zr (zL ((linesL l).map AV.str) ((linesL l).length) Tryd.underlying23 (by simp)) ?_
                  refine zr (zi (decide ((u : Int) < (((linesL l).length : Nat) : Int)))) ?_
                  refine zN ?_
                  refine TB.cond (b := decide ((u : Int) < (((linesL l).length : Nat) : Int))) rfl (fun h5 => ?_) (fun h5 => ?_)
                  · skip
                    have h5' : u < ((linesL l).length) := (by have hh := of_decide_eq_true h5; omega)
                    clear h5
                    refine TB.skip ?_
                    refine TB.seq ?_
                    refine TB.block ?_
                    refine TB.seqA (AWp.region ?_)
                    refine zM (.list false 9 ((linesL l).map AV.str)) ?_
                    refine zM (zI (u : Int)) ?_
                    refine zr (zel u (.str ((linesL l).getD u [])) Tryd.underlying23 sizeOf_9 (strs_at (by first | omega | (show _ < 0; omega)))) ?_
                    refine zr (zlE (.str ((linesL l).getD u [])) Tryd.underlying9 sizeOf_9) ?_
                    refine zr (zt (((linesL l).getD u []) == [63])) ?_
                    refine zN ?_
                    refine TB.cond (b := ((linesL l).getD u []) == [63]) rfl (fun h6 => ?_) (fun h6 => ?_)
                    · skip
                      have h6' : ((linesL l).getD u []) = [63] := (eq_of_beq h6)
                      clear h6
                      exfalso; exact no_q (by omega) (by assumption)
                    · skip
                      have h6' : ¬ (((linesL l).getD u []) = [63]) := (beq_eq_false_iff_ne.1 h6)
                      clear h6
                      refine TB.skip ?_
                      refine TB.region ?_
                      refine zM (zI (u : Int)) ?_
                      refine zr (zw ((u : Int) + 1) ((u + 1 : Nat) : Int)) ?_
                      refine zM (zI ((u + 1 : Nat) : Int)) ?_
                      refine zN ?_
                      exact ⟨_, by omega, u + 1, rfl, rfl, by omega⟩
                  · skip
                    have h5' : ¬ (u < ((linesL l).length)) := (by have hh := of_decide_eq_false h5; omega)
                    clear h5
                    refine TB.exit ?_
                    refine TB.regionJ [2, 6, 7, 10, 11, 12, 85] [] (fun z => ⟨(2, zB z) :: [(6, .list true 9 (ws.map AV.str)), (7, zI (linesX l)), (10, .list true 9 ((linesL l).map AV.str)), (11, zI (linesX l)), (12, zI (u : Int)), (85, zB (decide ((u : Int) < (((linesL l).length : Nat) : Int))))], [], noM⟩) (z := bif ((linesX l) == (linesX l)) then ((ws.length : Int) == (((linesL l).length : Nat) : Int)) else false) ?_ ?_
                    · skip
                      refine zM (zI (linesX l)) ?_
                      refine zM (zI (linesX l)) ?_
                      refine zr (zi ((linesX l) == (linesX l))) ?_
                      refine zM (zB ((linesX l) == (linesX l))) ?_
                      refine AOps.splitJ (t := 96) (b := (linesX l) == (linesX l)) (x := ((ws.length : Int) == (((linesL l).length : Nat) : Int))) (y := false) rfl (fun h7 => ?_) (fun h7 => ?_)
                      · skip
                        have h7' : (linesX l) = (linesX l) := (by have hh := eq_of_beq h7; omega)
                        clear h7
                        refine zM (.list false 9 (ws.map AV.str)) ?_
                        refine zr (zL (ws.map AV.str) ws.length Tryd.underlying23 (by simp)) ?_
                        refine zM (.list false 9 ((linesL l).map AV.str)) ?_
                        refine zr (zL ((linesL l).map AV.str) ((linesL l).length) Tryd.underlying23 (by simp)) ?_
                        refine zr (zi ((ws.length : Int) == (((linesL l).length : Nat) : Int))) ?_
                        refine zr (zp true (zB ((ws.length : Int) == (((linesL l).length : Nat) : Int)))) ?_
                        refine zM (zB ((ws.length : Int) == (((linesL l).length : Nat) : Int))) ?_
                        exact AOps.nil rfl
                      · skip
                        have h7' : ¬ ((linesX l) = (linesX l)) := (by have hh := beq_eq_false_iff_ne.1 h7; omega)
                        clear h7
                        refine zs ?_
                        refine zs ?_
                        refine zs ?_
                        refine zs ?_
                        refine zs ?_
                        refine zr (zp false (zB false)) ?_
                        refine zM (zB false) ?_
                        exact AOps.nil rfl
                    refine TB.ret ?_
                    exact ⟨.inl rfl, _, ResOf.one 2 (zB (bif ((linesX l) == (linesX l)) then ((ws.length : Int) == (((linesL l).length : Nat) : Int)) else false)) rfl rfl, congrArg (fun b => AV.lit (.bool b)) (lkeeps_ok hws)⟩

end Go.Proofs.YtlpihekflkjkfaaDoor
