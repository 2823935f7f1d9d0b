/- Cf9. -/
import Derived.Test.YtmmfkpbkacfegaaGreatDoorM8
import Derived.Test.YtmmfkpbkacfegaaGreatDoorM3
namespace Go.Proofs.YtmmfkpbkacfegaaGreatDoor
open Go.RowKit
theorem few2 {c e : Cfg} (h : (bif (!(decide ((c.thr.length : Int) ≤ 30))) then true else (!(decide ((e.thr.length : Int) ≤ 30)))) = false) : c.thr.length ≤ 30 ∧ e.thr.length ≤ 30 := by
  by_cases h1 : (c.thr.length : Int) ≤ 30
  · by_cases h2 : (e.thr.length : Int) ≤ 30
    · omega
    · simp [h1, h2] at h
  · simp [h1] at h
theorem crgt_t {c : Cfg} (hR : RightC c) (hl : c.thr.length ≤ 140737488355328) (M : Nat → Option (List AV)) : ACall Tryz.prog 16 [encC c] M (fun r M' => r = .lit (.bool true) ∧ M = M') :=
  (CRight_any c hl M).mono fun r M' ⟨h1, h2⟩ => ⟨h1.trans (by rw [decide_eq_true hR]), h2⟩
theorem crgt_f {c : Cfg} (hR : ¬ RightC c) (hl : c.thr.length ≤ 140737488355328) (M : Nat → Option (List AV)) : ACall Tryz.prog 16 [encC c] M (fun r M' => r = .lit (.bool false) ∧ M = M') :=
  (CRight_any c hl M).mono fun r M' ⟨h1, h2⟩ => ⟨h1.trans (by rw [decide_eq_false hR]), h2⟩
theorem rrgt_t {c : Cfg} (hR : RightC c) (hl : c.thr.length ≤ 140737488355328) (M : Nat → Option (List AV)) : ACall Tryz.prog 13 [encC c] M (fun r M' => r = .lit (.bool true) ∧ M = M') :=
  (RRight_any c hl M).mono fun r M' ⟨h1, h2⟩ => ⟨h1.trans (by rw [decide_eq_true hR]), h2⟩
theorem rrgt_f {c : Cfg} (hR : ¬ RightC c) (hl : c.thr.length ≤ 140737488355328) (M : Nat → Option (List AV)) : ACall Tryz.prog 13 [encC c] M (fun r M' => r = .lit (.bool false) ∧ M = M') :=
  (RRight_any c hl M).mono fun r M' ⟨h1, h2⟩ => ⟨h1.trans (by rw [decide_eq_false hR]), h2⟩
theorem cprt_t {c : Cfg} (hca : InR c) (hl : c.thr.length ≤ 140737488355328) (hR : RightC c) (M : Nat → Option (List AV)) : ACall Tryz.prog 15 [encC c] M (fun r M' => r = .tuple [.str (textC c), .lit (.int .i64 0)] ∧ M = M') :=
  (CPrint_any c hca hl M).mono fun _r _M' ⟨h1, h2⟩ => ⟨h1.trans (prt_ok hR).symm, h2⟩
theorem cprt_f {c : Cfg} (hca : InR c) (hl : c.thr.length ≤ 140737488355328) (hR : ¬ RightC c) (M : Nat → Option (List AV)) : ACall Tryz.prog 15 [encC c] M (fun r M' => r = .tuple [.str [], .lit (.int .i64 1)] ∧ M = M') :=
  (CPrint_any c hca hl M).mono fun _r _M' ⟨h1, h2⟩ => ⟨h1.trans (prt_no hR).symm, h2⟩

set_option maxRecDepth 20000 in
theorem ConfPrints_any (c e : Cfg) (hca : InR c) (M : Nat → Option (List AV)) : ACall Tryz.prog 4 [encC c, encC e] M (fun r M' => r = zB true ∧ M = M') := by
  refine ACall.of Tryz.func4 rfl (n := 62) rfl rfl rfl ?_
  refine zg ?_
  refine AOps.box trivial rfl (by decide) rfl (noL rfl) rfl (v := encC c) (.inl ⟨rfl, rfl⟩) rfl rfl (all_flat rfl) ?_
  refine AOps.freezeK 2 [0, 1, 2] [] (s' := ⟨[(0, encC c), (1, encC e), (2, .eptr (encC c) 0)], [], M⟩) rfl rfl rfl ?_
  refine AOps.box trivial rfl (by decide) rfl (noL rfl) rfl (v := encC e) (.inl ⟨rfl, rfl⟩) rfl rfl (all_flat rfl) ?_
  refine AOps.freezeK 3 [0, 1, 2, 3] [] (s' := ⟨[(0, encC c), (1, encC e), (2, .eptr (encC c) 0), (3, .eptr (encC e) 0)], [], M⟩) rfl rfl rfl ?_
  refine zM (zB false) ?_
  refine zN ?_
  refine AWp.seq ?_
  refine zj 18 [(0, encC c), (1, encC e), (2, .eptr (encC c) 0), (3, .eptr (encC e) 0), (4, zB false)] [] M (bif (!(decide ((c.thr.length : Int) ≤ 30))) then true else (!(decide ((e.thr.length : Int) ≤ 30)))) ?_ ?_
  · skip
    refine zc [] Tryz.call9 (cawake_any M) ?_
    rintro _ _ ⟨rfl, rfl⟩
    refine zr (zn true) ?_
    refine zM (zB false) ?_
    refine zr (zlE (encC c) Tryz.underlying27 sizeOf_27) ?_
    refine zc [encC c] Tryz.call14 (few_any c M) ?_
    rintro _ _ ⟨rfl, rfl⟩
    refine zr (zn (decide ((c.thr.length : Int) ≤ 30))) ?_
    refine zr (zp false (zB (!(decide ((c.thr.length : Int) ≤ 30))))) ?_
    refine zM (zB (!(decide ((c.thr.length : Int) ≤ 30)))) ?_
    refine AOps.splitJ (t := 14) (b := !(decide ((c.thr.length : Int) ≤ 30))) (x := true) (y := (!(decide ((e.thr.length : Int) ≤ 30)))) rfl (fun h1 => ?_) (fun h1 => ?_)
    · skip
      have h1' : ¬ c.thr.length ≤ 30 := (by have := of_decide_eq_false (bnot_t h1); omega)
      clear h1
      refine zs ?_
      refine zs ?_
      refine zs ?_
      refine zr (zp true (zB true)) ?_
      exact AOps.nil rfl
    · skip
      have h1' : c.thr.length ≤ 30 := (by have := of_decide_eq_true (bnot_f h1); omega)
      clear h1
      refine zr (zlE (encC e) Tryz.underlying27 sizeOf_27) ?_
      refine zc [encC e] Tryz.call14 (few_any e M) ?_
      rintro _ _ ⟨rfl, rfl⟩
      refine zr (zn (decide ((e.thr.length : Int) ≤ 30))) ?_
      refine zr (zp false (zB (!(decide ((e.thr.length : Int) ≤ 30))))) ?_
      exact AOps.nil rfl
  refine zC (b := bif (!(decide ((c.thr.length : Int) ≤ 30))) then true else (!(decide ((e.thr.length : Int) ≤ 30)))) rfl (fun h2 => ?_) (fun h2 => ?_)
  · skip
    have h2' : True := trivial
    clear h2
    refine zg ?_
    refine zc [] Tryz.call9 (cawake_any M) ?_
    rintro _ _ ⟨rfl, rfl⟩
    refine zM (zB true) ?_
    refine zN ?_
    refine AWp.ret ?_
    exact ⟨.inl rfl, _, ResOf.one 4 (zB true) rfl rfl, ⟨rfl, rfl⟩⟩
  · skip
    have h2' : c.thr.length ≤ 30 ∧ e.thr.length ≤ 30 := (few2 h2)
    clear h2
    refine AWp.skip ?_
    by_cases hR : RightC c
    · skip
      refine zg ?_
      refine zr (zlE (encC c) Tryz.underlying27 sizeOf_27) ?_
      refine zc [encC c] Tryz.call15 (cprt_t hca (by omega) hR M) ?_
      rintro _ _ ⟨rfl, rfl⟩
      refine zM (.tuple [.str (textC c), zI 0]) ?_
      refine zr (zx (.str (textC c))) ?_
      refine zr (zx (zI 0)) ?_
      refine zM (.str (textC c)) ?_
      refine zM (zI 0) ?_
      refine zN ?_
      refine AWp.seq ?_
      refine AWp.seq (AWp.anyV [18, 0, 1, 2, 3, 4, 5, 6, 44] [] (⟨[(18, zB (bif (!(decide ((c.thr.length : Int) ≤ 30))) then true else (!(decide ((e.thr.length : Int) ≤ 30))))), (0, encC c), (1, encC e), (2, .eptr (encC c) 0), (3, .eptr (encC e) 0), (4, zB false), (5, .str (textC c)), (6, zI 0), (44, zB (!(decide (c = c))))], [], M⟩) [[(25, encC c)], [(26, zB true)], [(27, encC c)], [(28, zB true)], [(29, zB false)], [(30, zB false)], [(31, encC c)], [(32, encC e)], [(33, zB (decide (c = e)))], [(34, encC c)], [(35, encC e)], [(36, zB (decide (c = e)))], [(37, zB false)], [(38, zB false)], [(39, zB false)], [(40, encC c)], [(41, encC c)], [(42, zB (decide (c = c)))], [(43, zB (!(decide (c = c))))], [(44, zB (!(decide (c = c))))]] [[(2, none, .eptr (encC c) 0)], [(25, some 0, encC c)], [(2, none, .eptr (encC c) 0)], [(27, some 2, encC c)], [(26, some 1, zB true), (28, some 3, zB true)], [(29, some 4, zB false)], [(2, none, .eptr (encC c) 0), (30, some 5, zB false)], [(3, none, .eptr (encC e) 0), (30, some 5, zB false)], [(30, some 5, zB false), (31, some 6, encC c), (32, some 7, encC e)], [(2, none, .eptr (encC c) 0), (30, some 5, zB false)], [(3, none, .eptr (encC e) 0), (30, some 5, zB false)], [(30, some 5, zB false), (34, some 9, encC c), (35, some 10, encC e)], [(30, some 5, zB false), (33, some 8, zB (decide (c = e))), (36, some 11, zB (decide (c = e)))], [(30, some 5, zB false), (37, some 12, zB false)], [(38, some 13, zB false)], [(2, none, .eptr (encC c) 0), (39, some 14, zB false)], [(2, none, .eptr (encC c) 0), (39, some 14, zB false)], [(39, some 14, zB false), (40, some 15, encC c), (41, some 16, encC c)], [(39, some 14, zB false), (42, some 17, zB (decide (c = c)))], [(39, some 14, zB false), (43, some 18, zB (!(decide (c = c))))]] ?_ ?_)
      · skip
        refine hop1 (fun fr h => ?_) ?_
        · obtain ⟨_h0, -⟩ := h
          refine zr (zlE (encC c) Tryz.underlying27 sizeOf_27) ?_
          exact zN rfl
        refine hop1 (fun fr h => ?_) ?_
        · obtain ⟨_h0, -⟩ := h
          refine zc [encC c] Tryz.call16 (crgt_t hR (by omega) M) ?_
          rintro _ _ ⟨rfl, rfl⟩
          exact zN rfl
        refine hop1 (fun fr h => ?_) ?_
        · obtain ⟨_h0, -⟩ := h
          refine zr (zlE (encC c) Tryz.underlying27 sizeOf_27) ?_
          exact zN rfl
        refine hop1 (fun fr h => ?_) ?_
        · obtain ⟨_h0, -⟩ := h
          refine zc [encC c] Tryz.call13 (rrgt_t hR (by omega) M) ?_
          rintro _ _ ⟨rfl, rfl⟩
          exact zN rfl
        refine hop1 (fun fr h => ?_) ?_
        · obtain ⟨_h0, _h1, -⟩ := h
          refine zr (Reader.bools (a := true) (b := true) (r := false) rfl Tryz.underlying4 (by first | rfl | assumption) (by first | rfl | assumption) (.inr ⟨rfl, (by simp)⟩)) ?_
          exact zN rfl
        refine hop1 (fun fr h => ?_) ?_
        · obtain ⟨_h0, -⟩ := h
          refine zM (zB false) ?_
          exact zN rfl
        refine hop1 (fun fr h => ?_) ?_
        · obtain ⟨_h0, _h1, -⟩ := h
          refine zr (zlE (encC c) Tryz.underlying27 sizeOf_27) (hg := ⟨_, rfl, (by first | rfl | assumption)⟩) ?_
          exact zN rfl
        refine hop1 (fun fr h => ?_) ?_
        · obtain ⟨_h0, _h1, -⟩ := h
          refine zr (zlE (encC e) Tryz.underlying27 sizeOf_27) (hg := ⟨_, rfl, (by first | rfl | assumption)⟩) ?_
          exact zN rfl
        refine hop1 (fun fr h => ?_) ?_
        · obtain ⟨_h0, _h1, _h2, -⟩ := h
          refine zc [encC c, encC e] Tryz.call17 (CSame_any c e (by first | omega | (simp only [List.length_nil]; omega) | assumption) M) (hg := ⟨_, rfl, (by first | rfl | assumption)⟩) ?_
          rintro _ _ ⟨rfl, rfl⟩
          exact zN rfl
        refine hop1 (fun fr h => ?_) ?_
        · obtain ⟨_h0, _h1, -⟩ := h
          refine zr (zlE (encC c) Tryz.underlying27 sizeOf_27) (hg := ⟨_, rfl, (by first | rfl | assumption)⟩) ?_
          exact zN rfl
        refine hop1 (fun fr h => ?_) ?_
        · obtain ⟨_h0, _h1, -⟩ := h
          refine zr (zlE (encC e) Tryz.underlying27 sizeOf_27) (hg := ⟨_, rfl, (by first | rfl | assumption)⟩) ?_
          exact zN rfl
        refine hop1 (fun fr h => ?_) ?_
        · obtain ⟨_h0, _h1, _h2, -⟩ := h
          refine zc [encC c, encC e] Tryz.call12 (RSame_any c e (by first | omega | (simp only [List.length_nil]; omega) | assumption) M) (hg := ⟨_, rfl, (by first | rfl | assumption)⟩) ?_
          rintro _ _ ⟨rfl, rfl⟩
          exact zN rfl
        refine hop1 (fun fr h => ?_) ?_
        · obtain ⟨_h0, _h1, _h2, -⟩ := h
          refine zr (Reader.bools (a := decide (c = e)) (b := decide (c = e)) (r := false) rfl Tryz.underlying4 (by first | rfl | assumption) (by first | rfl | assumption) (.inr ⟨rfl, (by simp)⟩)) (hg := ⟨_, rfl, (by first | rfl | assumption)⟩) ?_
          exact zN rfl
        refine hop1 (fun fr h => ?_) ?_
        · obtain ⟨_h0, _h1, -⟩ := h
          refine zr (zp false (zB false)) ?_
          exact zN rfl
        refine hop1 (fun fr h => ?_) ?_
        · obtain ⟨_h0, -⟩ := h
          refine zM (zB false) ?_
          exact zN rfl
        refine hop1 (fun fr h => ?_) ?_
        · obtain ⟨_h0, _h1, -⟩ := h
          refine zr (zlE (encC c) Tryz.underlying27 sizeOf_27) (hg := ⟨_, rfl, (by first | rfl | assumption)⟩) ?_
          exact zN rfl
        refine hop1 (fun fr h => ?_) ?_
        · obtain ⟨_h0, _h1, -⟩ := h
          refine zr (zlE (encC c) Tryz.underlying27 sizeOf_27) (hg := ⟨_, rfl, (by first | rfl | assumption)⟩) ?_
          exact zN rfl
        refine hop1 (fun fr h => ?_) ?_
        · obtain ⟨_h0, _h1, _h2, -⟩ := h
          refine zc [encC c, encC c] Tryz.call17 (CSame_any c c (by first | omega | (simp only [List.length_nil]; omega) | assumption) M) (hg := ⟨_, rfl, (by first | rfl | assumption)⟩) ?_
          rintro _ _ ⟨rfl, rfl⟩
          exact zN rfl
        refine hop1 (fun fr h => ?_) ?_
        · obtain ⟨_h0, _h1, -⟩ := h
          refine zr (zn (decide (c = c))) (hg := ⟨_, rfl, (by first | rfl | assumption)⟩) ?_
          exact zN rfl
        refine hop1 (fun fr h => ?_) ?_
        · obtain ⟨_h0, _h1, -⟩ := h
          refine zr (zp false (zB (!(decide (c = c))))) ?_
          exact zN rfl
        exact hop0
      refine zC (b := !(decide (c = c))) rfl (fun h3 => ?_) (fun h3 => ?_)
      · skip
        have h3' : ¬ c = c := (of_decide_eq_false (bnot_t h3))
        clear h3
        exfalso; simp_all
      · skip
        have h3' : c = c := (of_decide_eq_true (bnot_f h3))
        clear h3
        refine AWp.skip ?_
        refine AWp.seq ?_
        refine zg ?_
        refine zr (zlE (encC c) Tryz.underlying27 sizeOf_27) ?_
        refine zc [encC c] Tryz.call13 (rrgt_t hR (by omega) M) ?_
        rintro _ _ ⟨rfl, rfl⟩
        refine zr (zn true) ?_
        refine zN ?_
        refine AWp.cond (b := false) rfl (fun hx => by cases hx) (fun hx => ?_)
        refine AWp.skip ?_
        refine zj 4 [(18, zB (bif (!(decide ((c.thr.length : Int) ≤ 30))) then true else (!(decide ((e.thr.length : Int) ≤ 30))))), (0, encC c), (1, encC e), (2, .eptr (encC c) 0), (3, .eptr (encC e) 0), (5, .str (textC c)), (6, zI 0), (44, zB (!(decide (c = c)))), (47, zB false)] [] M ((textC c) == (textC c)) ?_ ?_
        · skip
          refine zM (zI 0) ?_
          refine zr (zi true) ?_
          refine zM (zB true) ?_
          refine zM (.str (textC c)) ?_
          refine zr (zlE (encC c) Tryz.underlying27 sizeOf_27) ?_
          refine zc [encC c] Tryz.call18 (rCPrint_any c (prC hR) hca M) ?_
          rintro _ _ ⟨rfl, rfl⟩
          refine zr (zt ((textC c) == (textC c))) ?_
          refine zr (zp true (zB ((textC c) == (textC c)))) ?_
          refine zM (zB ((textC c) == (textC c))) ?_
          exact AOps.nil rfl
        refine AWp.ret ?_
        exact ⟨.inl rfl, _, ResOf.one 4 (zB ((textC c) == (textC c))) rfl rfl, ⟨congrArg (fun b => AV.lit (.bool b)) (by simp), rfl⟩⟩
    · skip
      refine zg ?_
      refine zr (zlE (encC c) Tryz.underlying27 sizeOf_27) ?_
      refine zc [encC c] Tryz.call15 (cprt_f hca (by omega) hR M) ?_
      rintro _ _ ⟨rfl, rfl⟩
      refine zM (.tuple [.str [], zI 1]) ?_
      refine zr (zx (.str [])) ?_
      refine zr (zx (zI 1)) ?_
      refine zM (.str []) ?_
      refine zM (zI 1) ?_
      refine zN ?_
      refine AWp.seq ?_
      refine AWp.seq (AWp.anyV [18, 0, 1, 2, 3, 4, 5, 6, 44] [] (⟨[(18, zB (bif (!(decide ((c.thr.length : Int) ≤ 30))) then true else (!(decide ((e.thr.length : Int) ≤ 30))))), (0, encC c), (1, encC e), (2, .eptr (encC c) 0), (3, .eptr (encC e) 0), (4, zB false), (5, .str []), (6, zI 1), (44, zB (!(decide (c = c))))], [], M⟩) [[(25, encC c)], [(26, zB false)], [(27, encC c)], [(28, zB false)], [(29, zB false)], [(30, zB false)], [(31, encC c)], [(32, encC e)], [(33, zB (decide (c = e)))], [(34, encC c)], [(35, encC e)], [(36, zB (decide (c = e)))], [(37, zB false)], [(38, zB false)], [(39, zB false)], [(40, encC c)], [(41, encC c)], [(42, zB (decide (c = c)))], [(43, zB (!(decide (c = c))))], [(44, zB (!(decide (c = c))))]] [[(2, none, .eptr (encC c) 0)], [(25, some 0, encC c)], [(2, none, .eptr (encC c) 0)], [(27, some 2, encC c)], [(26, some 1, zB false), (28, some 3, zB false)], [(29, some 4, zB false)], [(2, none, .eptr (encC c) 0), (30, some 5, zB false)], [(3, none, .eptr (encC e) 0), (30, some 5, zB false)], [(30, some 5, zB false), (31, some 6, encC c), (32, some 7, encC e)], [(2, none, .eptr (encC c) 0), (30, some 5, zB false)], [(3, none, .eptr (encC e) 0), (30, some 5, zB false)], [(30, some 5, zB false), (34, some 9, encC c), (35, some 10, encC e)], [(30, some 5, zB false), (33, some 8, zB (decide (c = e))), (36, some 11, zB (decide (c = e)))], [(30, some 5, zB false), (37, some 12, zB false)], [(38, some 13, zB false)], [(2, none, .eptr (encC c) 0), (39, some 14, zB false)], [(2, none, .eptr (encC c) 0), (39, some 14, zB false)], [(39, some 14, zB false), (40, some 15, encC c), (41, some 16, encC c)], [(39, some 14, zB false), (42, some 17, zB (decide (c = c)))], [(39, some 14, zB false), (43, some 18, zB (!(decide (c = c))))]] ?_ ?_)
      · skip
        refine hop1 (fun fr h => ?_) ?_
        · obtain ⟨_h0, -⟩ := h
          refine zr (zlE (encC c) Tryz.underlying27 sizeOf_27) ?_
          exact zN rfl
        refine hop1 (fun fr h => ?_) ?_
        · obtain ⟨_h0, -⟩ := h
          refine zc [encC c] Tryz.call16 (crgt_f hR (by omega) M) ?_
          rintro _ _ ⟨rfl, rfl⟩
          exact zN rfl
        refine hop1 (fun fr h => ?_) ?_
        · obtain ⟨_h0, -⟩ := h
          refine zr (zlE (encC c) Tryz.underlying27 sizeOf_27) ?_
          exact zN rfl
        refine hop1 (fun fr h => ?_) ?_
        · obtain ⟨_h0, -⟩ := h
          refine zc [encC c] Tryz.call13 (rrgt_f hR (by omega) M) ?_
          rintro _ _ ⟨rfl, rfl⟩
          exact zN rfl
        refine hop1 (fun fr h => ?_) ?_
        · obtain ⟨_h0, _h1, -⟩ := h
          refine zr (Reader.bools (a := false) (b := false) (r := false) rfl Tryz.underlying4 (by first | rfl | assumption) (by first | rfl | assumption) (.inr ⟨rfl, (by simp)⟩)) ?_
          exact zN rfl
        refine hop1 (fun fr h => ?_) ?_
        · obtain ⟨_h0, -⟩ := h
          refine zM (zB false) ?_
          exact zN rfl
        refine hop1 (fun fr h => ?_) ?_
        · obtain ⟨_h0, _h1, -⟩ := h
          refine zr (zlE (encC c) Tryz.underlying27 sizeOf_27) (hg := ⟨_, rfl, (by first | rfl | assumption)⟩) ?_
          exact zN rfl
        refine hop1 (fun fr h => ?_) ?_
        · obtain ⟨_h0, _h1, -⟩ := h
          refine zr (zlE (encC e) Tryz.underlying27 sizeOf_27) (hg := ⟨_, rfl, (by first | rfl | assumption)⟩) ?_
          exact zN rfl
        refine hop1 (fun fr h => ?_) ?_
        · obtain ⟨_h0, _h1, _h2, -⟩ := h
          refine zc [encC c, encC e] Tryz.call17 (CSame_any c e (by first | omega | (simp only [List.length_nil]; omega) | assumption) M) (hg := ⟨_, rfl, (by first | rfl | assumption)⟩) ?_
          rintro _ _ ⟨rfl, rfl⟩
          exact zN rfl
        refine hop1 (fun fr h => ?_) ?_
        · obtain ⟨_h0, _h1, -⟩ := h
          refine zr (zlE (encC c) Tryz.underlying27 sizeOf_27) (hg := ⟨_, rfl, (by first | rfl | assumption)⟩) ?_
          exact zN rfl
        refine hop1 (fun fr h => ?_) ?_
        · obtain ⟨_h0, _h1, -⟩ := h
          refine zr (zlE (encC e) Tryz.underlying27 sizeOf_27) (hg := ⟨_, rfl, (by first | rfl | assumption)⟩) ?_
          exact zN rfl
        refine hop1 (fun fr h => ?_) ?_
        · obtain ⟨_h0, _h1, _h2, -⟩ := h
          refine zc [encC c, encC e] Tryz.call12 (RSame_any c e (by first | omega | (simp only [List.length_nil]; omega) | assumption) M) (hg := ⟨_, rfl, (by first | rfl | assumption)⟩) ?_
          rintro _ _ ⟨rfl, rfl⟩
          exact zN rfl
        refine hop1 (fun fr h => ?_) ?_
        · obtain ⟨_h0, _h1, _h2, -⟩ := h
          refine zr (Reader.bools (a := decide (c = e)) (b := decide (c = e)) (r := false) rfl Tryz.underlying4 (by first | rfl | assumption) (by first | rfl | assumption) (.inr ⟨rfl, (by simp)⟩)) (hg := ⟨_, rfl, (by first | rfl | assumption)⟩) ?_
          exact zN rfl
        refine hop1 (fun fr h => ?_) ?_
        · obtain ⟨_h0, _h1, -⟩ := h
          refine zr (zp false (zB false)) ?_
          exact zN rfl
        refine hop1 (fun fr h => ?_) ?_
        · obtain ⟨_h0, -⟩ := h
          refine zM (zB false) ?_
          exact zN rfl
        refine hop1 (fun fr h => ?_) ?_
        · obtain ⟨_h0, _h1, -⟩ := h
          refine zr (zlE (encC c) Tryz.underlying27 sizeOf_27) (hg := ⟨_, rfl, (by first | rfl | assumption)⟩) ?_
          exact zN rfl
        refine hop1 (fun fr h => ?_) ?_
        · obtain ⟨_h0, _h1, -⟩ := h
          refine zr (zlE (encC c) Tryz.underlying27 sizeOf_27) (hg := ⟨_, rfl, (by first | rfl | assumption)⟩) ?_
          exact zN rfl
        refine hop1 (fun fr h => ?_) ?_
        · obtain ⟨_h0, _h1, _h2, -⟩ := h
          refine zc [encC c, encC c] Tryz.call17 (CSame_any c c (by first | omega | (simp only [List.length_nil]; omega) | assumption) M) (hg := ⟨_, rfl, (by first | rfl | assumption)⟩) ?_
          rintro _ _ ⟨rfl, rfl⟩
          exact zN rfl
        refine hop1 (fun fr h => ?_) ?_
        · obtain ⟨_h0, _h1, -⟩ := h
          refine zr (zn (decide (c = c))) (hg := ⟨_, rfl, (by first | rfl | assumption)⟩) ?_
          exact zN rfl
        refine hop1 (fun fr h => ?_) ?_
        · obtain ⟨_h0, _h1, -⟩ := h
          refine zr (zp false (zB (!(decide (c = c))))) ?_
          exact zN rfl
        exact hop0
      refine zC (b := !(decide (c = c))) rfl (fun h4 => ?_) (fun h4 => ?_)
      · skip
        have h4' : ¬ c = c := (of_decide_eq_false (bnot_t h4))
        clear h4
        exfalso; simp_all
      · skip
        have h4' : c = c := (of_decide_eq_true (bnot_f h4))
        clear h4
        refine AWp.skip ?_
        refine AWp.seq ?_
        refine zg ?_
        refine zr (zlE (encC c) Tryz.underlying27 sizeOf_27) ?_
        refine zc [encC c] Tryz.call13 (rrgt_f hR (by omega) M) ?_
        rintro _ _ ⟨rfl, rfl⟩
        refine zr (zn false) ?_
        refine zN ?_
        refine AWp.cond (b := true) rfl (fun hx => ?_) (fun hx => by cases hx)
        refine zj 4 [(18, zB (bif (!(decide ((c.thr.length : Int) ≤ 30))) then true else (!(decide ((e.thr.length : Int) ≤ 30))))), (0, encC c), (1, encC e), (2, .eptr (encC c) 0), (3, .eptr (encC e) 0), (5, .str []), (6, zI 1), (44, zB (!(decide (c = c)))), (47, zB true)] [] M true ?_ ?_
        · skip
          refine zM (zI 1) ?_
          refine zr (zi true) ?_
          refine zM (zB true) ?_
          refine zM (.str []) ?_
          refine zr (zt true) ?_
          refine zr (zp true (zB true)) ?_
          refine zM (zB true) ?_
          exact AOps.nil rfl
        refine AWp.ret ?_
        exact ⟨.inl rfl, _, ResOf.one 4 (zB true) rfl rfl, ⟨rfl, rfl⟩⟩
end Go.Proofs.YtmmfkpbkacfegaaGreatDoor
