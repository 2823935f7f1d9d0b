/- Cf11. -/
import Derived.Test.YtmmfkpbkacfegaaGreatDoorM8
import Derived.Test.YtmmfkpbkacfegaaGreatDoorM9
import Derived.Test.YtmmfkpbkacfegaaGreatDoorM3
namespace Go.Proofs.YtmmfkpbkacfegaaGreatDoor
open Go.RowKit
theorem few3 {c : Cfg} (h : (bif (!(decide ((c.thr.length : Int) ≤ 30))) then true else (!(decide (RightC c)))) = false) : c.thr.length ≤ 30 ∧ RightC c := by
  by_cases h1 : (c.thr.length : Int) ≤ 30
  · by_cases h2 : RightC c
    · exact ⟨by omega, h2⟩
    · simp [h1, h2] at h
  · simp [h1] at h
theorem read_of {b : List UInt8} {n : Nat} {e : Int} (hl : b.length ≤ 140737488355328) (h1 : cfE b = e) (h2 : cfN b = n) (M : Nat → Option (List AV)) : ACall Tryz.prog 10 [.list false 5 (byteAVs b)] M (fun r M' => r = .tuple [encC (cfC b), .lit (.int .i64 (n : Int)), .lit (.int .i64 e)] ∧ M = M') :=
  (CRead_any b hl M).mono fun _ _ ⟨a1, a2⟩ => ⟨a1.trans (by rw [h1, h2]), a2⟩
theorem b10 {x : UInt8} (h : x.toNat = 10) : x = 10 := UInt8.toNat_inj.1 h
theorem nb10 {x : UInt8} (h : ¬ x.toNat = 10) : x ≠ 10 := fun e => h (by rw [e]; rfl)
theorem parts_len {c : Cfg} {j : Nat} (h : (textC c).length ≤ 1400) : (jT ((linesC c).take j)).length ≤ 1400 ∧ (jT ((linesC c).drop j)).length ≤ 1400 := by
  have e2 : (jT ((linesC c).take j)).length + (jT ((linesC c).drop j)).length = (textC c).length := by
    rw [← List.length_append, ← jT_app, List.take_append_drop]; rfl
  omega

theorem turn_t {i n j t : Nat} (h : (bif decide ((i : Int) < (n : Int)) then decide ((j : Int) < ((t % 3 : Nat) : Int)) else false) = true) : i < n ∧ j < t % 3 := by
  by_cases h1 : (i : Int) < (n : Int)
  · rw [decide_eq_true h1] at h
    have h2 := of_decide_eq_true h
    omega
  · rw [decide_eq_false h1] at h; cases h
theorem cprt4 {c : Cfg} (hca : InR c) (hl : c.thr.length ≤ 140737488355328) (hR : RightC c) (M : Nat → Option (List AV)) : ACall Tryz.prog 15 [encC c] M (fun r M' => r = .tuple [.str (textC c), .lit (.int .i64 0)] ∧ M = M') :=
  (CPrint_any c hca hl M).mono fun _ _ ⟨h1, h2⟩ => ⟨h1.trans (prt_ok hR).symm, h2⟩
theorem rsame4 {c : Cfg} (hl : c.thr.length ≤ 140737488355328) (M : Nat → Option (List AV)) : ACall Tryz.prog 12 [encC c, encC c] M (fun r M' => r = .lit (.bool true) ∧ M = M') :=
  (RSame_any c c hl M).mono fun _ _ ⟨h1, h2⟩ => ⟨h1.trans (by rw [decide_eq_true rfl]), h2⟩
theorem rd_back {c : Cfg} (hR : RightC c) (hi : InR c) (M : Nat → Option (List AV)) : ACall Tryz.prog 10 [.list false 5 (byteAVs (textC c))] M (fun r M' => r = .tuple [encC c, .lit (.int .i64 0), .lit (.int .i64 0)] ∧ M = M') := by
  obtain ⟨h1, h2, h3⟩ := back_C hR hi
  have h := read_of (by have := text_len (prC hR) hi; omega) h1 h2 M
  rw [h3] at h
  exact h
theorem rd_turn {c : Cfg} (hR : RightC c) (hi : InR c) {j : Nat} (hj : j < 2) (M : Nat → Option (List AV)) : ACall Tryz.prog 10 [.list false 5 (byteAVs (jT ((linesC c).drop (j + 1)) ++ jT ((linesC c).take (j + 1))))] M (fun r M' => r = .tuple [encC c, .lit (.int .i64 ((cfN (jT ((linesC c).drop (j + 1)) ++ jT ((linesC c).take (j + 1))) : Nat) : Int)), .lit (.int .i64 0)] ∧ M = M') := by
  obtain ⟨h1, h3⟩ := turn_C hR hi (k := j + 1) (by omega)
  have ⟨l1, l2⟩ := parts_len (j := j + 1) (text_len (prC hR) hi)
  have h := read_of (by rw [List.length_append]; omega) h1 rfl M
  rw [h3] at h
  exact h

set_option maxRecDepth 20000 in
theorem ConfBack_any (c : Cfg) (hca : InR c) (t : Nat) (_ht : t ≤ 255) (M : Nat → Option (List AV)) : ACall Tryz.prog 5 [encC c, .lit (.int .u8 (t : Int))] M (fun r M' => r = zB true ∧ M = M') := by
  refine ACall.of Tryz.func5 rfl (n := 102) rfl rfl rfl ?_
  refine zg ?_
  refine AOps.box trivial rfl (by decide) rfl (noL rfl) rfl (v := encC c) (.inl ⟨rfl, rfl⟩) rfl rfl (all_flat rfl) ?_
  refine AOps.freezeK 2 [0, 1, 2] [] (s' := ⟨[(0, encC c), (1, .lit (.int .u8 (t : Int))), (2, .eptr (encC c) 0)], [], M⟩) rfl rfl rfl ?_
  refine zM (zB false) ?_
  refine zN ?_
  refine AWp.seq ?_
  refine zj 26 [(0, encC c), (1, .lit (.int .u8 (t : Int))), (2, .eptr (encC c) 0), (4, zB false)] [] M (bif (!(decide ((c.thr.length : Int) ≤ 30))) then true else (!(decide (RightC c)))) ?_ ?_
  · skip
    refine zc [] Tryz.call9 (cawake_any M) ?_
    rintro _ _ ⟨rfl, rfl⟩
    refine zr (zn true) ?_
    refine zM (zB false) ?_
    refine zr (zlE (encC c) Tryz.underlying27 sizeOf_27) ?_
    refine zc [encC c] Tryz.call14 (few_any c M) ?_
    rintro _ _ ⟨rfl, rfl⟩
    refine zr (zn (decide ((c.thr.length : Int) ≤ 30))) ?_
    refine zr (zp false (zB (!(decide ((c.thr.length : Int) ≤ 30))))) ?_
    refine zM (zB (!(decide ((c.thr.length : Int) ≤ 30)))) ?_
    refine AOps.splitJ (t := 22) (b := !(decide ((c.thr.length : Int) ≤ 30))) (x := true) (y := (!(decide (RightC c)))) rfl (fun h1 => ?_) (fun h1 => ?_)
    · skip
      have h1' : ¬ c.thr.length ≤ 30 := (by have := of_decide_eq_false (bnot_t h1); omega)
      clear h1
      refine zs ?_
      refine zs ?_
      refine zs ?_
      refine zr (zp true (zB true)) ?_
      exact AOps.nil rfl
    · skip
      have h1' : c.thr.length ≤ 30 := (by have := of_decide_eq_true (bnot_f h1); omega)
      clear h1
      refine zr (zlE (encC c) Tryz.underlying27 sizeOf_27) ?_
      refine zc [encC c] Tryz.call16 (CRight_any c (by first | omega | (simp only [List.length_nil]; omega) | assumption) M) ?_
      rintro _ _ ⟨rfl, rfl⟩
      refine zr (zn (decide (RightC c))) ?_
      refine zr (zp false (zB (!(decide (RightC c))))) ?_
      exact AOps.nil rfl
  refine zC (b := bif (!(decide ((c.thr.length : Int) ≤ 30))) then true else (!(decide (RightC c)))) rfl (fun h2 => ?_) (fun h2 => ?_)
  · skip
    have h2' : True := trivial
    clear h2
    refine zg ?_
    refine zc [] Tryz.call9 (cawake_any M) ?_
    rintro _ _ ⟨rfl, rfl⟩
    refine zM (zB true) ?_
    refine zN ?_
    refine AWp.ret ?_
    exact ⟨.inl rfl, _, ResOf.one 4 (zB true) rfl rfl, ⟨rfl, rfl⟩⟩
  · skip
    have h2' : c.thr.length ≤ 30 ∧ RightC c := (few3 h2)
    clear h2
    have hR := h2'.2
    have hp := prC hR
    have htl := text_len hp hca
    have hl30 := h2'.1
    refine AWp.skip ?_
    refine zg ?_
    refine zr (zlE (encC c) Tryz.underlying27 sizeOf_27) ?_
    refine zc [encC c] Tryz.call15 (cprt4 hca (by omega) hR M) ?_
    rintro _ _ ⟨rfl, rfl⟩
    refine zM (.tuple [.str (textC c), zI 0]) ?_
    refine zr (zx (.str (textC c))) ?_
    refine zr (zx (zI 0)) ?_
    refine zM (.str (textC c)) ?_
    refine zM (zI 0) ?_
    refine zN ?_
    refine zg ?_
    refine zM (.str (textC c)) ?_
    refine AOps.toBytes (_D := .bool) trivial rfl (by decide) rfl Tryz.underlying9 Tryz.underlying22 Tryz.underlying5 rfl (sizeOf_5) (by first | omega | (simp; omega)) ?_
    refine zc [.list false 5 (byteAVs (textC c))] Tryz.call10 (rd_back hR hca M) ?_
    rintro _ _ ⟨rfl, rfl⟩
    refine zM (.tuple [encC c, zI 0, zI 0]) ?_
    refine zr (zx (encC c)) ?_
    refine zr (zx (zI 0)) ?_
    refine zr (zx (zI 0)) ?_
    refine zal [40] zero_27 [zI 0, zI 0, zI 0, zI 0, zI 0, zI 0, .list false 40 [], zI 0, zI 0, zI 0, zI 0] ?_
    refine zst sizeOf_27 (encC c) ?_
    refine zM (zI 0) ?_
    refine zM (zI 0) ?_
    refine zN ?_
    refine AWp.seq ?_
    refine zj 55 [(26, zB (bif (!(decide ((c.thr.length : Int) ≤ 30))) then true else (!(decide (RightC c))))), (0, encC c), (1, .lit (.int .u8 (t : Int))), (2, .eptr (encC c) 0), (4, zB false), (5, .str (textC c)), (6, zI 0), (7, .lptr 7 0), (8, zI 0), (9, zI 0)] [(7, [zI c.c0, zI c.c1, zI c.c2, zI c.a0, zI c.a1, zI c.a2, .list false 40 (c.thr.map encT), zI c.per, zI c.ret, zI c.age, zI c.ded])] M false ?_ ?_
    · skip
      refine zM (zI 0) ?_
      refine zr (zi false) ?_
      refine zM (zB false) ?_
      refine zM (zI 0) ?_
      refine zr (zi false) ?_
      refine zr (zp false (zB false)) ?_
      refine zM (zB false) ?_
      refine zM (zI 0) ?_
      refine zr (zi false) ?_
      refine zr (zp false (zB false)) ?_
      refine zM (zB false) ?_
      refine zr (zlE (encC c) Tryz.underlying27 sizeOf_27) ?_
      refine zr (zlL (.agg [zI c.c0, zI c.c1, zI c.c2, zI c.a0, zI c.a1, zI c.a2, .list false 40 (c.thr.map encT), zI c.per, zI c.ret, zI c.age, zI c.ded]) Tryz.underlying27 sizeOf_27) ?_
      refine zc [encC c, encC c] Tryz.call12 (rsame4 (c := c) (by omega) M) ?_
      rintro _ _ ⟨rfl, rfl⟩
      refine zr (zn true) ?_
      refine zr (zp false (zB false)) ?_
      exact AOps.nil rfl
    refine AWp.cond (b := false) rfl (fun hx => by cases hx) (fun hx => ?_)
    refine AWp.skip ?_
    refine zg ?_
    refine zM (zI 0) ?_
    refine zN ?_
    refine AWp.seq ?_
    refine zg ?_
    refine zM (zI 0) ?_
    refine zN ?_
    refine AWp.block ?_
    refine AWp.loopE [1, 2, 4, 5, 10, 11] [] (fun m s => ∃ (i F j : Nat), m = (textC c).length - i ∧ s = ⟨[(1, .lit (.int .u8 (t : Int))), (2, .eptr (encC c) 0), (4, zB false), (5, .str (textC c)), (10, zI (j : Int)), (11, zI (i : Int))], [], M⟩ ∧ (i ≤ (textC c).length) ∧ (Posn (linesC c) j F i) ∧ (j ≤ t % 3)) ?_ ?_
    · exact ⟨_, 0, 0, 0, rfl, rfl, Nat.zero_le _, pos_0 _, Nat.zero_le _⟩
    · rintro _ _ ⟨i, F, j, rfl, rfl, hi, hpos, hj3⟩
      have hF := hpos.2.2.1
      have ⟨hl1, hl2⟩ := parts_len (j := j + 1) htl
      refine AWp.seq ?_
      refine zj 66 [(1, .lit (.int .u8 (t : Int))), (2, .eptr (encC c) 0), (4, zB false), (5, .str (textC c)), (10, zI (j : Int)), (11, zI (i : Int))] [] M (bif (decide ((i : Int) < (((textC c).length : Nat) : Int))) then (decide ((j : Int) < ((t % 3 : Nat) : Int))) else false) ?_ ?_
      · skip
        refine zM (zI (i : Int)) ?_
        refine zM (.str (textC c)) ?_
        refine zr (zS (textC c) ((textC c).length) Tryz.underlying9 (by first | rfl | simp)) ?_
        refine zr (zi (decide ((i : Int) < (((textC c).length : Nat) : Int)))) ?_
        refine zM (zB (decide ((i : Int) < (((textC c).length : Nat) : Int)))) ?_
        refine AOps.splitJ (t := 60) (b := decide ((i : Int) < (((textC c).length : Nat) : Int))) (x := (decide ((j : Int) < ((t % 3 : Nat) : Int)))) (y := false) rfl (fun h3 => ?_) (fun h3 => ?_)
        · skip
          have h3' : i < ((textC c).length) := (by have hh := of_decide_eq_true h3; omega)
          clear h3
          refine zM (zI (j : Int)) ?_
          refine zM (.lit (.int .u8 (t : Int))) ?_
          refine zr (Reader.rem rfl rfl rfl (by decide) (c := ((t % 3 : Nat) : Int)) (by first | rfl | exact nat_rem _ _)) ?_
          refine zr (Reader.conv rfl Tryz.underlying5 Tryz.underlying3 (by simp) rfl (c := ((t % 3 : Nat) : Int)) (by first | exact IntWalk.i64_in _ (by omega) | exact IntWalk.i64_in _ (by constructor <;> omega) | (simp only [];omega))) ?_
          refine zr (zi (decide ((j : Int) < ((t % 3 : Nat) : Int)))) ?_
          refine zr (zp true (zB (decide ((j : Int) < ((t % 3 : Nat) : Int))))) ?_
          exact AOps.nil rfl
        · skip
          have h3' : ¬ (i < ((textC c).length)) := (by have hh := of_decide_eq_false h3; omega)
          clear h3
          refine zs ?_
          refine zs ?_
          refine zs ?_
          refine zs ?_
          refine zs ?_
          refine zr (zp false (zB false)) ?_
          exact AOps.nil rfl
      refine zC (b := bif (decide ((i : Int) < (((textC c).length : Nat) : Int))) then (decide ((j : Int) < ((t % 3 : Nat) : Int))) else false) rfl (fun h4 => ?_) (fun h4 => ?_)
      · skip
        have h4' : i < (textC c).length ∧ j < t % 3 := (turn_t h4)
        clear h4
        have hil := h4'.1
        have hjt := h4'.2
        refine AWp.skip ?_
        refine AWp.seq ?_
        refine AWp.block ?_
        refine zg ?_
        refine zM (.str (textC c)) ?_
        refine zM (zI (i : Int)) ?_
        refine zr (Reader.byte (m := i) (c := (textC c).getD i 0) rfl Tryz.underlying9 rfl rfl rfl (getD_some (by first | omega | (simp; omega)))) ?_
        refine zr (zi ((((textC c).getD i 0).toNat : Int) == 10)) ?_
        refine zN ?_
        refine zC (b := (((textC c).getD i 0).toNat : Int) == 10) rfl (fun h5 => ?_) (fun h5 => ?_)
        · skip
          have h5' : (((textC c).getD i 0).toNat) = 10 := (by have hh := eq_of_beq h5; omega)
          clear h5
          refine zg ?_
          refine zM (zI (j : Int)) ?_
          refine zr (zw ((j : Int) + 1) ((j + 1 : Nat) : Int)) ?_
          refine zM (zI ((j + 1 : Nat) : Int)) ?_
          refine zN ?_
          refine AWp.seq (AWp.anyR [66, 1, 2, 4, 5, 10, 11, 72, 12, 14] [12] (⟨[(66, zB (bif (decide ((i : Int) < (((textC c).length : Nat) : Int))) then (decide ((j : Int) < ((t % 3 : Nat) : Int))) else false)), (1, .lit (.int .u8 (t : Int))), (2, .eptr (encC c) 0), (4, zB false), (5, .str (textC c)), (10, zI ((j + 1 : Nat) : Int)), (11, zI (i : Int)), (72, zB ((((textC c).getD i 0).toNat : Int) == 10)), (12, .lptr 12 0), (14, zI 0)], [(12, [zI c.c0, zI c.c1, zI c.c2, zI c.a0, zI c.a1, zI c.a2, .list false 40 (c.thr.map encT), zI c.per, zI c.ret, zI c.age, zI c.ded])], M⟩) (by kernel_rfl) ?_ ?_)
          · skip
            skip
            refine SAny.share 3 #[true, true, true, true, true, true, true, true, true, true, true, true, true, true, true, true, false, false, false] (⟨[(66, zB (bif (decide ((i : Int) < (((textC c).length : Nat) : Int))) then (decide ((j : Int) < ((t % 3 : Nat) : Int))) else false)), (1, .lit (.int .u8 (t : Int))), (2, .eptr (encC c) 0), (4, zB false), (5, .str (textC c)), (10, zI ((j + 1 : Nat) : Int)), (11, zI (i : Int)), (69, .str (textC c)), (70, zI (i : Int)), (71, .lit (.int .u8 (((textC c).getD i 0).toNat : Int))), (72, zB ((((textC c).getD i 0).toNat : Int) == 10)), (73, zI (j : Int)), (74, zI ((j + 1 : Nat) : Int)), (76, .str (textC c)), (77, zI (i : Int)), (78, zI ((i + 1 : Nat) : Int)), (79, .str (jT ((linesC c).drop (j + 1)))), (80, .str (textC c)), (81, zI (i : Int)), (82, zI ((i + 1 : Nat) : Int)), (83, .str (jT ((linesC c).take (j + 1)))), (84, .str ((jT ((linesC c).drop (j + 1))) ++ (jT ((linesC c).take (j + 1))))), (12, .lptr 12 0), (85, .list false 5 (byteAVs ((jT ((linesC c).drop (j + 1))) ++ (jT ((linesC c).take (j + 1)))))), (86, .tuple [encC c, zI ((cfN (jT ((linesC c).drop (j + 1)) ++ jT ((linesC c).take (j + 1))) : Nat) : Int), zI 0]), (75, .tuple [encC c, zI ((cfN (jT ((linesC c).drop (j + 1)) ++ jT ((linesC c).take (j + 1))) : Nat) : Int), zI 0]), (87, encC c), (88, zI ((cfN (jT ((linesC c).drop (j + 1)) ++ jT ((linesC c).take (j + 1))) : Nat) : Int)), (89, zI 0)], [(12, [zI 0, zI 0, zI 0, zI 0, zI 0, zI 0, .list false 40 [], zI 0, zI 0, zI 0, zI 0])], M⟩) ?_ (fun sh0 => ?_)
            · skip
              refine zq [16] ⟨⟨_, rfl, ?_⟩, trivial⟩
              · skip
                refine zst sizeOf_27 (encC c) ?_
                refine zN ?_
                refine zkm 17 (zI ((cfN (jT ((linesC c).drop (j + 1)) ++ jT ((linesC c).take (j + 1))) : Nat) : Int)) ?_
                refine zkm 18 (zI 0) ?_
                exact SAny.done (by kernel_rfl) rfl
            refine SAny.share 8 #[true, true, true, true, true, true, true, true, true, true, false, false, false, false, false, true, false, false, false] (⟨[(66, zB (bif (decide ((i : Int) < (((textC c).length : Nat) : Int))) then (decide ((j : Int) < ((t % 3 : Nat) : Int))) else false)), (1, .lit (.int .u8 (t : Int))), (2, .eptr (encC c) 0), (4, zB false), (5, .str (textC c)), (10, zI ((j + 1 : Nat) : Int)), (11, zI (i : Int)), (69, .str (textC c)), (70, zI (i : Int)), (71, .lit (.int .u8 (((textC c).getD i 0).toNat : Int))), (72, zB ((((textC c).getD i 0).toNat : Int) == 10)), (73, zI (j : Int)), (74, zI ((j + 1 : Nat) : Int)), (76, .str (textC c)), (77, zI (i : Int)), (78, zI ((i + 1 : Nat) : Int)), (79, .str (jT ((linesC c).drop (j + 1)))), (80, .str (textC c)), (81, zI (i : Int)), (82, zI ((i + 1 : Nat) : Int)), (83, .str (jT ((linesC c).take (j + 1)))), (84, .str ((jT ((linesC c).drop (j + 1))) ++ (jT ((linesC c).take (j + 1))))), (12, .lptr 12 0), (85, .list false 5 (byteAVs ((jT ((linesC c).drop (j + 1))) ++ (jT ((linesC c).take (j + 1))))))], [(12, [zI 0, zI 0, zI 0, zI 0, zI 0, zI 0, .list false 40 [], zI 0, zI 0, zI 0, zI 0])], M⟩) ?_ (fun sh1 => ?_)
            · skip
              refine zq [10] ⟨⟨_, rfl, ?_⟩, trivial⟩
              · skip
                refine zc [.list false 5 (byteAVs ((jT ((linesC c).drop (j + 1))) ++ (jT ((linesC c).take (j + 1)))))] Tryz.call10 (rd_turn hR hca (j := j) (by omega) M) ?_
                rintro _ _ ⟨rfl, rfl⟩
                refine zN ?_
                refine zkm 11 (.tuple [encC c, zI ((cfN (jT ((linesC c).drop (j + 1)) ++ jT ((linesC c).take (j + 1))) : Nat) : Int), zI 0]) ?_
                refine zk 12 rfl (PReader.extract (v := encC c) rfl rfl rfl rfl) ?_
                refine zk 13 rfl (PReader.extract (v := zI ((cfN (jT ((linesC c).drop (j + 1)) ++ jT ((linesC c).take (j + 1))) : Nat) : Int)) rfl rfl rfl rfl) ?_
                refine zk 14 rfl (PReader.extract (v := zI 0) rfl rfl rfl rfl) ?_
                exact SAny.same [66, 1, 2, 4, 5, 10, 11, 69, 70, 71, 72, 73, 74, 76, 77, 78, 79, 80, 81, 82, 83, 84, 12, 85, 86, 75, 87, 88, 89] [12] sh0 (by kernel_rfl) rfl
            refine zkm 0 (.str (textC c)) ?_
            refine zkm 1 (zI (i : Int)) ?_
            refine zk 2 rfl (PReader.sum rfl rfl rfl (m := (i : Int) + 1) (c := ((i + 1 : Nat) : Int)) rfl (by first | exact IntWalk.i64_in _ (by omega) | exact IntWalk.i64_in _ (by constructor <;> omega) | (simp only [];omega))) ?_
            refine zk 3 rfl (PReader.sub (i := i + 1) (j := (textC c).length) rfl Tryz.underlying9 rfl ⟨_, _, rfl, rfl⟩ rfl (by first | omega | (simp; omega)) (by first | omega | (simp; omega)) (m := jT ((linesC c).drop (j + 1))) (by rw [List.take_length]; exact (pos_parts (pos_nl (lines_ok c) hpos (by show i < (textC c).length; omega) (b10 (by assumption)))).2)) ?_
            refine zkm 4 (.str (textC c)) ?_
            refine zkm 5 (zI (i : Int)) ?_
            refine zk 6 rfl (PReader.sum rfl rfl rfl (m := (i : Int) + 1) (c := ((i + 1 : Nat) : Int)) rfl (by first | exact IntWalk.i64_in _ (by omega) | exact IntWalk.i64_in _ (by constructor <;> omega) | (simp only [];omega))) ?_
            refine zk 7 rfl (PReader.sub (i := 0) (j := i + 1) rfl Tryz.underlying9 rfl rfl ⟨_, _, rfl, rfl⟩ (by first | omega | (simp; omega)) (by first | omega | (simp; omega)) (m := jT ((linesC c).take (j + 1))) (by rw [List.drop_zero]; exact (pos_parts (pos_nl (lines_ok c) hpos (by show i < (textC c).length; omega) (b10 (by assumption)))).1)) ?_
            refine zk 8 rfl (PReader.cat rfl rfl rfl (by first | omega | (simp only [List.length_append, List.length_cons, List.length_nil]; omega) | (simp; omega)) (c := (jT ((linesC c).drop (j + 1))) ++ (jT ((linesC c).take (j + 1)))) rfl) ?_
            refine zq [9, 15] ⟨⟨_, rfl, ?_⟩, ⟨_, rfl, ?_⟩, trivial⟩
            · skip
              refine AOps.toBytes (_D := .bool) trivial rfl (by decide) rfl Tryz.underlying9 Tryz.underlying22 Tryz.underlying5 rfl (sizeOf_5) (by first | omega | (simp; omega)) ?_
              refine zN ?_
              refine zq [10, 15] ⟨⟨_, rfl, ?_⟩, ⟨_, rfl, ?_⟩, trivial⟩
              · skip
                refine zc [.list false 5 (byteAVs ((jT ((linesC c).drop (j + 1))) ++ (jT ((linesC c).take (j + 1)))))] Tryz.call10 (rd_turn hR hca (j := j) (by omega) M) ?_
                rintro _ _ ⟨rfl, rfl⟩
                refine zN ?_
                refine zkm 11 (.tuple [encC c, zI ((cfN (jT ((linesC c).drop (j + 1)) ++ jT ((linesC c).take (j + 1))) : Nat) : Int), zI 0]) ?_
                refine zk 12 rfl (PReader.extract (v := encC c) rfl rfl rfl rfl) ?_
                refine zk 13 rfl (PReader.extract (v := zI ((cfN (jT ((linesC c).drop (j + 1)) ++ jT ((linesC c).take (j + 1))) : Nat) : Int)) rfl rfl rfl rfl) ?_
                refine zk 14 rfl (PReader.extract (v := zI 0) rfl rfl rfl rfl) ?_
                refine zq [15] ⟨⟨_, rfl, ?_⟩, trivial⟩
                · skip
                  refine zal [40] zero_27 [zI 0, zI 0, zI 0, zI 0, zI 0, zI 0, .list false 40 [], zI 0, zI 0, zI 0, zI 0] ?_
                  refine zN ?_
                  exact SAny.same [66, 1, 2, 4, 5, 10, 11, 69, 70, 71, 72, 73, 74, 76, 77, 78, 79, 80, 81, 82, 83, 84, 12, 85, 86, 75, 87, 88, 89] [12] sh0 (by kernel_rfl) rfl
              · skip
                refine zal [40] zero_27 [zI 0, zI 0, zI 0, zI 0, zI 0, zI 0, .list false 40 [], zI 0, zI 0, zI 0, zI 0] ?_
                refine zN ?_
                exact SAny.same [66, 1, 2, 4, 5, 10, 11, 69, 70, 71, 72, 73, 74, 76, 77, 78, 79, 80, 81, 82, 83, 84, 12, 85] [12] sh1 (by kernel_rfl) rfl
            · skip
              refine zal [40] zero_27 [zI 0, zI 0, zI 0, zI 0, zI 0, zI 0, .list false 40 [], zI 0, zI 0, zI 0, zI 0] ?_
              refine zN ?_
              refine zq [9] ⟨⟨_, rfl, ?_⟩, trivial⟩
              · skip
                refine AOps.toBytes (_D := .bool) trivial rfl (by decide) rfl Tryz.underlying9 Tryz.underlying22 Tryz.underlying5 rfl (sizeOf_5) (by first | omega | (simp; omega)) ?_
                refine zN ?_
                exact SAny.same [66, 1, 2, 4, 5, 10, 11, 69, 70, 71, 72, 73, 74, 76, 77, 78, 79, 80, 81, 82, 83, 84, 12, 85] [12] sh1 (by kernel_rfl) rfl
          refine zj 101 [(66, zB (bif (decide ((i : Int) < (((textC c).length : Nat) : Int))) then (decide ((j : Int) < ((t % 3 : Nat) : Int))) else false)), (1, .lit (.int .u8 (t : Int))), (2, .eptr (encC c) 0), (4, zB false), (5, .str (textC c)), (10, zI ((j + 1 : Nat) : Int)), (11, zI (i : Int)), (72, zB ((((textC c).getD i 0).toNat : Int) == 10)), (12, .lptr 12 0), (14, zI 0)] [(12, [zI c.c0, zI c.c1, zI c.c2, zI c.a0, zI c.a1, zI c.a2, .list false 40 (c.thr.map encT), zI c.per, zI c.ret, zI c.age, zI c.ded])] M (bif (decide (((j + 1 : Nat) : Int) < 3)) then false else false) ?_ ?_
          · skip
            refine zM (zI ((j + 1 : Nat) : Int)) ?_
            refine zr (zi (decide (((j + 1 : Nat) : Int) < 3))) ?_
            refine zM (zB (decide (((j + 1 : Nat) : Int) < 3))) ?_
            refine AOps.splitJ (t := 92) (b := decide (((j + 1 : Nat) : Int) < 3)) (x := false) (y := false) rfl (fun h6 => ?_) (fun h6 => ?_)
            · skip
              have h6' : (j + 1) < 3 := (by have hh := of_decide_eq_true h6; omega)
              clear h6
              refine zM (zI 0) ?_
              refine zr (zi false) ?_
              refine zM (zB false) ?_
              refine zr (zlL (.agg [zI c.c0, zI c.c1, zI c.c2, zI c.a0, zI c.a1, zI c.a2, .list false 40 (c.thr.map encT), zI c.per, zI c.ret, zI c.age, zI c.ded]) Tryz.underlying27 sizeOf_27) ?_
              refine zr (zlE (encC c) Tryz.underlying27 sizeOf_27) ?_
              refine zc [encC c, encC c] Tryz.call12 (rsame4 (c := c) (by omega) M) ?_
              rintro _ _ ⟨rfl, rfl⟩
              refine zr (zn true) ?_
              refine zr (zp false (zB false)) ?_
              refine zr (zp true (zB false)) ?_
              exact AOps.nil rfl
            · skip
              have h6' : ¬ ((j + 1) < 3) := (by have hh := of_decide_eq_false h6; omega)
              clear h6
              refine zs ?_
              refine zs ?_
              refine zs ?_
              refine zs ?_
              refine zs ?_
              refine zs ?_
              refine zs ?_
              refine zs ?_
              refine zr (zp false (zB false)) ?_
              exact AOps.nil rfl
          refine zC (b := bif (decide (((j + 1 : Nat) : Int) < 3)) then false else false) rfl (fun h7 => ?_) (fun h7 => ?_)
          · skip
            exfalso; simp_all
          · skip
            refine AWp.skip ?_
            refine AWp.region ?_
            refine zM (zI (i : Int)) ?_
            refine zr (zw ((i : Int) + 1) ((i + 1 : Nat) : Int)) ?_
            refine zM (zI ((i + 1 : Nat) : Int)) ?_
            refine zN ?_
            first | exact ⟨_, by omega, i + 1, i + 1, j + 1, rfl, rfl, by omega, (pos_nl (lines_ok c) hpos (by show i < (textC c).length; omega) (b10 (by assumption))), by omega⟩ | exact ⟨_, by omega, i + 1, F, j, rfl, rfl, by omega, pos_go (lines_ok c) hpos (by show i < (textC c).length; omega) (nb10 (by assumption)), by omega⟩
        · skip
          have h5' : ¬ ((((textC c).getD i 0).toNat) = 10) := (by have hh := beq_eq_false_iff_ne.1 h5; omega)
          clear h5
          refine AWp.skip ?_
          refine AWp.region ?_
          refine zM (zI (i : Int)) ?_
          refine zr (zw ((i : Int) + 1) ((i + 1 : Nat) : Int)) ?_
          refine zM (zI ((i + 1 : Nat) : Int)) ?_
          refine zN ?_
          first | exact ⟨_, by omega, i + 1, i + 1, j + 1, rfl, rfl, by omega, (pos_nl (lines_ok c) hpos (by show i < (textC c).length; omega) (b10 (by assumption))), by omega⟩ | exact ⟨_, by omega, i + 1, F, j, rfl, rfl, by omega, pos_go (lines_ok c) hpos (by show i < (textC c).length; omega) (nb10 (by assumption)), by omega⟩
      · skip
        have h4' : True := trivial
        clear h4
        refine AWp.exit ?_
        refine zg ?_
        refine zM (zB true) ?_
        refine zN ?_
        refine AWp.ret ?_
        exact ⟨.inl rfl, _, ResOf.one 4 (zB true) rfl rfl, ⟨rfl, rfl⟩⟩
end Go.Proofs.YtmmfkpbkacfegaaGreatDoor
