/- Cf10. -/
import Derived.Test.YtmmfkpbkacfegaaGreatDoorM8
import Derived.Test.YtmmfkpbkacfegaaGreatDoorM9
import Derived.Test.YtmmfkpbkacfegaaGreatDoorM3
namespace Go.Proofs.YtmmfkpbkacfegaaGreatDoor
open Go.RowKit
theorem few3 {c : Cfg} (h : (bif (!(decide ((c.thr.length : Int) ≤ 30))) then true else (!(decide (RightC c)))) = false) : c.thr.length ≤ 30 ∧ RightC c := by
  by_cases h1 : (c.thr.length : Int) ≤ 30
  · by_cases h2 : RightC c
    · exact ⟨by omega, h2⟩
    · simp [h1, h2] at h
  · simp [h1] at h
theorem read_of {b : List UInt8} {n : Nat} {e : Int} (hl : b.length ≤ 140737488355328) (h1 : cfE b = e) (h2 : cfN b = n) (M : Nat → Option (List AV)) : ACall Tryz.prog 10 [.list false 5 (byteAVs b)] M (fun r M' => r = .tuple [encC (cfC b), .lit (.int .i64 (n : Int)), .lit (.int .i64 e)] ∧ M = M') :=
  (CRead_any b hl M).mono fun _ _ ⟨a1, a2⟩ => ⟨a1.trans (by rw [h1, h2]), a2⟩
theorem b10 {x : UInt8} (h : x.toNat = 10) : x = 10 := UInt8.toNat_inj.1 h
theorem nb10 {x : UInt8} (h : ¬ x.toNat = 10) : x ≠ 10 := fun e => h (by rw [e]; rfl)
theorem parts_len {c : Cfg} {j : Nat} (h : (textC c).length ≤ 1400) : (jT ((linesC c).take j)).length ≤ 1400 ∧ (jT ((linesC c).drop j)).length ≤ 1400 := by
  have e2 : (jT ((linesC c).take j)).length + (jT ((linesC c).drop j)).length = (textC c).length := by
    rw [← List.length_append, ← jT_app, List.take_append_drop]; rfl
  omega

theorem odd_p {c : Cfg} (h : PrC c) : PrC { c with c0 := 0, a1 := 0 } := ⟨Int.le_refl _, h.c1, h.c2, h.a0, Int.le_refl _, h.a2, h.per, h.ret, h.age, h.ded, h.len, h.thr⟩
theorem odd_i {c : Cfg} (h : InR c) : InR { c with c0 := 0, a1 := 0 } := ⟨by show (0 : Int) ≤ _; decide, h.c1, h.c2, h.a0, by show (0 : Int) ≤ _; decide, h.a2, h.per, h.ret, h.age, h.ded, h.thr⟩
theorem wrong_at (w : Nat) : ∃ ws ∈ wrongL, (wrongL.map wT).getD (w % 8) [] = wT ws ∧ (wT ws).length ≤ 20 := by
  have hw : w % 8 < wrongL.length := Nat.mod_lt _ (by decide)
  have hall : ∀ ws ∈ wrongL, (wT ws).length ≤ 20 := by decide
  refine ⟨wrongL[w % 8], List.getElem_mem _, ?_, hall _ (List.getElem_mem _)⟩
  rw [List.getD_eq_getElem?_getD, List.getElem?_map, List.getElem?_eq_getElem hw]; rfl
theorem wrong_len (w : Nat) : ((wrongL.map wT).getD (w % 8) []).length ≤ 20 := by
  obtain ⟨ws, _, h2, h3⟩ := wrong_at w
  rw [h2]; exact h3
theorem rd_wrong {c : Cfg} {w j : Nat} (hp : PrC c) (hi : InR c) (hj : j ≤ (linesC c).length) (M : Nat → Option (List AV)) : ACall Tryz.prog 10 [.list false 5 (byteAVs (((jT ((linesC c).take j) ++ (wrongL.map wT).getD (w % 8) []) ++ [10]) ++ jT ((linesC c).drop j)))] M (fun r M' => r = .tuple [encC (cfC (((jT ((linesC c).take j) ++ (wrongL.map wT).getD (w % 8) []) ++ [10]) ++ jT ((linesC c).drop j))), .lit (.int .i64 ((j + 1 : Nat) : Int)), .lit (.int .i64 2)] ∧ M = M') := by
  obtain ⟨ws, h1, h2, h3⟩ := wrong_at w
  have h := wrong_C hp hi hj h1 h3
  have ⟨l1, l2⟩ := parts_len (j := j) (text_len hp hi)
  rw [h2]
  have e : ((jT ((linesC c).take j) ++ wT ws) ++ [10]) ++ jT ((linesC c).drop j) = jT ((linesC c).take j) ++ (wT ws ++ [10]) ++ jT ((linesC c).drop j) := by simp
  rw [e]
  exact read_of (by simp only [List.length_append, List.length_cons, List.length_nil]; omega) h.1 (by rw [h.2]; omega) M
theorem rd_odd {c : Cfg} (hp : PrC c) (hi : InR c) (M : Nat → Option (List AV)) : ACall Tryz.prog 10 [.list false 5 (byteAVs (textC { c with c0 := 0, a1 := 0 }))] M (fun r M' => r = .tuple [encC (cfC (textC { c with c0 := 0, a1 := 0 })), .lit (.int .i64 0), .lit (.int .i64 1)] ∧ M = M') := by
  have h := odd_C (c := { c with c0 := 0, a1 := 0 }) (fun h => by have := h.1; revert this; show ¬ ((1 : Int) ≤ 0); decide) (odd_p hp) (odd_i hi)
  exact read_of (by have := text_len (odd_p hp) (odd_i hi); omega) h.1 h.2 M

set_option maxRecDepth 20000 in
theorem ConfErrs_any (c : Cfg) (hca : InR c) (k w : Nat) (hk : k ≤ 255) (_hw : w ≤ 255) (M : Nat → Option (List AV)) : ACall Tryz.prog 8 [encC c, .lit (.int .u8 (k : Int)), .lit (.int .u8 (w : Int))] M (fun r M' => r = zB true ∧ M = M') := by
  refine ACall.of Tryz.func8 rfl (n := 104) rfl rfl rfl ?_
  refine zg ?_
  refine AOps.box trivial rfl (by decide) rfl (noL rfl) rfl (v := encC c) (.inl ⟨rfl, rfl⟩) rfl rfl (all_flat rfl) ?_
  refine AOps.freezeK 3 [0, 1, 2, 3] [] (s' := ⟨[(0, encC c), (1, .lit (.int .u8 (k : Int))), (2, .lit (.int .u8 (w : Int))), (3, .eptr (encC c) 0)], [], M⟩) rfl rfl rfl ?_
  refine zM (zB false) ?_
  refine zN ?_
  refine AWp.seq ?_
  refine zj 31 [(0, encC c), (1, .lit (.int .u8 (k : Int))), (2, .lit (.int .u8 (w : Int))), (3, .eptr (encC c) 0), (6, zB false)] [] M (bif (!(decide ((c.thr.length : Int) ≤ 30))) then true else (!(decide (RightC c)))) ?_ ?_
  · skip
    refine zc [] Tryz.call9 (cawake_any M) ?_
    rintro _ _ ⟨rfl, rfl⟩
    refine zr (zn true) ?_
    refine zM (zB false) ?_
    refine zr (zlE (encC c) Tryz.underlying27 sizeOf_27) ?_
    refine zc [encC c] Tryz.call14 (few_any c M) ?_
    rintro _ _ ⟨rfl, rfl⟩
    refine zr (zn (decide ((c.thr.length : Int) ≤ 30))) ?_
    refine zr (zp false (zB (!(decide ((c.thr.length : Int) ≤ 30))))) ?_
    refine zM (zB (!(decide ((c.thr.length : Int) ≤ 30)))) ?_
    refine AOps.splitJ (t := 27) (b := !(decide ((c.thr.length : Int) ≤ 30))) (x := true) (y := (!(decide (RightC c)))) rfl (fun h1 => ?_) (fun h1 => ?_)
    · skip
      have h1' : ¬ c.thr.length ≤ 30 := (by have := of_decide_eq_false (bnot_t h1); omega)
      clear h1
      refine zs ?_
      refine zs ?_
      refine zs ?_
      refine zr (zp true (zB true)) ?_
      exact AOps.nil rfl
    · skip
      have h1' : c.thr.length ≤ 30 := (by have := of_decide_eq_true (bnot_f h1); omega)
      clear h1
      refine zr (zlE (encC c) Tryz.underlying27 sizeOf_27) ?_
      refine zc [encC c] Tryz.call13 (RRight_any c (by first | omega | (simp only [List.length_nil]; omega) | assumption) M) ?_
      rintro _ _ ⟨rfl, rfl⟩
      refine zr (zn (decide (RightC c))) ?_
      refine zr (zp false (zB (!(decide (RightC c))))) ?_
      exact AOps.nil rfl
  refine zC (b := bif (!(decide ((c.thr.length : Int) ≤ 30))) then true else (!(decide (RightC c)))) rfl (fun h2 => ?_) (fun h2 => ?_)
  · skip
    have h2' : True := trivial
    clear h2
    refine zg ?_
    refine zc [] Tryz.call9 (cawake_any M) ?_
    rintro _ _ ⟨rfl, rfl⟩
    refine zM (zB true) ?_
    refine zN ?_
    refine AWp.ret ?_
    exact ⟨.inl rfl, _, ResOf.one 6 (zB true) rfl rfl, ⟨rfl, rfl⟩⟩
  · skip
    have h2' : c.thr.length ≤ 30 ∧ RightC c := (few3 h2)
    clear h2
    have hR := h2'.2
    have hp := prC hR
    have htl := text_len hp hca
    have hl30 := h2'.1
    have htl2 := text_len (odd_p hp) (odd_i hca)
    refine AWp.skip ?_
    refine zg ?_
    refine zr (zlE (encC c) Tryz.underlying27 sizeOf_27) ?_
    refine zc [encC c] Tryz.call18 (rCPrint_any c hp hca M) ?_
    rintro _ _ ⟨rfl, rfl⟩
    refine zM (.str (textC c)) ?_
    refine zN ?_
    refine zg ?_
    refine zM (zI 0) ?_
    refine zN ?_
    refine zg ?_
    refine zM (zI 1) ?_
    refine zN ?_
    refine zg ?_
    refine zM (.lit (.int .u8 (k : Int))) ?_
    refine zr (Reader.conv rfl Tryz.underlying5 Tryz.underlying3 (by simp) rfl (c := (k : Int)) (by first | exact IntWalk.i64_in _ (by omega) | exact IntWalk.i64_in _ (by constructor <;> omega) | (simp only [];omega))) ?_
    refine zr (Reader.rem rfl rfl rfl (by decide) (c := ((k % 12 : Nat) : Int)) (by first | rfl | exact nat_rem _ _)) ?_
    refine zM (zI ((k % 12 : Nat) : Int)) ?_
    refine zN ?_
    refine AWp.seq ?_
    refine zg ?_
    refine zM (zI 0) ?_
    refine zN ?_
    refine AWp.block ?_
    refine AWp.loopE [2, 3, 6, 7, 8, 9, 10, 11] [] (fun m s => ∃ (i F j : Nat), m = (textC c).length - i ∧ s = ⟨[(2, .lit (.int .u8 (w : Int))), (3, .eptr (encC c) 0), (6, zB false), (7, .str (textC c)), (8, zI (F : Int)), (9, zI ((j + 1 : Nat) : Int)), (10, zI ((k % 12 : Nat) : Int)), (11, zI (i : Int))], [], M⟩ ∧ (i ≤ (textC c).length) ∧ (Posn (linesC c) j F i)) ?_ ?_
    · exact ⟨_, 0, 0, 0, rfl, rfl, Nat.zero_le _, pos_0 _⟩
    · rintro _ _ ⟨i, F, j, rfl, rfl, hi, hpos⟩
      have hF := hpos.2.2.1
      have ⟨hl1, hl2⟩ := parts_len (j := j) htl
      have hj19 : j ≤ 18 := by have := hpos.1; rw [lines_len] at this; have := hp.len; omega
      have hwl := wrong_len w
      have hwl2 : ((Option.map wT wrongL[w % 8]?).getD []).length ≤ 20 := by simpa using wrong_len w
      refine AWp.seq ?_
      refine zj 46 [(2, .lit (.int .u8 (w : Int))), (3, .eptr (encC c) 0), (6, zB false), (7, .str (textC c)), (8, zI (F : Int)), (9, zI ((j + 1 : Nat) : Int)), (10, zI ((k % 12 : Nat) : Int)), (11, zI (i : Int))] [] M (bif (decide ((i : Int) < (((textC c).length : Nat) : Int))) then (decide (((j + 1 : Nat) : Int) ≤ ((k % 12 : Nat) : Int))) else false) ?_ ?_
      · skip
        refine zM (zI (i : Int)) ?_
        refine zM (.str (textC c)) ?_
        refine zr (zS (textC c) ((textC c).length) Tryz.underlying9 (by first | rfl | simp)) ?_
        refine zr (zi (decide ((i : Int) < (((textC c).length : Nat) : Int)))) ?_
        refine zM (zB (decide ((i : Int) < (((textC c).length : Nat) : Int)))) ?_
        refine AOps.splitJ (t := 42) (b := decide ((i : Int) < (((textC c).length : Nat) : Int))) (x := (decide (((j + 1 : Nat) : Int) ≤ ((k % 12 : Nat) : Int)))) (y := false) rfl (fun h3 => ?_) (fun h3 => ?_)
        · skip
          have h3' : i < ((textC c).length) := (by have hh := of_decide_eq_true h3; omega)
          clear h3
          refine zM (zI ((j + 1 : Nat) : Int)) ?_
          refine zM (zI ((k % 12 : Nat) : Int)) ?_
          refine zr (zi (decide (((j + 1 : Nat) : Int) ≤ ((k % 12 : Nat) : Int)))) ?_
          refine zr (zp true (zB (decide (((j + 1 : Nat) : Int) ≤ ((k % 12 : Nat) : Int))))) ?_
          exact AOps.nil rfl
        · skip
          have h3' : ¬ (i < ((textC c).length)) := (by have hh := of_decide_eq_false h3; omega)
          clear h3
          refine zs ?_
          refine zs ?_
          refine zs ?_
          refine zr (zp false (zB false)) ?_
          exact AOps.nil rfl
      refine zC (b := bif (decide ((i : Int) < (((textC c).length : Nat) : Int))) then (decide (((j + 1 : Nat) : Int) ≤ ((k % 12 : Nat) : Int))) else false) rfl (fun h4 => ?_) (fun h4 => ?_)
      · skip
        have h4' : (i : Int) < ((textC c).length : Int) := (and_t h4).1
        clear h4
        refine AWp.skip ?_
        refine AWp.seq ?_
        refine AWp.block ?_
        refine zg ?_
        refine zM (.str (textC c)) ?_
        refine zM (zI (i : Int)) ?_
        refine zr (Reader.byte (m := i) (c := (textC c).getD i 0) rfl Tryz.underlying9 rfl rfl rfl (getD_some (by first | omega | (simp; omega)))) ?_
        refine zr (zi ((((textC c).getD i 0).toNat : Int) == 10)) ?_
        refine zN ?_
        refine zC (b := (((textC c).getD i 0).toNat : Int) == 10) rfl (fun h5 => ?_) (fun h5 => ?_)
        · skip
          have h5' : (((textC c).getD i 0).toNat) = 10 := (by have hh := eq_of_beq h5; omega)
          clear h5
          refine zg ?_
          refine zM (zI (i : Int)) ?_
          refine zr (zw ((i : Int) + 1) ((i + 1 : Nat) : Int)) ?_
          refine zM (zI ((i + 1 : Nat) : Int)) ?_
          refine zN ?_
          refine AWp.region ?_
          refine zM (zI ((j + 1 : Nat) : Int)) ?_
          refine zr (zw (((j + 1 : Nat) : Int) + 1) (((j + 1) + 1 : Nat) : Int)) ?_
          refine zM (zI (((j + 1) + 1 : Nat) : Int)) ?_
          refine zN ?_
          refine AWp.region ?_
          refine zM (zI (i : Int)) ?_
          refine zr (zw ((i : Int) + 1) ((i + 1 : Nat) : Int)) ?_
          refine zM (zI ((i + 1 : Nat) : Int)) ?_
          refine zN ?_
          first | exact ⟨_, by omega, i + 1, i + 1, j + 1, rfl, rfl, by omega, pos_nl (lines_ok c) hpos (by show i < (textC c).length; omega) (b10 (by assumption))⟩ | exact ⟨_, by omega, i + 1, F, j, rfl, rfl, by omega, pos_go (lines_ok c) hpos (by show i < (textC c).length; omega) (nb10 (by assumption))⟩
        · skip
          have h5' : ¬ ((((textC c).getD i 0).toNat) = 10) := (by have hh := beq_eq_false_iff_ne.1 h5; omega)
          clear h5
          refine AWp.skip ?_
          refine AWp.region ?_
          refine zM (zI (i : Int)) ?_
          refine zr (zw ((i : Int) + 1) ((i + 1 : Nat) : Int)) ?_
          refine zM (zI ((i + 1 : Nat) : Int)) ?_
          refine zN ?_
          first | exact ⟨_, by omega, i + 1, i + 1, j + 1, rfl, rfl, by omega, pos_nl (lines_ok c) hpos (by show i < (textC c).length; omega) (b10 (by assumption))⟩ | exact ⟨_, by omega, i + 1, F, j, rfl, rfl, by omega, pos_go (lines_ok c) hpos (by show i < (textC c).length; omega) (nb10 (by assumption))⟩
      · skip
        have h4' : True := trivial
        clear h4
        refine AWp.exit ?_
        refine zg ?_
        refine zbS [] ((wrongL.map wT).map AV.str) Tryz.underlying38 Tryz.i9 ?_
        refine zT (v := .list true 9 ((wrongL.map wT).map AV.str)) rfl ?_
        refine zN ?_
        refine AWp.seq (AWp.anyR [46, 2, 3, 6, 7, 8, 9, 10, 11, 12, 14, 15] [13] (⟨[(46, zB (bif (decide ((i : Int) < (((textC c).length : Nat) : Int))) then (decide (((j + 1 : Nat) : Int) ≤ ((k % 12 : Nat) : Int))) else false)), (2, .lit (.int .u8 (w : Int))), (3, .eptr (encC c) 0), (6, zB false), (7, .str (textC c)), (8, zI (F : Int)), (9, zI ((j + 1 : Nat) : Int)), (10, zI ((k % 12 : Nat) : Int)), (11, zI (i : Int)), (12, .list true 9 ((wrongL.map wT).map AV.str)), (14, zI ((j + 1 : Nat) : Int)), (15, zI 2)], [(13, [zI ((cfC ((((jT ((linesC c).take j)) ++ ((wrongL.map wT).getD (w % 8) [])) ++ [10]) ++ (jT ((linesC c).drop j)))).c0), zI ((cfC ((((jT ((linesC c).take j)) ++ ((wrongL.map wT).getD (w % 8) [])) ++ [10]) ++ (jT ((linesC c).drop j)))).c1), zI ((cfC ((((jT ((linesC c).take j)) ++ ((wrongL.map wT).getD (w % 8) [])) ++ [10]) ++ (jT ((linesC c).drop j)))).c2), zI ((cfC ((((jT ((linesC c).take j)) ++ ((wrongL.map wT).getD (w % 8) [])) ++ [10]) ++ (jT ((linesC c).drop j)))).a0), zI ((cfC ((((jT ((linesC c).take j)) ++ ((wrongL.map wT).getD (w % 8) [])) ++ [10]) ++ (jT ((linesC c).drop j)))).a1), zI ((cfC ((((jT ((linesC c).take j)) ++ ((wrongL.map wT).getD (w % 8) [])) ++ [10]) ++ (jT ((linesC c).drop j)))).a2), .list false 40 (((cfC ((((jT ((linesC c).take j)) ++ ((wrongL.map wT).getD (w % 8) [])) ++ [10]) ++ (jT ((linesC c).drop j)))).thr).map encT), zI ((cfC ((((jT ((linesC c).take j)) ++ ((wrongL.map wT).getD (w % 8) [])) ++ [10]) ++ (jT ((linesC c).drop j)))).per), zI ((cfC ((((jT ((linesC c).take j)) ++ ((wrongL.map wT).getD (w % 8) [])) ++ [10]) ++ (jT ((linesC c).drop j)))).ret), zI ((cfC ((((jT ((linesC c).take j)) ++ ((wrongL.map wT).getD (w % 8) [])) ++ [10]) ++ (jT ((linesC c).drop j)))).age), zI ((cfC ((((jT ((linesC c).take j)) ++ ((wrongL.map wT).getD (w % 8) [])) ++ [10]) ++ (jT ((linesC c).drop j)))).ded)])], M⟩) (by kernel_rfl) ?_ ?_)
        · skip
          skip
          refine SAny.share 3 #[true, true, true, true, true, true, true, true, true, true, true, true, true, true, true, true, true, true, true, true, true, false, false, false] (⟨[(46, zB (bif (decide ((i : Int) < (((textC c).length : Nat) : Int))) then (decide (((j + 1 : Nat) : Int) ≤ ((k % 12 : Nat) : Int))) else false)), (2, .lit (.int .u8 (w : Int))), (3, .eptr (encC c) 0), (6, zB false), (7, .str (textC c)), (8, zI (F : Int)), (9, zI ((j + 1 : Nat) : Int)), (10, zI ((k % 12 : Nat) : Int)), (11, zI (i : Int)), (57, .list false 9 ((wrongL.map wT).map AV.str)), (12, .list true 9 ((wrongL.map wT).map AV.str)), (59, .str (textC c)), (60, zI (F : Int)), (61, .str (jT ((linesC c).take j))), (62, .list false 9 ((wrongL.map wT).map AV.str)), (63, .lit (.int .u8 (w : Int))), (64, .lit (.int .u8 ((w % 8 : Nat) : Int))), (65, .eptr (.str ((wrongL.map wT).getD (w % 8) [])) 0), (69, .str (textC c)), (70, zI (F : Int)), (71, .str (jT ((linesC c).drop j))), (13, .lptr 13 0), (66, .str ((wrongL.map wT).getD (w % 8) [])), (67, .str ((jT ((linesC c).take j)) ++ ((wrongL.map wT).getD (w % 8) []))), (68, .str (((jT ((linesC c).take j)) ++ ((wrongL.map wT).getD (w % 8) [])) ++ [10])), (72, .str ((((jT ((linesC c).take j)) ++ ((wrongL.map wT).getD (w % 8) [])) ++ [10]) ++ (jT ((linesC c).drop j)))), (73, .list false 5 (byteAVs ((((jT ((linesC c).take j)) ++ ((wrongL.map wT).getD (w % 8) [])) ++ [10]) ++ (jT ((linesC c).drop j))))), (74, .tuple [encC (cfC ((((jT ((linesC c).take j)) ++ ((wrongL.map wT).getD (w % 8) [])) ++ [10]) ++ (jT ((linesC c).drop j)))), zI ((j + 1 : Nat) : Int), zI 2]), (58, .tuple [encC (cfC ((((jT ((linesC c).take j)) ++ ((wrongL.map wT).getD (w % 8) [])) ++ [10]) ++ (jT ((linesC c).drop j)))), zI ((j + 1 : Nat) : Int), zI 2]), (75, encC (cfC ((((jT ((linesC c).take j)) ++ ((wrongL.map wT).getD (w % 8) [])) ++ [10]) ++ (jT ((linesC c).drop j))))), (76, zI ((j + 1 : Nat) : Int)), (77, zI 2)], [(13, [zI 0, zI 0, zI 0, zI 0, zI 0, zI 0, .list false 40 [], zI 0, zI 0, zI 0, zI 0])], M⟩) ?_ (fun sh0 => ?_)
          · skip
            refine zq [21] ⟨⟨_, rfl, ?_⟩, trivial⟩
            · skip
              refine zst sizeOf_27 (encC (cfC ((((jT ((linesC c).take j)) ++ ((wrongL.map wT).getD (w % 8) [])) ++ [10]) ++ (jT ((linesC c).drop j))))) ?_
              refine zN ?_
              refine zkm 22 (zI ((j + 1 : Nat) : Int)) ?_
              refine zkm 23 (zI 2) ?_
              exact SAny.done (by kernel_rfl) rfl
          refine SAny.share 8 #[true, true, true, true, true, true, true, true, true, true, true, true, true, true, true, false, false, false, false, false, true, false, false, false] (⟨[(46, zB (bif (decide ((i : Int) < (((textC c).length : Nat) : Int))) then (decide (((j + 1 : Nat) : Int) ≤ ((k % 12 : Nat) : Int))) else false)), (2, .lit (.int .u8 (w : Int))), (3, .eptr (encC c) 0), (6, zB false), (7, .str (textC c)), (8, zI (F : Int)), (9, zI ((j + 1 : Nat) : Int)), (10, zI ((k % 12 : Nat) : Int)), (11, zI (i : Int)), (57, .list false 9 ((wrongL.map wT).map AV.str)), (12, .list true 9 ((wrongL.map wT).map AV.str)), (59, .str (textC c)), (60, zI (F : Int)), (61, .str (jT ((linesC c).take j))), (62, .list false 9 ((wrongL.map wT).map AV.str)), (63, .lit (.int .u8 (w : Int))), (64, .lit (.int .u8 ((w % 8 : Nat) : Int))), (65, .eptr (.str ((wrongL.map wT).getD (w % 8) [])) 0), (69, .str (textC c)), (70, zI (F : Int)), (71, .str (jT ((linesC c).drop j))), (13, .lptr 13 0), (66, .str ((wrongL.map wT).getD (w % 8) [])), (67, .str ((jT ((linesC c).take j)) ++ ((wrongL.map wT).getD (w % 8) []))), (68, .str (((jT ((linesC c).take j)) ++ ((wrongL.map wT).getD (w % 8) [])) ++ [10])), (72, .str ((((jT ((linesC c).take j)) ++ ((wrongL.map wT).getD (w % 8) [])) ++ [10]) ++ (jT ((linesC c).drop j)))), (73, .list false 5 (byteAVs ((((jT ((linesC c).take j)) ++ ((wrongL.map wT).getD (w % 8) [])) ++ [10]) ++ (jT ((linesC c).drop j)))))], [(13, [zI 0, zI 0, zI 0, zI 0, zI 0, zI 0, .list false 40 [], zI 0, zI 0, zI 0, zI 0])], M⟩) ?_ (fun sh1 => ?_)
          · skip
            refine zq [15] ⟨⟨_, rfl, ?_⟩, trivial⟩
            · skip
              refine zc [.list false 5 (byteAVs ((((jT ((linesC c).take j)) ++ ((wrongL.map wT).getD (w % 8) [])) ++ [10]) ++ (jT ((linesC c).drop j))))] Tryz.call10 (rd_wrong (w := w) hp hca hpos.1 M) ?_
              rintro _ _ ⟨rfl, rfl⟩
              refine zN ?_
              refine zkm 16 (.tuple [encC (cfC ((((jT ((linesC c).take j)) ++ ((wrongL.map wT).getD (w % 8) [])) ++ [10]) ++ (jT ((linesC c).drop j)))), zI ((j + 1 : Nat) : Int), zI 2]) ?_
              refine zk 17 rfl (PReader.extract (v := encC (cfC ((((jT ((linesC c).take j)) ++ ((wrongL.map wT).getD (w % 8) [])) ++ [10]) ++ (jT ((linesC c).drop j))))) rfl rfl rfl rfl) ?_
              refine zk 18 rfl (PReader.extract (v := zI ((j + 1 : Nat) : Int)) rfl rfl rfl rfl) ?_
              refine zk 19 rfl (PReader.extract (v := zI 2) rfl rfl rfl rfl) ?_
              exact SAny.same [46, 2, 3, 6, 7, 8, 9, 10, 11, 57, 12, 59, 60, 61, 62, 63, 64, 65, 69, 70, 71, 13, 66, 67, 68, 72, 73, 74, 58, 75, 76, 77] [13] sh0 (by kernel_rfl) rfl
          refine SAny.share 9 #[true, true, true, true, true, true, true, true, true, true, true, true, true, true, false, false, false, false, false, false, true, false, false, false] (⟨[(46, zB (bif (decide ((i : Int) < (((textC c).length : Nat) : Int))) then (decide (((j + 1 : Nat) : Int) ≤ ((k % 12 : Nat) : Int))) else false)), (2, .lit (.int .u8 (w : Int))), (3, .eptr (encC c) 0), (6, zB false), (7, .str (textC c)), (8, zI (F : Int)), (9, zI ((j + 1 : Nat) : Int)), (10, zI ((k % 12 : Nat) : Int)), (11, zI (i : Int)), (57, .list false 9 ((wrongL.map wT).map AV.str)), (12, .list true 9 ((wrongL.map wT).map AV.str)), (59, .str (textC c)), (60, zI (F : Int)), (61, .str (jT ((linesC c).take j))), (62, .list false 9 ((wrongL.map wT).map AV.str)), (63, .lit (.int .u8 (w : Int))), (64, .lit (.int .u8 ((w % 8 : Nat) : Int))), (65, .eptr (.str ((wrongL.map wT).getD (w % 8) [])) 0), (69, .str (textC c)), (70, zI (F : Int)), (71, .str (jT ((linesC c).drop j))), (13, .lptr 13 0), (66, .str ((wrongL.map wT).getD (w % 8) [])), (67, .str ((jT ((linesC c).take j)) ++ ((wrongL.map wT).getD (w % 8) []))), (68, .str (((jT ((linesC c).take j)) ++ ((wrongL.map wT).getD (w % 8) [])) ++ [10])), (72, .str ((((jT ((linesC c).take j)) ++ ((wrongL.map wT).getD (w % 8) [])) ++ [10]) ++ (jT ((linesC c).drop j))))], [(13, [zI 0, zI 0, zI 0, zI 0, zI 0, zI 0, .list false 40 [], zI 0, zI 0, zI 0, zI 0])], M⟩) ?_ (fun sh2 => ?_)
          · skip
            refine zq [14] ⟨⟨_, rfl, ?_⟩, trivial⟩
            · skip
              refine AOps.toBytes (_D := .bool) trivial rfl (by decide) rfl Tryz.underlying9 Tryz.underlying22 Tryz.underlying5 rfl (sizeOf_5) (by first | omega | (simp; omega)) ?_
              refine zN ?_
              exact SAny.same [46, 2, 3, 6, 7, 8, 9, 10, 11, 57, 12, 59, 60, 61, 62, 63, 64, 65, 69, 70, 71, 13, 66, 67, 68, 72, 73] [13] sh1 (by kernel_rfl) rfl
          refine zkm 0 (.str (textC c)) ?_
          refine zkm 1 (zI (F : Int)) ?_
          refine zk 2 rfl (PReader.sub (i := 0) (j := F) rfl Tryz.underlying9 rfl rfl ⟨_, _, rfl, rfl⟩ (by first | omega | (simp; omega)) (by first | omega | (simp; omega)) (m := jT ((linesC c).take j)) (by rw [List.drop_zero]; exact (pos_parts hpos).1)) ?_
          refine zkm 3 (.list false 9 ((wrongL.map wT).map AV.str)) ?_
          refine zkm 4 (.lit (.int .u8 (w : Int))) ?_
          refine zk 5 rfl (PReader.rem rfl rfl rfl (by decide) (c := ((w % 8 : Nat) : Int)) (by first | rfl | exact nat_rem _ _)) ?_
          refine zk 6 rfl (PReader.elemAddr (m := w % 8) rfl Tryz.underlying38 sizeOf_9 rfl rfl rfl (e := .str ((wrongL.map wT).getD (w % 8) [])) (strs_at (by first | omega | (show _ < 8; omega)))) ?_
          refine zkm 10 (.str (textC c)) ?_
          refine zkm 11 (zI (F : Int)) ?_
          refine zk 12 rfl (PReader.sub (i := F) (j := (textC c).length) rfl Tryz.underlying9 rfl ⟨_, _, rfl, rfl⟩ rfl (by first | omega | (simp; omega)) (by first | omega | (simp; omega)) (m := jT ((linesC c).drop j)) (by rw [List.take_length]; exact (pos_parts hpos).2)) ?_
          refine zq [7, 20] ⟨⟨_, rfl, ?_⟩, ⟨_, rfl, ?_⟩, trivial⟩
          · skip
            refine zr (zlE (.str ((wrongL.map wT).getD (w % 8) [])) Tryz.underlying9 sizeOf_9) ?_
            refine zN ?_
            refine zk 8 rfl (PReader.cat rfl rfl rfl (by first | omega | (simp only [List.length_append, List.length_cons, List.length_nil]; omega) | (simp; omega)) (c := (jT ((linesC c).take j)) ++ ((wrongL.map wT).getD (w % 8) [])) rfl) ?_
            refine zk 9 rfl (PReader.cat rfl rfl rfl (by first | omega | (simp only [List.length_append, List.length_cons, List.length_nil]; omega) | (simp; omega)) (c := ((jT ((linesC c).take j)) ++ ((wrongL.map wT).getD (w % 8) [])) ++ [10]) rfl) ?_
            refine zk 13 rfl (PReader.cat rfl rfl rfl (by first | omega | (simp only [List.length_append, List.length_cons, List.length_nil]; omega) | (simp; omega)) (c := (((jT ((linesC c).take j)) ++ ((wrongL.map wT).getD (w % 8) [])) ++ [10]) ++ (jT ((linesC c).drop j))) rfl) ?_
            refine zq [14, 20] ⟨⟨_, rfl, ?_⟩, ⟨_, rfl, ?_⟩, trivial⟩
            · skip
              refine AOps.toBytes (_D := .bool) trivial rfl (by decide) rfl Tryz.underlying9 Tryz.underlying22 Tryz.underlying5 rfl (sizeOf_5) (by first | omega | (simp; omega)) ?_
              refine zN ?_
              refine zq [15, 20] ⟨⟨_, rfl, ?_⟩, ⟨_, rfl, ?_⟩, trivial⟩
              · skip
                refine zc [.list false 5 (byteAVs ((((jT ((linesC c).take j)) ++ ((wrongL.map wT).getD (w % 8) [])) ++ [10]) ++ (jT ((linesC c).drop j))))] Tryz.call10 (rd_wrong (w := w) hp hca hpos.1 M) ?_
                rintro _ _ ⟨rfl, rfl⟩
                refine zN ?_
                refine zkm 16 (.tuple [encC (cfC ((((jT ((linesC c).take j)) ++ ((wrongL.map wT).getD (w % 8) [])) ++ [10]) ++ (jT ((linesC c).drop j)))), zI ((j + 1 : Nat) : Int), zI 2]) ?_
                refine zk 17 rfl (PReader.extract (v := encC (cfC ((((jT ((linesC c).take j)) ++ ((wrongL.map wT).getD (w % 8) [])) ++ [10]) ++ (jT ((linesC c).drop j))))) rfl rfl rfl rfl) ?_
                refine zk 18 rfl (PReader.extract (v := zI ((j + 1 : Nat) : Int)) rfl rfl rfl rfl) ?_
                refine zk 19 rfl (PReader.extract (v := zI 2) rfl rfl rfl rfl) ?_
                refine zq [20] ⟨⟨_, rfl, ?_⟩, trivial⟩
                · skip
                  refine zal [40] zero_27 [zI 0, zI 0, zI 0, zI 0, zI 0, zI 0, .list false 40 [], zI 0, zI 0, zI 0, zI 0] ?_
                  refine zN ?_
                  exact SAny.same [46, 2, 3, 6, 7, 8, 9, 10, 11, 57, 12, 59, 60, 61, 62, 63, 64, 65, 69, 70, 71, 13, 66, 67, 68, 72, 73, 74, 58, 75, 76, 77] [13] sh0 (by kernel_rfl) rfl
              · skip
                refine zal [40] zero_27 [zI 0, zI 0, zI 0, zI 0, zI 0, zI 0, .list false 40 [], zI 0, zI 0, zI 0, zI 0] ?_
                refine zN ?_
                exact SAny.same [46, 2, 3, 6, 7, 8, 9, 10, 11, 57, 12, 59, 60, 61, 62, 63, 64, 65, 69, 70, 71, 13, 66, 67, 68, 72, 73] [13] sh1 (by kernel_rfl) rfl
            · skip
              refine zal [40] zero_27 [zI 0, zI 0, zI 0, zI 0, zI 0, zI 0, .list false 40 [], zI 0, zI 0, zI 0, zI 0] ?_
              refine zN ?_
              exact SAny.same [46, 2, 3, 6, 7, 8, 9, 10, 11, 57, 12, 59, 60, 61, 62, 63, 64, 65, 69, 70, 71, 13, 66, 67, 68, 72] [13] sh2 (by kernel_rfl) rfl
          · skip
            refine zal [40] zero_27 [zI 0, zI 0, zI 0, zI 0, zI 0, zI 0, .list false 40 [], zI 0, zI 0, zI 0, zI 0] ?_
            refine zN ?_
            refine zq [7] ⟨⟨_, rfl, ?_⟩, trivial⟩
            · skip
              refine zr (zlE (.str ((wrongL.map wT).getD (w % 8) [])) Tryz.underlying9 sizeOf_9) ?_
              refine zN ?_
              refine zk 8 rfl (PReader.cat rfl rfl rfl (by first | omega | (simp only [List.length_append, List.length_cons, List.length_nil]; omega) | (simp; omega)) (c := (jT ((linesC c).take j)) ++ ((wrongL.map wT).getD (w % 8) [])) rfl) ?_
              refine zk 9 rfl (PReader.cat rfl rfl rfl (by first | omega | (simp only [List.length_append, List.length_cons, List.length_nil]; omega) | (simp; omega)) (c := ((jT ((linesC c).take j)) ++ ((wrongL.map wT).getD (w % 8) [])) ++ [10]) rfl) ?_
              refine zk 13 rfl (PReader.cat rfl rfl rfl (by first | omega | (simp only [List.length_append, List.length_cons, List.length_nil]; omega) | (simp; omega)) (c := (((jT ((linesC c).take j)) ++ ((wrongL.map wT).getD (w % 8) [])) ++ [10]) ++ (jT ((linesC c).drop j))) rfl) ?_
              exact SAny.same [46, 2, 3, 6, 7, 8, 9, 10, 11, 57, 12, 59, 60, 61, 62, 63, 64, 65, 69, 70, 71, 13, 66, 67, 68, 72] [13] sh2 (by kernel_rfl) rfl
        refine AWp.seq ?_
        refine zj 84 [(46, zB (bif (decide ((i : Int) < (((textC c).length : Nat) : Int))) then (decide (((j + 1 : Nat) : Int) ≤ ((k % 12 : Nat) : Int))) else false)), (2, .lit (.int .u8 (w : Int))), (3, .eptr (encC c) 0), (6, zB false), (7, .str (textC c)), (8, zI (F : Int)), (9, zI ((j + 1 : Nat) : Int)), (10, zI ((k % 12 : Nat) : Int)), (11, zI (i : Int)), (12, .list true 9 ((wrongL.map wT).map AV.str)), (14, zI ((j + 1 : Nat) : Int)), (15, zI 2)] [(13, [zI ((cfC ((((jT ((linesC c).take j)) ++ ((wrongL.map wT).getD (w % 8) [])) ++ [10]) ++ (jT ((linesC c).drop j)))).c0), zI ((cfC ((((jT ((linesC c).take j)) ++ ((wrongL.map wT).getD (w % 8) [])) ++ [10]) ++ (jT ((linesC c).drop j)))).c1), zI ((cfC ((((jT ((linesC c).take j)) ++ ((wrongL.map wT).getD (w % 8) [])) ++ [10]) ++ (jT ((linesC c).drop j)))).c2), zI ((cfC ((((jT ((linesC c).take j)) ++ ((wrongL.map wT).getD (w % 8) [])) ++ [10]) ++ (jT ((linesC c).drop j)))).a0), zI ((cfC ((((jT ((linesC c).take j)) ++ ((wrongL.map wT).getD (w % 8) [])) ++ [10]) ++ (jT ((linesC c).drop j)))).a1), zI ((cfC ((((jT ((linesC c).take j)) ++ ((wrongL.map wT).getD (w % 8) [])) ++ [10]) ++ (jT ((linesC c).drop j)))).a2), .list false 40 (((cfC ((((jT ((linesC c).take j)) ++ ((wrongL.map wT).getD (w % 8) [])) ++ [10]) ++ (jT ((linesC c).drop j)))).thr).map encT), zI ((cfC ((((jT ((linesC c).take j)) ++ ((wrongL.map wT).getD (w % 8) [])) ++ [10]) ++ (jT ((linesC c).drop j)))).per), zI ((cfC ((((jT ((linesC c).take j)) ++ ((wrongL.map wT).getD (w % 8) [])) ++ [10]) ++ (jT ((linesC c).drop j)))).ret), zI ((cfC ((((jT ((linesC c).take j)) ++ ((wrongL.map wT).getD (w % 8) [])) ++ [10]) ++ (jT ((linesC c).drop j)))).age), zI ((cfC ((((jT ((linesC c).take j)) ++ ((wrongL.map wT).getD (w % 8) [])) ++ [10]) ++ (jT ((linesC c).drop j)))).ded)])] M (((j + 1 : Nat) : Int) != ((j + 1 : Nat) : Int)) ?_ ?_
        · skip
          refine zM (zI 2) ?_
          refine zr (zi false) ?_
          refine zM (zB false) ?_
          refine zM (zI ((j + 1 : Nat) : Int)) ?_
          refine zM (zI ((j + 1 : Nat) : Int)) ?_
          refine zr (zi (((j + 1 : Nat) : Int) != ((j + 1 : Nat) : Int))) ?_
          refine zr (zp false (zB (((j + 1 : Nat) : Int) != ((j + 1 : Nat) : Int)))) ?_
          exact AOps.nil rfl
        refine zC (b := ((j + 1 : Nat) : Int) != ((j + 1 : Nat) : Int)) rfl (fun h6 => ?_) (fun h6 => ?_)
        · skip
          exfalso; simp_all
        · skip
          refine AWp.skip ?_
          refine zg ?_
          refine zr (zlE (encC c) Tryz.underlying27 sizeOf_27) ?_
          refine zal [40] zero_27 [zI 0, zI 0, zI 0, zI 0, zI 0, zI 0, .list false 40 [], zI 0, zI 0, zI 0, zI 0] ?_
          refine zst sizeOf_27 (encC c) ?_
          refine zN ?_
          refine zg ?_
          refine zr (zfL Tryz.underlying27 sizeOf_24) ?_
          refine zr (ziL 1 Tryz.underlying24 sizeOf_3) ?_
          refine zst sizeOf_3 (zI 0) ?_
          refine zN ?_
          refine zg ?_
          refine zr (zfL Tryz.underlying27 sizeOf_24) ?_
          refine zr (ziL 0 Tryz.underlying24 sizeOf_3) ?_
          refine zst sizeOf_3 (zI 0) ?_
          refine zN ?_
          refine zg ?_
          refine zr (zlL (.agg [zI 0, zI c.c1, zI c.c2, zI c.a0, zI 0, zI c.a2, .list false 40 (c.thr.map encT), zI c.per, zI c.ret, zI c.age, zI c.ded]) Tryz.underlying27 sizeOf_27) ?_
          refine zc [encC ({ c with c0 := 0, a1 := 0 } : Cfg)] Tryz.call18 (rCPrint_any { c with c0 := 0, a1 := 0 } (odd_p hp) (odd_i hca) M) ?_
          rintro _ _ ⟨rfl, rfl⟩
          refine AOps.toBytes (_D := .bool) trivial rfl (by decide) rfl Tryz.underlying9 Tryz.underlying22 Tryz.underlying5 rfl (sizeOf_5) (by first | omega | (simp; omega)) ?_
          refine zc [.list false 5 (byteAVs (textC { c with c0 := 0, a1 := 0 }))] Tryz.call10 (rd_odd hp hca M) ?_
          rintro _ _ ⟨rfl, rfl⟩
          refine zM (.tuple [encC (cfC (textC { c with c0 := 0, a1 := 0 })), zI 0, zI 1]) ?_
          refine zr (zx (encC (cfC (textC { c with c0 := 0, a1 := 0 })))) ?_
          refine zr (zx (zI 0)) ?_
          refine zr (zx (zI 1)) ?_
          refine zal [40] zero_27 [zI 0, zI 0, zI 0, zI 0, zI 0, zI 0, .list false 40 [], zI 0, zI 0, zI 0, zI 0] ?_
          refine zst sizeOf_27 (encC (cfC (textC { c with c0 := 0, a1 := 0 }))) ?_
          refine zM (zI 0) ?_
          refine zM (zI 1) ?_
          refine zN ?_
          refine zj 6 [(84, zB (((j + 1 : Nat) : Int) != ((j + 1 : Nat) : Int))), (46, zB (bif (decide ((i : Int) < (((textC c).length : Nat) : Int))) then (decide (((j + 1 : Nat) : Int) ≤ ((k % 12 : Nat) : Int))) else false)), (2, .lit (.int .u8 (w : Int))), (3, .eptr (encC c) 0), (7, .str (textC c)), (8, zI (F : Int)), (9, zI ((j + 1 : Nat) : Int)), (10, zI ((k % 12 : Nat) : Int)), (11, zI (i : Int)), (12, .list true 9 ((wrongL.map wT).map AV.str)), (14, zI ((j + 1 : Nat) : Int)), (15, zI 2), (16, .lptr 16 0), (18, zI 0), (19, zI 1)] [(13, [zI ((cfC ((((jT ((linesC c).take j)) ++ ((wrongL.map wT).getD (w % 8) [])) ++ [10]) ++ (jT ((linesC c).drop j)))).c0), zI ((cfC ((((jT ((linesC c).take j)) ++ ((wrongL.map wT).getD (w % 8) [])) ++ [10]) ++ (jT ((linesC c).drop j)))).c1), zI ((cfC ((((jT ((linesC c).take j)) ++ ((wrongL.map wT).getD (w % 8) [])) ++ [10]) ++ (jT ((linesC c).drop j)))).c2), zI ((cfC ((((jT ((linesC c).take j)) ++ ((wrongL.map wT).getD (w % 8) [])) ++ [10]) ++ (jT ((linesC c).drop j)))).a0), zI ((cfC ((((jT ((linesC c).take j)) ++ ((wrongL.map wT).getD (w % 8) [])) ++ [10]) ++ (jT ((linesC c).drop j)))).a1), zI ((cfC ((((jT ((linesC c).take j)) ++ ((wrongL.map wT).getD (w % 8) [])) ++ [10]) ++ (jT ((linesC c).drop j)))).a2), .list false 40 (((cfC ((((jT ((linesC c).take j)) ++ ((wrongL.map wT).getD (w % 8) [])) ++ [10]) ++ (jT ((linesC c).drop j)))).thr).map encT), zI ((cfC ((((jT ((linesC c).take j)) ++ ((wrongL.map wT).getD (w % 8) [])) ++ [10]) ++ (jT ((linesC c).drop j)))).per), zI ((cfC ((((jT ((linesC c).take j)) ++ ((wrongL.map wT).getD (w % 8) [])) ++ [10]) ++ (jT ((linesC c).drop j)))).ret), zI ((cfC ((((jT ((linesC c).take j)) ++ ((wrongL.map wT).getD (w % 8) [])) ++ [10]) ++ (jT ((linesC c).drop j)))).age), zI ((cfC ((((jT ((linesC c).take j)) ++ ((wrongL.map wT).getD (w % 8) [])) ++ [10]) ++ (jT ((linesC c).drop j)))).ded)]), (16, [zI 0, zI c.c1, zI c.c2, zI c.a0, zI 0, zI c.a2, .list false 40 (c.thr.map encT), zI c.per, zI c.ret, zI c.age, zI c.ded]), (17, [zI ((cfC (textC { c with c0 := 0, a1 := 0 })).c0), zI ((cfC (textC { c with c0 := 0, a1 := 0 })).c1), zI ((cfC (textC { c with c0 := 0, a1 := 0 })).c2), zI ((cfC (textC { c with c0 := 0, a1 := 0 })).a0), zI ((cfC (textC { c with c0 := 0, a1 := 0 })).a1), zI ((cfC (textC { c with c0 := 0, a1 := 0 })).a2), .list false 40 (((cfC (textC { c with c0 := 0, a1 := 0 })).thr).map encT), zI ((cfC (textC { c with c0 := 0, a1 := 0 })).per), zI ((cfC (textC { c with c0 := 0, a1 := 0 })).ret), zI ((cfC (textC { c with c0 := 0, a1 := 0 })).age), zI ((cfC (textC { c with c0 := 0, a1 := 0 })).ded)])] M true ?_ ?_
          · skip
            refine zM (zI 1) ?_
            refine zr (zi true) ?_
            refine zM (zB true) ?_
            refine zM (zI 0) ?_
            refine zr (zi true) ?_
            refine zr (zp true (zB true)) ?_
            refine zM (zB true) ?_
            exact AOps.nil rfl
          refine AWp.ret ?_
          exact ⟨.inl rfl, _, ResOf.one 6 (zB true) rfl rfl, ⟨rfl, rfl⟩⟩
end Go.Proofs.YtmmfkpbkacfegaaGreatDoor
