/- Cf12. -/
import Derived.Test.YtmmfkpbkacfegaaGreatDoorM8
import Derived.Test.YtmmfkpbkacfegaaGreatDoorM10
import Derived.Test.YtmmfkpbkacfegaaGreatDoorM3
namespace Go.Proofs.YtmmfkpbkacfegaaGreatDoor
open Go.RowKit
theorem few3 {c : Cfg} (h : (bif (!(decide ((c.thr.length : Int) ≤ 30))) then true else (!(decide (RightC c)))) = false) : c.thr.length ≤ 30 ∧ RightC c := by
  by_cases h1 : (c.thr.length : Int) ≤ 30
  · by_cases h2 : RightC c
    · exact ⟨by omega, h2⟩
    · simp [h1, h2] at h
  · simp [h1] at h
theorem read_of {b : List UInt8} {n : Nat} {e : Int} (hl : b.length ≤ 140737488355328) (h1 : cfE b = e) (h2 : cfN b = n) (M : Nat → Option (List AV)) : ACall Tryz.prog 10 [.list false 5 (byteAVs b)] M (fun r M' => r = .tuple [encC (cfC b), .lit (.int .i64 (n : Int)), .lit (.int .i64 e)] ∧ M = M') :=
  (CRead_any b hl M).mono fun _ _ ⟨a1, a2⟩ => ⟨a1.trans (by rw [h1, h2]), a2⟩
theorem b10 {x : UInt8} (h : x.toNat = 10) : x = 10 := UInt8.toNat_inj.1 h
theorem nb10 {x : UInt8} (h : ¬ x.toNat = 10) : x ≠ 10 := fun e => h (by rw [e]; rfl)
theorem parts_len {c : Cfg} {j : Nat} (h : (textC c).length ≤ 1400) : (jT ((linesC c).take j)).length ≤ 1400 ∧ (jT ((linesC c).drop j)).length ≤ 1400 := by
  have e2 : (jT ((linesC c).take j)).length + (jT ((linesC c).drop j)).length = (textC c).length := by
    rw [← List.length_append, ← jT_app, List.take_append_drop]; rfl
  omega

theorem few5 {c : Cfg} (h : (bif (!(decide ((c.thr.length : Int) ≤ 30))) then true else (bif (!(decide (RightC c))) then true else ((c.thr.length : Int) == 12))) = false) : c.thr.length ≤ 30 ∧ RightC c ∧ c.thr.length ≠ 12 := by
  by_cases h1 : (c.thr.length : Int) ≤ 30
  · by_cases h2 : RightC c
    · rw [decide_eq_true h1, decide_eq_true h2] at h
      have h3 : ((c.thr.length : Int) == 12) = false := h
      have h4 := beq_eq_false_iff_ne.1 h3
      exact ⟨by omega, h2, by omega⟩
    · simp [h1, h2] at h
  · simp [h1] at h
theorem rd_lt {c : Cfg} {q : Nat} (hR : RightC c) (hi : InR c) (h : ThrAt c q) (M : Nat → Option (List AV)) : ACall Tryz.prog 10 [.list false 5 (byteAVs (jT ((linesC c).eraseIdx q)))] M (fun r M' => r = .tuple [encC (cfC (jT ((linesC c).eraseIdx q))), .lit (.int .i64 ((cfN (jT ((linesC c).eraseIdx q)) : Nat) : Int)), .lit (.int .i64 0)] ∧ M = M') :=
  read_of (by have h1 := er_len (X := linesC c) (linesC c).length q; rw [List.take_length] at h1; have h2 : (jT (linesC c)).length ≤ 1400 := text_len (prC hR) hi; omega) (less_t hR hi h) rfl M
theorem rd_ln {c : Cfg} {q : Nat} (hR : RightC c) (hi : InR c) (hq : q < (linesC c).length) (h : ¬ ThrAt c q) (M : Nat → Option (List AV)) : ACall Tryz.prog 10 [.list false 5 (byteAVs (jT ((linesC c).eraseIdx q)))] M (fun r M' => r = .tuple [encC (cfC (jT ((linesC c).eraseIdx q))), .lit (.int .i64 0), .lit (.int .i64 4)] ∧ M = M') :=
  read_of (by have h1 := er_len (X := linesC c) (linesC c).length q; rw [List.take_length] at h1; have h2 : (jT (linesC c)).length ≤ 1400 := text_len (prC hR) hi; omega) (less_n hR hi hq h).1 (less_n hR hi hq h).2 M
theorem rd_mt {c : Cfg} {q : Nat} (hR : RightC c) (hi : InR c) (h12 : c.thr.length ≠ 12) (h : ThrAt c q) (M : Nat → Option (List AV)) : ACall Tryz.prog 10 [.list false 5 (byteAVs (jT (linesC c ++ [(linesC c).getD q []])))] M (fun r M' => r = .tuple [encC (cfC (jT (linesC c ++ [(linesC c).getD q []]))), .lit (.int .i64 ((cfN (jT (linesC c ++ [(linesC c).getD q []])) : Nat) : Int)), .lit (.int .i64 0)] ∧ M = M') :=
  read_of (by have h1 := ln_le (X := linesC c) (i := q) (by rw [lines_len]; have := h.2; omega); have h2 : (jT (linesC c)).length ≤ 1400 := text_len (prC hR) hi; rw [← jT_snoc, List.length_append]; omega) (more_t hR hi h12 h) rfl M
theorem rd_mn {c : Cfg} {q : Nat} (hR : RightC c) (hi : InR c) (hq : q < (linesC c).length) (h : ¬ ThrAt c q) (M : Nat → Option (List AV)) : ACall Tryz.prog 10 [.list false 5 (byteAVs (jT (linesC c ++ [(linesC c).getD q []])))] M (fun r M' => r = .tuple [encC (cfC (jT (linesC c ++ [(linesC c).getD q []]))), .lit (.int .i64 (((linesC c).length + 1 : Nat) : Int)), .lit (.int .i64 5)] ∧ M = M') :=
  read_of (by have h1 := ln_le (X := linesC c) hq; have h2 : (jT (linesC c)).length ≤ 1400 := text_len (prC hR) hi; rw [← jT_snoc, List.length_append]; omega) (more_n hR hi hq h).1 (by rw [(more_n hR hi hq h).2]; omega) M

set_option maxRecDepth 20000 in
theorem ConfLines_any (c : Cfg) (hca : InR c) (k : Nat) (hk : k ≤ 255) (M : Nat → Option (List AV)) : ACall Tryz.prog 6 [encC c, .lit (.int .u8 (k : Int))] M (fun r M' => r = zB true ∧ M = M') := by
  refine ACall.of Tryz.func6 rfl (n := 127) rfl rfl rfl ?_
  refine zg ?_
  refine AOps.box trivial rfl (by decide) rfl (noL rfl) rfl (v := encC c) (.inl ⟨rfl, rfl⟩) rfl rfl (all_flat rfl) ?_
  refine AOps.freezeK 2 [0, 1, 2] [] (s' := ⟨[(0, encC c), (1, .lit (.int .u8 (k : Int))), (2, .eptr (encC c) 0)], [], M⟩) rfl rfl rfl ?_
  refine zM (zB false) ?_
  refine zN ?_
  refine AWp.seq ?_
  refine zj 35 [(0, encC c), (1, .lit (.int .u8 (k : Int))), (2, .eptr (encC c) 0), (4, zB false)] [] M (bif (!(decide ((c.thr.length : Int) ≤ 30))) then true else (bif (!(decide (RightC c))) then true else ((c.thr.length : Int) == 12))) ?_ ?_
  · skip
    refine zc [] Tryz.call9 (cawake_any M) ?_
    rintro _ _ ⟨rfl, rfl⟩
    refine zr (zn true) ?_
    refine zM (zB false) ?_
    refine zr (zlE (encC c) Tryz.underlying27 sizeOf_27) ?_
    refine zc [encC c] Tryz.call14 (few_any c M) ?_
    rintro _ _ ⟨rfl, rfl⟩
    refine zr (zn (decide ((c.thr.length : Int) ≤ 30))) ?_
    refine zr (zp false (zB (!(decide ((c.thr.length : Int) ≤ 30))))) ?_
    refine zM (zB (!(decide ((c.thr.length : Int) ≤ 30)))) ?_
    refine AOps.splitJ (t := 25) (b := !(decide ((c.thr.length : Int) ≤ 30))) (x := true) (y := (bif (!(decide (RightC c))) then true else ((c.thr.length : Int) == 12))) rfl (fun h1 => ?_) (fun h1 => ?_)
    · skip
      have h1' : ¬ c.thr.length ≤ 30 := (by have := of_decide_eq_false (bnot_t h1); omega)
      clear h1
      refine zs ?_
      refine zs ?_
      refine zs ?_
      refine zr (zp true (zB true)) ?_
      refine zM (zB true) ?_
      refine zs ?_
      refine zs ?_
      refine zs ?_
      refine zs ?_
      refine zr (zp true (zB true)) ?_
      exact AOps.nil rfl
    · skip
      have h1' : c.thr.length ≤ 30 := (by have := of_decide_eq_true (bnot_f h1); omega)
      clear h1
      refine zr (zlE (encC c) Tryz.underlying27 sizeOf_27) ?_
      refine zc [encC c] Tryz.call13 (RRight_any c (by first | omega | (simp only [List.length_nil]; omega) | assumption) M) ?_
      rintro _ _ ⟨rfl, rfl⟩
      refine zr (zn (decide (RightC c))) ?_
      refine zr (zp false (zB (!(decide (RightC c))))) ?_
      refine zM (zB (!(decide (RightC c)))) ?_
      refine AOps.splitJ (t := 30) (b := !(decide (RightC c))) (x := true) (y := ((c.thr.length : Int) == 12)) rfl (fun h2 => ?_) (fun h2 => ?_)
      · skip
        have h2' : ¬ RightC c := (of_decide_eq_false (bnot_t h2))
        clear h2
        refine zs ?_
        refine zs ?_
        refine zs ?_
        refine zs ?_
        refine zr (zp true (zB true)) ?_
        exact AOps.nil rfl
      · skip
        have h2' : RightC c := (of_decide_eq_true (bnot_f h2))
        clear h2
        refine zr (zfE Tryz.underlying27 sizeOf_25) ?_
        refine zr (zlE (.list false 40 (c.thr.map encT)) Tryz.underlying25 sizeOf_25) ?_
        refine zr (zL (c.thr.map encT) c.thr.length Tryz.underlying25 (by simp)) ?_
        refine zr (zi ((c.thr.length : Int) == 12)) ?_
        refine zr (zp false (zB ((c.thr.length : Int) == 12))) ?_
        exact AOps.nil rfl
  refine zC (b := bif (!(decide ((c.thr.length : Int) ≤ 30))) then true else (bif (!(decide (RightC c))) then true else ((c.thr.length : Int) == 12))) rfl (fun h3 => ?_) (fun h3 => ?_)
  · skip
    have h3' : True := trivial
    clear h3
    refine zg ?_
    refine zc [] Tryz.call9 (cawake_any M) ?_
    rintro _ _ ⟨rfl, rfl⟩
    refine zM (zB true) ?_
    refine zN ?_
    refine AWp.ret ?_
    exact ⟨.inl rfl, _, ResOf.one 4 (zB true) rfl rfl, ⟨rfl, rfl⟩⟩
  · skip
    have h3' : c.thr.length ≤ 30 ∧ RightC c ∧ c.thr.length ≠ 12 := (few5 h3)
    clear h3
    have hR := h3'.2.1
    have hp := prC hR
    have htl := text_len hp hca
    have hl30 := h3'.1
    have h12 := h3'.2.2
    have hXl := lines_len c
    have hlen := hp.len
    have hql : (k % (linesC c).length) < (linesC c).length := Nat.mod_lt _ (by omega)
    have hjx : (jT (linesC c)).length ≤ 1400 := htl
    have hb1 : (jT ((linesC c).eraseIdx (k % (linesC c).length))).length ≤ 1400 := by have h1 := er_len (X := linesC c) (linesC c).length (k % (linesC c).length); rw [List.take_length] at h1; omega
    have hb3 : (jT (linesC c ++ [(linesC c).getD (k % (linesC c).length) []])).length ≤ 2800 := by have h1 := ln_le (X := linesC c) hql; rw [← jT_snoc, List.length_append]; omega
    have hb4 : 1 ≤ (lnT ((linesC c).getD (k % (linesC c).length) [])).length := by unfold lnT; rw [List.length_append]; show 1 ≤ _ + 1; omega
    refine AWp.skip ?_
    refine zg ?_
    refine zr (zlE (encC c) Tryz.underlying27 sizeOf_27) ?_
    refine zc [encC c] Tryz.call18 (rCPrint_any c hp hca M) ?_
    rintro _ _ ⟨rfl, rfl⟩
    refine zM (.str (textC c)) ?_
    refine zN ?_
    refine zg ?_
    refine AOps.nilList 9 trivial rfl (by decide) (.inl rfl) ?_
    refine zN ?_
    refine zg ?_
    refine zM (zI 0) ?_
    refine zN ?_
    refine AWp.seq ?_
    refine zg ?_
    refine zM (zI 0) ?_
    refine zN ?_
    refine AWp.block ?_
    refine AWp.loopE [1, 2, 4, 5, 6, 7, 8] [] (fun m s => ∃ (i F j : Nat), m = (textC c).length - i ∧ s = ⟨[(1, .lit (.int .u8 (k : Int))), (2, .eptr (encC c) 0), (4, zB false), (5, .str (textC c)), (6, .list true 9 ((((linesC c).take j).map lnT).map AV.str)), (7, zI (F : Int)), (8, zI (i : Int))], [], M⟩ ∧ (i ≤ (textC c).length) ∧ (Posn (linesC c) j F i) ∧ (j ≤ (linesC c).length)) ?_ ?_
    · exact ⟨_, 0, 0, 0, rfl, rfl, Nat.zero_le _, pos_0 _, Nat.zero_le _⟩
    · rintro _ _ ⟨i, F, j, rfl, rfl, hi, hpos, hjl⟩
      have hF := hpos.2.2.1
      have hin : i < (textC c).length → j < (linesC c).length := fun h => pos_in hpos h
      refine AWp.seq ?_
      refine zg ?_
      refine zM (zI (i : Int)) ?_
      refine zM (.str (textC c)) ?_
      refine zr (zS (textC c) ((textC c).length) Tryz.underlying9 (by first | rfl | simp)) ?_
      refine zr (zi (decide ((i : Int) < (((textC c).length : Nat) : Int)))) ?_
      refine zN ?_
      refine zC (b := decide ((i : Int) < (((textC c).length : Nat) : Int))) rfl (fun h4 => ?_) (fun h4 => ?_)
      · skip
        have h4' : i < ((textC c).length) := (by have hh := of_decide_eq_true h4; omega)
        clear h4
        refine AWp.skip ?_
        refine AWp.seq ?_
        refine AWp.block ?_
        refine zg ?_
        refine zM (.str (textC c)) ?_
        refine zM (zI (i : Int)) ?_
        refine zr (Reader.byte (m := i) (c := (textC c).getD i 0) rfl Tryz.underlying9 rfl rfl rfl (getD_some (by first | omega | (simp; omega)))) ?_
        refine zr (zi ((((textC c).getD i 0).toNat : Int) == 10)) ?_
        refine zN ?_
        refine zC (b := (((textC c).getD i 0).toNat : Int) == 10) rfl (fun h5 => ?_) (fun h5 => ?_)
        · skip
          have h5' : (((textC c).getD i 0).toNat) = 10 := (by have hh := eq_of_beq h5; omega)
          clear h5
          refine zg ?_
          refine zT (v := .list true 9 ((((linesC c).take j).map lnT).map AV.str)) rfl ?_
          refine zM (.str (textC c)) ?_
          refine zM (zI (F : Int)) ?_
          refine zM (zI (i : Int)) ?_
          refine zr (zw ((i : Int) + 1) ((i + 1 : Nat) : Int)) ?_
          refine zr (Reader.sub (i := F) (j := i + 1) rfl Tryz.underlying9 rfl ⟨_, _, rfl, rfl⟩ ⟨_, _, rfl, rfl⟩ (by first | omega | (simp; omega)) (by first | omega | (simp; omega)) (m := lnT ((linesC c).getD j [])) (pos_line (lines_ok c) hpos (by show i < (textC c).length; omega) (b10 (by assumption)))) ?_
          refine zbS [] [.str (lnT ((linesC c).getD j []))] Tryz.underlying38 Tryz.i9 ?_
          refine zap (m1 := j) (m2 := 1) 16 ((((linesC c).take j).map lnT).map AV.str) [.str (lnT ((linesC c).getD j []))] ((((linesC c).take (j + 1)).map lnT).map AV.str) Tryz.underlying38 Tryz.underlying38 Tryz.i9 (ln_len (by omega)) rfl (ln_app (by omega)) ?_
          refine zT (v := .list true 9 ((((linesC c).take (j + 1)).map lnT).map AV.str)) rfl ?_
          refine zN ?_
          refine AWp.region ?_
          refine zM (zI (i : Int)) ?_
          refine zr (zw ((i : Int) + 1) ((i + 1 : Nat) : Int)) ?_
          refine zM (zI ((i + 1 : Nat) : Int)) ?_
          refine zN ?_
          refine AWp.region ?_
          refine zM (zI (i : Int)) ?_
          refine zr (zw ((i : Int) + 1) ((i + 1 : Nat) : Int)) ?_
          refine zM (zI ((i + 1 : Nat) : Int)) ?_
          refine zN ?_
          first | exact ⟨_, by omega, i + 1, i + 1, j + 1, rfl, rfl, by omega, pos_nl (lines_ok c) hpos (by show i < (textC c).length; omega) (b10 (by assumption)), by omega⟩ | exact ⟨_, by omega, i + 1, F, j, rfl, rfl, by omega, pos_go (lines_ok c) hpos (by show i < (textC c).length; omega) (nb10 (by assumption)), by omega⟩
        · skip
          have h5' : ¬ ((((textC c).getD i 0).toNat) = 10) := (by have hh := beq_eq_false_iff_ne.1 h5; omega)
          clear h5
          refine AWp.skip ?_
          refine AWp.region ?_
          refine zM (zI (i : Int)) ?_
          refine zr (zw ((i : Int) + 1) ((i + 1 : Nat) : Int)) ?_
          refine zM (zI ((i + 1 : Nat) : Int)) ?_
          refine zN ?_
          first | exact ⟨_, by omega, i + 1, i + 1, j + 1, rfl, rfl, by omega, pos_nl (lines_ok c) hpos (by show i < (textC c).length; omega) (b10 (by assumption)), by omega⟩ | exact ⟨_, by omega, i + 1, F, j, rfl, rfl, by omega, pos_go (lines_ok c) hpos (by show i < (textC c).length; omega) (nb10 (by assumption)), by omega⟩
      · skip
        have h4' : ¬ (i < ((textC c).length)) := (by have hh := of_decide_eq_false h4; omega)
        clear h4
        refine AWp.exit ?_
        have hje := pos_end hpos (by show (textC c).length ≤ i; omega)
        subst hje
        rw [List.take_length]
        refine zg ?_
        refine zM (.lit (.int .u8 (k : Int))) ?_
        refine zr (Reader.conv rfl Tryz.underlying5 Tryz.underlying3 (by simp) rfl (c := (k : Int)) (by first | exact IntWalk.i64_in _ (by omega) | exact IntWalk.i64_in _ (by constructor <;> omega) | (simp only [];omega))) ?_
        refine zM (.list false 9 (((linesC c).map lnT).map AV.str)) ?_
        refine zr (zL (((linesC c).map lnT).map AV.str) ((linesC c).length) Tryz.underlying38 ln_len2) ?_
        refine zr (Reader.rem rfl rfl rfl (by omega) (c := ((k % ((linesC c).length) : Nat) : Int)) (nat_rem _ _)) ?_
        refine zM (zI ((k % ((linesC c).length) : Nat) : Int)) ?_
        refine zN ?_
        refine zg ?_
        refine zM (.str []) ?_
        refine zN ?_
        refine AWp.seq ?_
        refine zg ?_
        refine zM (zI 0) ?_
        refine zN ?_
        refine AWp.block ?_
        refine AWp.loopE [1, 2, 4, 5, 6, 9, 10, 11] [] (fun m s => ∃ (i : Nat), m = (linesC c).length - i ∧ s = ⟨[(1, .lit (.int .u8 (k : Int))), (2, .eptr (encC c) 0), (4, zB false), (5, .str (textC c)), (6, .list true 9 (((linesC c).map lnT).map AV.str)), (9, zI ((k % (linesC c).length : Nat) : Int)), (10, .str (jT (((linesC c).take i).eraseIdx (k % (linesC c).length)))), (11, zI (i : Int))], [], M⟩ ∧ (i ≤ (linesC c).length)) ?_ ?_
        · exact ⟨_, 0, rfl, rfl, Nat.zero_le _⟩
        · rintro _ _ ⟨i, rfl, rfl, hi2⟩
          refine AWp.seq ?_
          refine zg ?_
          refine zM (zI (i : Int)) ?_
          refine zM (.list false 9 (((linesC c).map lnT).map AV.str)) ?_
          refine zr (zL (((linesC c).map lnT).map AV.str) ((linesC c).length) Tryz.underlying38 ln_len2) ?_
          refine zr (zi (decide ((i : Int) < (((linesC c).length : Nat) : Int)))) ?_
          refine zN ?_
          refine zC (b := decide ((i : Int) < (((linesC c).length : Nat) : Int))) rfl (fun h6 => ?_) (fun h6 => ?_)
          · skip
            have h6' : i < ((linesC c).length) := (by have hh := of_decide_eq_true h6; omega)
            clear h6
            refine AWp.skip ?_
            refine AWp.seq ?_
            refine AWp.block ?_
            refine zg ?_
            refine zM (zI (i : Int)) ?_
            refine zM (zI ((k % (linesC c).length : Nat) : Int)) ?_
            refine zr (zi ((i : Int) != ((k % (linesC c).length : Nat) : Int))) ?_
            refine zN ?_
            refine zC (b := (i : Int) != ((k % (linesC c).length : Nat) : Int)) rfl (fun h7 => ?_) (fun h7 => ?_)
            · skip
              have h7' : i ≠ (k % (linesC c).length) := (by have hh := bne_iff_ne.1 h7; omega)
              clear h7
              refine AWp.region ?_
              refine zM (.str (jT (((linesC c).take i).eraseIdx (k % (linesC c).length)))) ?_
              refine zM (.list false 9 (((linesC c).map lnT).map AV.str)) ?_
              refine zM (zI (i : Int)) ?_
              refine zr (zel i (.str (lnT ((linesC c).getD i []))) Tryz.underlying38 sizeOf_9 (ln_at (by omega))) ?_
              refine zr (zlE (.str (lnT ((linesC c).getD i []))) Tryz.underlying9 sizeOf_9) ?_
              refine zr (Reader.cat rfl rfl rfl (by have h1 := er_len (X := linesC c) i (k % (linesC c).length); have h2 := ln_le (X := linesC c) (i := i) (by omega); omega) (c := jT (((linesC c).take (i + 1)).eraseIdx (k % (linesC c).length))) (er_more (by omega) (by omega))) ?_
              refine zM (.str (jT (((linesC c).take (i + 1)).eraseIdx (k % (linesC c).length)))) ?_
              refine zN ?_
              refine AWp.region ?_
              refine zM (zI (i : Int)) ?_
              refine zr (zw ((i : Int) + 1) ((i + 1 : Nat) : Int)) ?_
              refine zM (zI ((i + 1 : Nat) : Int)) ?_
              refine zN ?_
              first | exact ⟨_, by omega, i + 1, rfl, rfl, by omega⟩ | exact ⟨_, by omega, i + 1, rfl, (by rw [er_same (X := linesC c) (i := i) (by omega) (by omega)]; rfl), by omega⟩
            · skip
              have h7' : ¬ (i ≠ (k % (linesC c).length)) := (by have hh := bne_eq_false_iff_eq.1 h7; omega)
              clear h7
              refine AWp.skip ?_
              refine AWp.region ?_
              refine zM (zI (i : Int)) ?_
              refine zr (zw ((i : Int) + 1) ((i + 1 : Nat) : Int)) ?_
              refine zM (zI ((i + 1 : Nat) : Int)) ?_
              refine zN ?_
              first | exact ⟨_, by omega, i + 1, rfl, rfl, by omega⟩ | exact ⟨_, by omega, i + 1, rfl, (by rw [er_same (X := linesC c) (i := i) (by omega) (by omega)]; rfl), by omega⟩
          · skip
            have h6' : ¬ (i < ((linesC c).length)) := (by have hh := of_decide_eq_false h6; omega)
            clear h6
            refine AWp.exit ?_
            have hie : i = (linesC c).length := by omega
            subst hie
            rw [List.take_length]
            by_cases hq : ThrAt c (k % (linesC c).length)
            · skip
              refine zg ?_
              refine zM (.str (jT ((linesC c).eraseIdx (k % (linesC c).length)))) ?_
              refine AOps.toBytes (_D := .bool) trivial rfl (by decide) rfl Tryz.underlying9 Tryz.underlying22 Tryz.underlying5 rfl (sizeOf_5) (by first | omega | (simp; omega)) ?_
              refine zc [.list false 5 (byteAVs (jT ((linesC c).eraseIdx (k % (linesC c).length))))] Tryz.call10 (rd_lt hR hca hq M) ?_
              rintro _ _ ⟨rfl, rfl⟩
              refine zM (.tuple [encC (cfC (jT ((linesC c).eraseIdx (k % (linesC c).length)))), zI ((cfN (jT ((linesC c).eraseIdx (k % (linesC c).length))) : Nat) : Int), zI 0]) ?_
              refine zr (zx (encC (cfC (jT ((linesC c).eraseIdx (k % (linesC c).length)))))) ?_
              refine zr (zx (zI ((cfN (jT ((linesC c).eraseIdx (k % (linesC c).length))) : Nat) : Int))) ?_
              refine zr (zx (zI 0)) ?_
              refine zal [40] zero_27 [zI 0, zI 0, zI 0, zI 0, zI 0, zI 0, .list false 40 [], zI 0, zI 0, zI 0, zI 0] ?_
              refine zst sizeOf_27 (encC (cfC (jT ((linesC c).eraseIdx (k % (linesC c).length))))) ?_
              refine zM (zI ((cfN (jT ((linesC c).eraseIdx (k % (linesC c).length))) : Nat) : Int)) ?_
              refine zM (zI 0) ?_
              refine zN ?_
              refine zg ?_
              refine zM (.str (textC c)) ?_
              refine zM (.list false 9 (((linesC c).map lnT).map AV.str)) ?_
              refine zM (zI ((k % (linesC c).length : Nat) : Int)) ?_
              refine zr (Reader.elemAddr (m := k % (linesC c).length) rfl Tryz.underlying38 sizeOf_9 rfl rfl rfl (e := .str (lnT ((linesC c).getD (k % (linesC c).length) []))) (ln_at (by omega))) ?_
              refine zr (zlE (.str (lnT ((linesC c).getD (k % (linesC c).length) []))) Tryz.underlying9 sizeOf_9) ?_
              refine zr (Reader.cat rfl rfl rfl (by have h2 := ln_le (X := linesC c) (i := (k % (linesC c).length)) hql; show (jT (linesC c)).length + _ ≤ _; omega) (c := jT ((linesC c) ++ [(linesC c).getD (k % (linesC c).length) []])) (jT_snoc _ _)) ?_
              refine AOps.toBytes (_D := .bool) trivial rfl (by decide) rfl Tryz.underlying9 Tryz.underlying22 Tryz.underlying5 rfl (sizeOf_5) (by first | omega | (simp; omega)) ?_
              refine zc [.list false 5 (byteAVs (jT ((linesC c) ++ [(linesC c).getD (k % (linesC c).length) []])))] Tryz.call10 (rd_mt hR hca h12 hq M) ?_
              rintro _ _ ⟨rfl, rfl⟩
              refine zM (.tuple [encC (cfC (jT ((linesC c) ++ [(linesC c).getD (k % (linesC c).length) []]))), zI ((cfN (jT ((linesC c) ++ [(linesC c).getD (k % (linesC c).length) []])) : Nat) : Int), zI 0]) ?_
              refine zr (zx (encC (cfC (jT ((linesC c) ++ [(linesC c).getD (k % (linesC c).length) []]))))) ?_
              refine zr (zx (zI ((cfN (jT ((linesC c) ++ [(linesC c).getD (k % (linesC c).length) []])) : Nat) : Int))) ?_
              refine zr (zx (zI 0)) ?_
              refine zal [40] zero_27 [zI 0, zI 0, zI 0, zI 0, zI 0, zI 0, .list false 40 [], zI 0, zI 0, zI 0, zI 0] ?_
              refine zst sizeOf_27 (encC (cfC (jT ((linesC c) ++ [(linesC c).getD (k % (linesC c).length) []])))) ?_
              refine zM (zI ((cfN (jT ((linesC c) ++ [(linesC c).getD (k % (linesC c).length) []])) : Nat) : Int)) ?_
              refine zM (zI 0) ?_
              refine zN ?_
              refine AWp.seq ?_
              refine zg ?_
              refine zM (.list false 9 (((linesC c).map lnT).map AV.str)) ?_
              refine zM (zI ((k % (linesC c).length : Nat) : Int)) ?_
              refine zr (Reader.elemAddr (m := k % (linesC c).length) rfl Tryz.underlying38 sizeOf_9 rfl rfl rfl (e := .str (lnT ((linesC c).getD (k % (linesC c).length) []))) (ln_at (by omega))) ?_
              refine zr (zlE (.str (lnT ((linesC c).getD (k % (linesC c).length) []))) Tryz.underlying9 sizeOf_9) ?_
              refine zr (Reader.sub (i := 0) (j := 1) rfl Tryz.underlying9 rfl rfl ⟨_, _, rfl, rfl⟩ (by first | omega | (simp; omega)) (by first | omega | (simp; omega)) (m := [116]) (by rw [List.drop_zero]; exact thr_first hq)) ?_
              refine zr (zt true) ?_
              refine zN ?_
              refine AWp.cond (b := true) rfl (fun hx => ?_) (fun hx => by cases hx)
              refine zj 4 [(1, .lit (.int .u8 (k : Int))), (2, .eptr (encC c) 0), (5, .str (textC c)), (6, .list true 9 (((linesC c).map lnT).map AV.str)), (9, zI ((k % (linesC c).length : Nat) : Int)), (10, .str (jT ((linesC c).eraseIdx (k % (linesC c).length)))), (11, zI (((linesC c).length : Nat) : Int)), (67, zB (decide ((((linesC c).length : Nat) : Int) < (((linesC c).length : Nat) : Int)))), (13, zI ((cfN (jT ((linesC c).eraseIdx (k % (linesC c).length))) : Nat) : Int)), (14, zI 0), (16, zI ((cfN (jT ((linesC c) ++ [(linesC c).getD (k % (linesC c).length) []])) : Nat) : Int)), (17, zI 0), (103, zB true)] [(12, [zI ((cfC (jT ((linesC c).eraseIdx (k % (linesC c).length)))).c0), zI ((cfC (jT ((linesC c).eraseIdx (k % (linesC c).length)))).c1), zI ((cfC (jT ((linesC c).eraseIdx (k % (linesC c).length)))).c2), zI ((cfC (jT ((linesC c).eraseIdx (k % (linesC c).length)))).a0), zI ((cfC (jT ((linesC c).eraseIdx (k % (linesC c).length)))).a1), zI ((cfC (jT ((linesC c).eraseIdx (k % (linesC c).length)))).a2), .list false 40 (((cfC (jT ((linesC c).eraseIdx (k % (linesC c).length)))).thr).map encT), zI ((cfC (jT ((linesC c).eraseIdx (k % (linesC c).length)))).per), zI ((cfC (jT ((linesC c).eraseIdx (k % (linesC c).length)))).ret), zI ((cfC (jT ((linesC c).eraseIdx (k % (linesC c).length)))).age), zI ((cfC (jT ((linesC c).eraseIdx (k % (linesC c).length)))).ded)]), (15, [zI ((cfC (jT ((linesC c) ++ [(linesC c).getD (k % (linesC c).length) []]))).c0), zI ((cfC (jT ((linesC c) ++ [(linesC c).getD (k % (linesC c).length) []]))).c1), zI ((cfC (jT ((linesC c) ++ [(linesC c).getD (k % (linesC c).length) []]))).c2), zI ((cfC (jT ((linesC c) ++ [(linesC c).getD (k % (linesC c).length) []]))).a0), zI ((cfC (jT ((linesC c) ++ [(linesC c).getD (k % (linesC c).length) []]))).a1), zI ((cfC (jT ((linesC c) ++ [(linesC c).getD (k % (linesC c).length) []]))).a2), .list false 40 (((cfC (jT ((linesC c) ++ [(linesC c).getD (k % (linesC c).length) []]))).thr).map encT), zI ((cfC (jT ((linesC c) ++ [(linesC c).getD (k % (linesC c).length) []]))).per), zI ((cfC (jT ((linesC c) ++ [(linesC c).getD (k % (linesC c).length) []]))).ret), zI ((cfC (jT ((linesC c) ++ [(linesC c).getD (k % (linesC c).length) []]))).age), zI ((cfC (jT ((linesC c) ++ [(linesC c).getD (k % (linesC c).length) []]))).ded)])] M true ?_ ?_
              · skip
                refine zM (zI 0) ?_
                refine zr (zi true) ?_
                refine zM (zB true) ?_
                refine zM (zI 0) ?_
                refine zr (zi true) ?_
                refine zr (zp true (zB true)) ?_
                refine zM (zB true) ?_
                exact AOps.nil rfl
              refine AWp.ret ?_
              exact ⟨.inl rfl, _, ResOf.one 4 (zB true) rfl rfl, ⟨rfl, rfl⟩⟩
            · skip
              refine zg ?_
              refine zM (.str (jT ((linesC c).eraseIdx (k % (linesC c).length)))) ?_
              refine AOps.toBytes (_D := .bool) trivial rfl (by decide) rfl Tryz.underlying9 Tryz.underlying22 Tryz.underlying5 rfl (sizeOf_5) (by first | omega | (simp; omega)) ?_
              refine zc [.list false 5 (byteAVs (jT ((linesC c).eraseIdx (k % (linesC c).length))))] Tryz.call10 (rd_ln hR hca hql hq M) ?_
              rintro _ _ ⟨rfl, rfl⟩
              refine zM (.tuple [encC (cfC (jT ((linesC c).eraseIdx (k % (linesC c).length)))), zI 0, zI 4]) ?_
              refine zr (zx (encC (cfC (jT ((linesC c).eraseIdx (k % (linesC c).length)))))) ?_
              refine zr (zx (zI 0)) ?_
              refine zr (zx (zI 4)) ?_
              refine zal [40] zero_27 [zI 0, zI 0, zI 0, zI 0, zI 0, zI 0, .list false 40 [], zI 0, zI 0, zI 0, zI 0] ?_
              refine zst sizeOf_27 (encC (cfC (jT ((linesC c).eraseIdx (k % (linesC c).length))))) ?_
              refine zM (zI 0) ?_
              refine zM (zI 4) ?_
              refine zN ?_
              refine zg ?_
              refine zM (.str (textC c)) ?_
              refine zM (.list false 9 (((linesC c).map lnT).map AV.str)) ?_
              refine zM (zI ((k % (linesC c).length : Nat) : Int)) ?_
              refine zr (Reader.elemAddr (m := k % (linesC c).length) rfl Tryz.underlying38 sizeOf_9 rfl rfl rfl (e := .str (lnT ((linesC c).getD (k % (linesC c).length) []))) (ln_at (by omega))) ?_
              refine zr (zlE (.str (lnT ((linesC c).getD (k % (linesC c).length) []))) Tryz.underlying9 sizeOf_9) ?_
              refine zr (Reader.cat rfl rfl rfl (by have h2 := ln_le (X := linesC c) (i := (k % (linesC c).length)) hql; show (jT (linesC c)).length + _ ≤ _; omega) (c := jT ((linesC c) ++ [(linesC c).getD (k % (linesC c).length) []])) (jT_snoc _ _)) ?_
              refine AOps.toBytes (_D := .bool) trivial rfl (by decide) rfl Tryz.underlying9 Tryz.underlying22 Tryz.underlying5 rfl (sizeOf_5) (by first | omega | (simp; omega)) ?_
              refine zc [.list false 5 (byteAVs (jT ((linesC c) ++ [(linesC c).getD (k % (linesC c).length) []])))] Tryz.call10 (rd_mn hR hca hql hq M) ?_
              rintro _ _ ⟨rfl, rfl⟩
              refine zM (.tuple [encC (cfC (jT ((linesC c) ++ [(linesC c).getD (k % (linesC c).length) []]))), zI (((linesC c).length + 1 : Nat) : Int), zI 5]) ?_
              refine zr (zx (encC (cfC (jT ((linesC c) ++ [(linesC c).getD (k % (linesC c).length) []]))))) ?_
              refine zr (zx (zI (((linesC c).length + 1 : Nat) : Int))) ?_
              refine zr (zx (zI 5)) ?_
              refine zal [40] zero_27 [zI 0, zI 0, zI 0, zI 0, zI 0, zI 0, .list false 40 [], zI 0, zI 0, zI 0, zI 0] ?_
              refine zst sizeOf_27 (encC (cfC (jT ((linesC c) ++ [(linesC c).getD (k % (linesC c).length) []])))) ?_
              refine zM (zI (((linesC c).length + 1 : Nat) : Int)) ?_
              refine zM (zI 5) ?_
              refine zN ?_
              refine AWp.seq ?_
              refine zg ?_
              refine zM (.list false 9 (((linesC c).map lnT).map AV.str)) ?_
              refine zM (zI ((k % (linesC c).length : Nat) : Int)) ?_
              refine zr (Reader.elemAddr (m := k % (linesC c).length) rfl Tryz.underlying38 sizeOf_9 rfl rfl rfl (e := .str (lnT ((linesC c).getD (k % (linesC c).length) []))) (ln_at (by omega))) ?_
              refine zr (zlE (.str (lnT ((linesC c).getD (k % (linesC c).length) []))) Tryz.underlying9 sizeOf_9) ?_
              refine zr (Reader.sub (i := 0) (j := 1) rfl Tryz.underlying9 rfl rfl ⟨_, _, rfl, rfl⟩ (by first | omega | (simp; omega)) (by first | omega | (simp; omega)) (m := (lnT ((linesC c).getD (k % (linesC c).length) [])).take 1) (List.drop_zero ..)) ?_
              refine zr (zt (((lnT ((linesC c).getD (k % (linesC c).length) [])).take 1) == [116])) ?_
              refine zN ?_
              refine zC (b := ((lnT ((linesC c).getD (k % (linesC c).length) [])).take 1) == [116]) rfl (fun h8 => ?_) (fun h8 => ?_)
              · skip
                have h8' : ((lnT ((linesC c).getD (k % (linesC c).length) [])).take 1) = [116] := (eq_of_beq h8)
                clear h8
                exfalso; exact num_first hql hq (by assumption)
              · skip
                have h8' : ¬ (((lnT ((linesC c).getD (k % (linesC c).length) [])).take 1) = [116]) := (beq_eq_false_iff_ne.1 h8)
                clear h8
                refine AWp.skip ?_
                refine zj 4 [(1, .lit (.int .u8 (k : Int))), (2, .eptr (encC c) 0), (5, .str (textC c)), (6, .list true 9 (((linesC c).map lnT).map AV.str)), (9, zI ((k % (linesC c).length : Nat) : Int)), (10, .str (jT ((linesC c).eraseIdx (k % (linesC c).length)))), (11, zI (((linesC c).length : Nat) : Int)), (67, zB (decide ((((linesC c).length : Nat) : Int) < (((linesC c).length : Nat) : Int)))), (13, zI 0), (14, zI 4), (16, zI (((linesC c).length + 1 : Nat) : Int)), (17, zI 5), (103, zB (((lnT ((linesC c).getD (k % (linesC c).length) [])).take 1) == [116]))] [(12, [zI ((cfC (jT ((linesC c).eraseIdx (k % (linesC c).length)))).c0), zI ((cfC (jT ((linesC c).eraseIdx (k % (linesC c).length)))).c1), zI ((cfC (jT ((linesC c).eraseIdx (k % (linesC c).length)))).c2), zI ((cfC (jT ((linesC c).eraseIdx (k % (linesC c).length)))).a0), zI ((cfC (jT ((linesC c).eraseIdx (k % (linesC c).length)))).a1), zI ((cfC (jT ((linesC c).eraseIdx (k % (linesC c).length)))).a2), .list false 40 (((cfC (jT ((linesC c).eraseIdx (k % (linesC c).length)))).thr).map encT), zI ((cfC (jT ((linesC c).eraseIdx (k % (linesC c).length)))).per), zI ((cfC (jT ((linesC c).eraseIdx (k % (linesC c).length)))).ret), zI ((cfC (jT ((linesC c).eraseIdx (k % (linesC c).length)))).age), zI ((cfC (jT ((linesC c).eraseIdx (k % (linesC c).length)))).ded)]), (15, [zI ((cfC (jT ((linesC c) ++ [(linesC c).getD (k % (linesC c).length) []]))).c0), zI ((cfC (jT ((linesC c) ++ [(linesC c).getD (k % (linesC c).length) []]))).c1), zI ((cfC (jT ((linesC c) ++ [(linesC c).getD (k % (linesC c).length) []]))).c2), zI ((cfC (jT ((linesC c) ++ [(linesC c).getD (k % (linesC c).length) []]))).a0), zI ((cfC (jT ((linesC c) ++ [(linesC c).getD (k % (linesC c).length) []]))).a1), zI ((cfC (jT ((linesC c) ++ [(linesC c).getD (k % (linesC c).length) []]))).a2), .list false 40 (((cfC (jT ((linesC c) ++ [(linesC c).getD (k % (linesC c).length) []]))).thr).map encT), zI ((cfC (jT ((linesC c) ++ [(linesC c).getD (k % (linesC c).length) []]))).per), zI ((cfC (jT ((linesC c) ++ [(linesC c).getD (k % (linesC c).length) []]))).ret), zI ((cfC (jT ((linesC c) ++ [(linesC c).getD (k % (linesC c).length) []]))).age), zI ((cfC (jT ((linesC c) ++ [(linesC c).getD (k % (linesC c).length) []]))).ded)])] M ((((linesC c).length + 1 : Nat) : Int) == ((((linesC c).length) + 1 : Nat) : Int)) ?_ ?_
                · skip
                  refine zM (zI 4) ?_
                  refine zr (zi true) ?_
                  refine zM (zB true) ?_
                  refine zM (zI 0) ?_
                  refine zr (zi true) ?_
                  refine zr (zp true (zB true)) ?_
                  refine zM (zB true) ?_
                  refine zM (zI 5) ?_
                  refine zr (zi true) ?_
                  refine zr (zp true (zB true)) ?_
                  refine zM (zB true) ?_
                  refine zM (zI (((linesC c).length + 1 : Nat) : Int)) ?_
                  refine zM (.list false 9 (((linesC c).map lnT).map AV.str)) ?_
                  refine zr (zL (((linesC c).map lnT).map AV.str) ((linesC c).length) Tryz.underlying38 ln_len2) ?_
                  refine zr (zw ((((linesC c).length : Nat) : Int) + 1) ((((linesC c).length) + 1 : Nat) : Int)) ?_
                  refine zr (zi ((((linesC c).length + 1 : Nat) : Int) == ((((linesC c).length) + 1 : Nat) : Int))) ?_
                  refine zr (zp true (zB ((((linesC c).length + 1 : Nat) : Int) == ((((linesC c).length) + 1 : Nat) : Int)))) ?_
                  refine zM (zB ((((linesC c).length + 1 : Nat) : Int) == ((((linesC c).length) + 1 : Nat) : Int))) ?_
                  exact AOps.nil rfl
                refine AWp.ret ?_
                exact ⟨.inl rfl, _, ResOf.one 4 (zB ((((linesC c).length + 1 : Nat) : Int) == ((((linesC c).length) + 1 : Nat) : Int))) rfl rfl, ⟨congrArg (fun b => AV.lit (.bool b)) (by simp), rfl⟩⟩
end Go.Proofs.YtmmfkpbkacfegaaGreatDoor
