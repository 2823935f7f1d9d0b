/- Walks over abstract values, printed by my program av.py. -/
import Derived.Test.YtlpihekflkjkfaaDoorLg3
import Derived.Test.YtlpihekflkjkfaaDoorAvZ
namespace Go.Proofs.YtlpihekflkjkfaaDoor
open Go.RowKit

theorem gz {k : Int} {l : List (List UInt8)} : (bif k != 6 then (bif k != 7 then (bif k != 16 then decide ((l.length : Int) > 0) else false) else false) else false) = decide (Named k ∧ 0 < l.length) := by
  unfold Named
  by_cases h6 : k = 6
  · subst h6; simp
  · by_cases h7 : k = 7
    · subst h7; simp
    · by_cases h16 : k = 16
      · subst h16; simp
      · rw [bne_iff_ne.2 h6, bne_iff_ne.2 h7, bne_iff_ne.2 h16]
        simp only [cond_true]
        rw [Bool.eq_iff_iff, decide_eq_true_iff, decide_eq_true_iff]
        constructor
        · intro h; exact ⟨⟨h6, h7, h16⟩, by omega⟩
        · intro h; omega
theorem gp {l : List (List UInt8)} : (bif decide ((l.length : Int) > 1) then l.getD 1 [] == [112, 114, 101, 115, 115, 117, 114, 101] else false) = decide (1 < l.length ∧ l.getD 1 [] = presL) := by
  by_cases h : 1 < l.length
  · rw [decide_eq_true (show (l.length : Int) > 1 by omega)]
    simp only [cond_true]
    rw [Bool.eq_iff_iff, decide_eq_true_iff, beq_iff_eq]
    exact ⟨fun e => ⟨h, e⟩, fun e => e.2⟩
  · rw [decide_eq_false (show ¬ (l.length : Int) > 1 by omega), decide_eq_false (fun e => h e.1)]; rfl
theorem getD_le {l : List (List UInt8)} {b : Nat} (hl : ∀ x ∈ l, x.length ≤ b) (i : Nat) : (l.getD i []).length ≤ b := by
  rcases Nat.lt_or_ge i l.length with h | h
  · rw [List.getD_eq_getElem?_getD, List.getElem?_eq_getElem h]; exact hl _ (List.getElem_mem h)
  · rw [List.getD_eq_getElem?_getD, List.getElem?_eq_none h]; exact Nat.zero_le _
theorem mx0_idx (x : List UInt8) : ((idxL sigL x).toNat : Int) = mx0 (sigOf x) := by
  rw [sig_idx]; unfold mx0; split <;> omega
theorem split_all {t : List UInt8} (hl : t.length ≤ 4294967280) : ∀ x ∈ splitC 32 t, x.length ≤ 4294967280 := by
  intro x hx
  obtain ⟨k, hk⟩ := List.getElem?_of_mem hx
  have := splitC_mem 32 t k x hk
  omega
theorem split_le {t : List UInt8} (hl : t.length ≤ 4294967280) (i : Nat) : ((splitC 32 t).getD i []).length ≤ 4294967280 := getD_le (split_all hl) i
theorem drop_le {l : List (List UInt8)} {b : Nat} (hl : ∀ x ∈ l, x.length ≤ b) (i : Nat) : ∀ x ∈ l.drop i, x.length ≤ b := fun x hx => hl x (List.mem_of_mem_drop hx)
theorem gE_id {t : List UInt8} (hl : t.length ≤ 4294967280) : (gE t).id.length ≤ 4294967280 := by
  unfold gE guessE
  simp only
  split
  · exact getD_le (drop_le (split_all hl) 2) 0
  · exact Nat.zero_le _
theorem gE_n3 (t : List UInt8) : -9223372036854775808 ≤ (gE t).n ∧ (gE t).n ≤ 9223372036854775807 := by
  refine ⟨?_, gE_n t⟩
  unfold gE guessE
  simp only
  split
  · split <;> omega
  · split
    · unfold numL; split
      · rename_i h; exact (Lib.atoiAll_bounds h).1
      · omega
    · omega
theorem okl_short {t : List UInt8} (h : (splitC 32 t).length < 2) : ¬ OkL t := fun hk => by
  have : 2 ≤ (splitC 32 t).length := hk.1
  omega
theorem rd_no {t : List UInt8} (h : ¬ OkL t) : rdN t = 0 ∧ rdE t = e0 ∧ rdX t = 2 := ⟨if_neg h, if_neg h, if_neg h⟩
theorem rd_ok {t : List UInt8} (h : OkL t) : rdN t = gN t ∧ rdE t = gE t ∧ rdX t = 0 := ⟨if_pos h, if_pos h, if_pos h⟩
theorem okl_t {t : List UInt8} (h : (bif errE (gN t) (gE t) != 0 then true else !(textE (gN t) (gE t) == t)) = true) : ¬ OkL t := by
  rintro ⟨h1, h2, h3⟩
  rw [errE_yes h2, textE_yes h2, h3] at h
  simp at h
theorem okl_f {t : List UInt8} (h0 : ¬ (splitC 32 t).length < 2) (h : (bif errE (gN t) (gE t) != 0 then true else !(textE (gN t) (gE t) == t)) = false) : OkL t := by
  by_cases h2 : HasLine (gN t) (gE t)
  · rw [errE_yes h2, textE_yes h2] at h
    have h3 : lineE (gN t) (gE t) = t := by simpa using h
    exact ⟨by show 2 ≤ (splitC 32 t).length; omega, h2, h3⟩
  · rw [errE_no h2] at h; simp at h

set_option maxRecDepth 20000 in
theorem guess_any (k : Int) (l : List (List UInt8)) (hll : l.length ≤ 4294967290) (hl : ∀ x ∈ l, x.length ≤ 4294967280) (M : Nat → Option (List AV)) : ACall Tryd.prog 54 [zI k, .list false 9 (l.map AV.str)] M (fun r M' => r = encE (guessE k l) ∧ M = M') := by
  have hgl := getD_le hl (l.length - 1)
  refine ACall.of Tryd.func54 rfl (n := 73) rfl rfl rfl ?_
  refine zg ?_
  refine zal [] zero_34 [zI 0, .str [], zI 0, zI 0] ?_
  refine zN ?_
  refine zg ?_
  refine zM (zI k) ?_
  refine zr (Reader.build (xs := [(0, zI k)]) (Es := []) (places := places_34) rfl Tryd.underlying34 (by refine ⟨rfl, fun j p x hp hx => ?_⟩; match j, hp, hx with | 0, hp, hx => cases hp; cases hx; exact ⟨rfl, .inl ⟨rfl, rfl⟩, rfl, rfl⟩ | _ + 1, hp, hx => cases hp) zero_34 rfl places_34_ok (cs := [zI k, .str [], zI 0, zI 0]) rfl) ?_
  refine zal [] zero_34 [zI 0, .str [], zI 0, zI 0] ?_
  refine zst sizeOf_34 (.agg [zI k, .str [], zI 0, zI 0]) ?_
  refine zN ?_
  refine zg ?_
  refine zM (.str []) ?_
  refine zN ?_
  refine AWp.mid [0, 1, 4, 5, 11, 6] [4, 5] (fun s => ∃ (last : List UInt8), s = ⟨[(0, zI k), (1, .list false 9 (l.map AV.str)), (4, .lptr 4 0), (5, .lptr 5 0), (11, zB (decide ((l.length : Int) > 0))), (6, .str last)], [(4, [zI 0, .str [], zI 0, zI 0]), (5, [zI k, .str [], zI 0, zI 0])], M⟩ ∧ (last = lastL l) ∧ (last.length ≤ 4294967280)) ?_ ?_
  · skip
    refine zg ?_
    refine zM (.list false 9 (l.map AV.str)) ?_
    refine zr (zL (l.map AV.str) l.length Tryd.underlying23 (by simp)) ?_
    refine zr (zi (decide ((l.length : Int) > 0))) ?_
    refine zN ?_
    refine zC (b := decide ((l.length : Int) > 0)) rfl (fun h1 => ?_) (fun h1 => ?_)
    · skip
      have h1' : l.length > 0 := (by have hh := of_decide_eq_true h1; omega)
      clear h1
      refine AWp.region ?_
      refine zM (.list false 9 (l.map AV.str)) ?_
      refine zM (.list false 9 (l.map AV.str)) ?_
      refine zr (zL (l.map AV.str) l.length Tryd.underlying23 (by simp)) ?_
      refine zr (zu ((l.length : Int) - 1) ((l.length - 1 : Nat) : Int) (by rw [IntWalk.i64_in _ (by omega)]; omega)) ?_
      refine zr (Reader.elemAddr (m := l.length - 1) rfl Tryd.underlying23 sizeOf_9 rfl rfl rfl (e := .str (l.getD (l.length - 1) [])) (strs_at (by first | omega | (show _ < 0; omega)))) ?_
      refine zr (zlE (.str (l.getD (l.length - 1) [])) Tryd.underlying9 sizeOf_9) ?_
      refine zM (.str (l.getD (l.length - 1) [])) ?_
      refine zN ?_
      exact ⟨_, rfl, by unfold lastL; first | (rw [if_pos (by first | assumption | omega)]; done) | (rw [if_neg (by first | assumption | omega)]; done), by first | exact hgl | exact Nat.zero_le _⟩
    · skip
      have h1' : ¬ (l.length > 0) := (by have hh := of_decide_eq_false h1; omega)
      clear h1
      refine AWp.skip ?_
      exact ⟨_, rfl, by unfold lastL; first | (rw [if_pos (by first | assumption | omega)]; done) | (rw [if_neg (by first | assumption | omega)]; done), by first | exact hgl | exact Nat.zero_le _⟩
  rintro _ ⟨last, rfl, hla, hlb⟩
  refine AWp.mid [0, 1, 4, 5, 11, 6, 32] [4, 5] (fun s => ∃ (id : List UInt8), s = ⟨[(0, zI k), (1, .list false 9 (l.map AV.str)), (4, .lptr 4 0), (5, .lptr 5 0), (11, zB (decide ((l.length : Int) > 0))), (6, .str last), (32, zB (bif (k != 6) then (bif (k != 7) then (bif (k != 16) then (decide ((l.length : Int) > 0)) else false) else false) else false))], [(4, [zI 0, .str [], zI 0, zI 0]), (5, [zI k, .str id, zI 0, zI 0])], M⟩ ∧ (id = if Named k ∧ 0 < l.length then l.getD 0 [] else [])) ?_ ?_
  · skip
    refine zj 32 [(0, zI k), (1, .list false 9 (l.map AV.str)), (4, .lptr 4 0), (5, .lptr 5 0), (11, zB (decide ((l.length : Int) > 0))), (6, .str last)] [(4, [zI 0, .str [], zI 0, zI 0]), (5, [zI k, .str [], zI 0, zI 0])] M (bif (k != 6) then (bif (k != 7) then (bif (k != 16) then (decide ((l.length : Int) > 0)) else false) else false) else false) ?_ ?_
    · skip
      refine zM (zI k) ?_
      refine zr (zi (k != 6)) ?_
      refine zM (zB (k != 6)) ?_
      refine AOps.splitJ (t := 20) (b := k != 6) (x := (bif (k != 7) then (bif (k != 16) then (decide ((l.length : Int) > 0)) else false) else false)) (y := false) rfl (fun h2 => ?_) (fun h2 => ?_)
      · skip
        have h2' : k ≠ 6 := (by have hh := bne_iff_ne.1 h2; omega)
        clear h2
        refine zM (zI k) ?_
        refine zr (zi (k != 7)) ?_
        refine zr (zp true (zB (k != 7))) ?_
        refine zM (zB (k != 7)) ?_
        refine AOps.splitJ (t := 24) (b := k != 7) (x := (bif (k != 16) then (decide ((l.length : Int) > 0)) else false)) (y := false) rfl (fun h3 => ?_) (fun h3 => ?_)
        · skip
          have h3' : k ≠ 7 := (by have hh := bne_iff_ne.1 h3; omega)
          clear h3
          refine zM (zI k) ?_
          refine zr (zi (k != 16)) ?_
          refine zr (zp true (zB (k != 16))) ?_
          refine zM (zB (k != 16)) ?_
          refine AOps.splitJ (t := 28) (b := k != 16) (x := (decide ((l.length : Int) > 0))) (y := false) rfl (fun h4 => ?_) (fun h4 => ?_)
          · skip
            have h4' : k ≠ 16 := (by have hh := bne_iff_ne.1 h4; omega)
            clear h4
            refine zM (.list false 9 (l.map AV.str)) ?_
            refine zr (zL (l.map AV.str) l.length Tryd.underlying23 (by simp)) ?_
            refine zr (zi (decide ((l.length : Int) > 0))) ?_
            refine zr (zp true (zB (decide ((l.length : Int) > 0)))) ?_
            exact AOps.nil rfl
          · skip
            have h4' : ¬ (k ≠ 16) := (by have hh := bne_eq_false_iff_eq.1 h4; omega)
            clear h4
            refine zs ?_
            refine zs ?_
            refine zs ?_
            refine zr (zp false (zB false)) ?_
            exact AOps.nil rfl
        · skip
          have h3' : ¬ (k ≠ 7) := (by have hh := bne_eq_false_iff_eq.1 h3; omega)
          clear h3
          refine zs ?_
          refine zs ?_
          refine zr (zp false (zB false)) ?_
          refine zM (zB false) ?_
          refine zs ?_
          refine zs ?_
          refine zs ?_
          refine zr (zp false (zB false)) ?_
          exact AOps.nil rfl
      · skip
        have h2' : ¬ (k ≠ 6) := (by have hh := bne_eq_false_iff_eq.1 h2; omega)
        clear h2
        refine zs ?_
        refine zs ?_
        refine zr (zp false (zB false)) ?_
        refine zM (zB false) ?_
        refine zs ?_
        refine zs ?_
        refine zr (zp false (zB false)) ?_
        refine zM (zB false) ?_
        refine zs ?_
        refine zs ?_
        refine zs ?_
        refine zr (zp false (zB false)) ?_
        exact AOps.nil rfl
    refine zC (b := bif (k != 6) then (bif (k != 7) then (bif (k != 16) then (decide ((l.length : Int) > 0)) else false) else false) else false) rfl (fun h5 => ?_) (fun h5 => ?_)
    · skip
      have h5' : Named k ∧ 0 < l.length := (of_decide_eq_true (gz.symm.trans h5))
      clear h5
      refine AWp.region ?_
      refine zM (.list false 9 (l.map AV.str)) ?_
      refine zr (zel 0 (.str (l.getD 0 [])) Tryd.underlying23 sizeOf_9 (strs_at (by first | omega | (show _ < 0; omega)))) ?_
      refine zr (zlE (.str (l.getD 0 [])) Tryd.underlying9 sizeOf_9) ?_
      refine zr (zfL Tryd.underlying34 sizeOf_9) ?_
      refine zst sizeOf_9 (.str (l.getD 0 [])) ?_
      refine zN ?_
      exact ⟨_, rfl, by first | (rw [if_pos (by first | assumption | omega)]; done) | (rw [if_neg (by first | assumption | omega)]; done)⟩
    · skip
      have h5' : ¬ (Named k ∧ 0 < l.length) := (of_decide_eq_false (gz.symm.trans h5))
      clear h5
      refine AWp.skip ?_
      exact ⟨_, rfl, by first | (rw [if_pos (by first | assumption | omega)]; done) | (rw [if_neg (by first | assumption | omega)]; done)⟩
  rintro _ ⟨id, rfl, hid⟩
  refine AWp.seq ?_
  refine zg ?_
  refine zM (zI k) ?_
  refine zN ?_
  refine AWp.block ?_
  refine zg ?_
  refine zr (zi (k == 3)) ?_
  refine zM (zB (k == 3)) ?_
  refine zN ?_
  refine zC (b := k == 3) rfl (fun h6 => ?_) (fun h6 => ?_)
  · skip
    have h6' : k = 3 := (by have hh := eq_of_beq h6; omega)
    clear h6
    refine zg ?_
    refine zr (zfL Tryd.underlying34 sizeOf_3) ?_
    refine zst sizeOf_3 (zI 4) ?_
    refine zN ?_
    refine zj 49 [(0, zI k), (1, .list false 9 (l.map AV.str)), (4, .lptr 4 0), (5, .lptr 5 0), (11, zB (decide ((l.length : Int) > 0))), (6, .str last), (32, zB (bif (k != 6) then (bif (k != 7) then (bif (k != 16) then (decide ((l.length : Int) > 0)) else false) else false) else false)), (37, zI k), (38, zB (k == 3))] [(4, [zI 0, .str [], zI 0, zI 0]), (5, [zI k, .str id, zI 0, zI 4])] M (bif (decide ((l.length : Int) > 1)) then ((l.getD 1 []) == [112, 114, 101, 115, 115, 117, 114, 101]) else false) ?_ ?_
    · skip
      refine zM (.list false 9 (l.map AV.str)) ?_
      refine zr (zL (l.map AV.str) l.length Tryd.underlying23 (by simp)) ?_
      refine zr (zi (decide ((l.length : Int) > 1))) ?_
      refine zM (zB (decide ((l.length : Int) > 1))) ?_
      refine AOps.splitJ (t := 44) (b := decide ((l.length : Int) > 1)) (x := ((l.getD 1 []) == [112, 114, 101, 115, 115, 117, 114, 101])) (y := false) rfl (fun h7 => ?_) (fun h7 => ?_)
      · skip
        have h7' : l.length > 1 := (by have hh := of_decide_eq_true h7; omega)
        clear h7
        refine zM (.list false 9 (l.map AV.str)) ?_
        refine zr (zel 1 (.str (l.getD 1 [])) Tryd.underlying23 sizeOf_9 (strs_at (by first | omega | (show _ < 0; omega)))) ?_
        refine zr (zlE (.str (l.getD 1 [])) Tryd.underlying9 sizeOf_9) ?_
        refine zr (zt ((l.getD 1 []) == [112, 114, 101, 115, 115, 117, 114, 101])) ?_
        refine zr (zp true (zB ((l.getD 1 []) == [112, 114, 101, 115, 115, 117, 114, 101]))) ?_
        exact AOps.nil rfl
      · skip
        have h7' : ¬ (l.length > 1) := (by have hh := of_decide_eq_false h7; omega)
        clear h7
        refine zs ?_
        refine zs ?_
        refine zs ?_
        refine zs ?_
        refine zr (zp false (zB false)) ?_
        exact AOps.nil rfl
    refine zC (b := bif (decide ((l.length : Int) > 1)) then ((l.getD 1 []) == [112, 114, 101, 115, 115, 117, 114, 101]) else false) rfl (fun h8 => ?_) (fun h8 => ?_)
    · skip
      have h8' : 1 < l.length ∧ l.getD 1 [] = presL := (of_decide_eq_true (gp.symm.trans h8))
      clear h8
      refine zg ?_
      refine zr (zfL Tryd.underlying34 sizeOf_3) ?_
      refine zst sizeOf_3 (zI 3) ?_
      refine zN ?_
      refine AWp.region ?_
      refine zc [] Tryd.call85 (lsigs_any M) ?_
      rintro _ _ ⟨rfl, rfl⟩
      refine zM (.str last) ?_
      refine zc [.list false 9 (sigL.map AV.str), .str last] Tryd.call55 (Index_any sigL last (by decide) M) ?_
      rintro _ _ ⟨rfl, rfl⟩
      refine zr (Reader.maxI rfl rfl rfl rfl rfl (m := (((idxL sigL last).toNat : Nat) : Int)) (by omega)) ?_
      refine zr (zfL Tryd.underlying34 sizeOf_3) ?_
      refine zst sizeOf_3 (zI (((idxL sigL last).toNat : Nat) : Int)) ?_
      refine zN ?_
      refine zg ?_
      refine zr (zlL (.agg [zI k, .str id, zI (((idxL sigL last).toNat : Nat) : Int), zI 3]) Tryd.underlying34 sizeOf_34) ?_
      refine zst sizeOf_34 (.agg [zI k, .str id, zI (((idxL sigL last).toNat : Nat) : Int), zI 3]) ?_
      refine zN ?_
      refine AWp.ret ?_
      exact ⟨.inl rfl, _, ResOf.cell 4 4 0 4 34 _ _ (.agg [zI k, .str id, zI (((idxL sigL last).toNat : Nat) : Int), zI 3]) rfl rfl Tryd.underlying34 sizeOf_34 rfl rfl, ⟨by subst hid; subst hla; unfold guessE encE; simp only [mx0_idx, *]; first | rfl | (simp [Named, *]; done) | (simp_all [Named]; done), rfl⟩⟩
    · skip
      have h8' : ¬ (1 < l.length ∧ l.getD 1 [] = presL) := (of_decide_eq_false (gp.symm.trans h8))
      clear h8
      refine AWp.skip ?_
      refine zg ?_
      refine zr (zlL (.agg [zI k, .str id, zI 0, zI 4]) Tryd.underlying34 sizeOf_34) ?_
      refine zst sizeOf_34 (.agg [zI k, .str id, zI 0, zI 4]) ?_
      refine zN ?_
      refine AWp.ret ?_
      exact ⟨.inl rfl, _, ResOf.cell 4 4 0 4 34 _ _ (.agg [zI k, .str id, zI 0, zI 4]) rfl rfl Tryd.underlying34 sizeOf_34 rfl rfl, ⟨by subst hid; subst hla; unfold guessE encE; simp only [mx0_idx, *]; first | rfl | (simp [Named, *]; done) | (simp_all [Named]; done), rfl⟩⟩
  · skip
    have h6' : ¬ (k = 3) := (by have hh := beq_eq_false_iff_ne.1 h6; omega)
    clear h6
    refine AWp.seq ?_
    refine zg ?_
    refine zr (zi (k == 5)) ?_
    refine zM (zB (k == 5)) ?_
    refine zN ?_
    refine zC (b := k == 5) rfl (fun h9 => ?_) (fun h9 => ?_)
    · skip
      have h9' : k = 5 := (by have hh := eq_of_beq h9; omega)
      clear h9
      refine AWp.skip ?_
      refine zC (b := k == 5) rfl (fun h10 => ?_) (fun h10 => ?_)
      · skip
        have h10' : k = 5 := (by have hh := eq_of_beq h10; omega)
        clear h10
        refine AWp.region ?_
        refine zc [] Tryd.call85 (lsigs_any M) ?_
        rintro _ _ ⟨rfl, rfl⟩
        refine zM (.str last) ?_
        refine zc [.list false 9 (sigL.map AV.str), .str last] Tryd.call55 (Index_any sigL last (by decide) M) ?_
        rintro _ _ ⟨rfl, rfl⟩
        refine zr (Reader.maxI rfl rfl rfl rfl rfl (m := (((idxL sigL last).toNat : Nat) : Int)) (by omega)) ?_
        refine zr (zfL Tryd.underlying34 sizeOf_3) ?_
        refine zst sizeOf_3 (zI (((idxL sigL last).toNat : Nat) : Int)) ?_
        refine zN ?_
        refine zg ?_
        refine zr (zlL (.agg [zI k, .str id, zI (((idxL sigL last).toNat : Nat) : Int), zI 0]) Tryd.underlying34 sizeOf_34) ?_
        refine zst sizeOf_34 (.agg [zI k, .str id, zI (((idxL sigL last).toNat : Nat) : Int), zI 0]) ?_
        refine zN ?_
        refine AWp.ret ?_
        exact ⟨.inl rfl, _, ResOf.cell 4 4 0 4 34 _ _ (.agg [zI k, .str id, zI (((idxL sigL last).toNat : Nat) : Int), zI 0]) rfl rfl Tryd.underlying34 sizeOf_34 rfl rfl, ⟨by subst hid; subst hla; unfold guessE encE; simp only [mx0_idx, *]; first | rfl | (simp [Named, *]; done) | (simp_all [Named]; done), rfl⟩⟩
      · skip
        have h10' : ¬ (k = 5) := (by have hh := beq_eq_false_iff_ne.1 h10; omega)
        clear h10
        refine AWp.seq ?_
        refine zg ?_
        refine zr (zi (k == 9)) ?_
        refine zM (zB (k == 9)) ?_
        refine zN ?_
        refine zC (b := k == 9) rfl (fun h11 => ?_) (fun h11 => ?_)
        · skip
          have h11' : k = 9 := (by have hh := eq_of_beq h11; omega)
          clear h11
          refine AWp.skip ?_
          refine zC (b := k == 9) rfl (fun h12 => ?_) (fun h12 => ?_)
          · skip
            have h12' : k = 9 := (by have hh := eq_of_beq h12; omega)
            clear h12
            refine AWp.region ?_
            refine zM (.str last) ?_
            refine zc [.str last] Tryd.call53 (lnum_any last (by first | omega | (simp only [List.length_append, List.length_cons, List.length_nil]; omega)) M) ?_
            rintro _ _ ⟨rfl, rfl⟩
            refine zr (zfL Tryd.underlying34 sizeOf_3) ?_
            refine zst sizeOf_3 (zI (numL last)) ?_
            refine zN ?_
            refine zg ?_
            refine zr (zlL (.agg [zI k, .str id, zI 0, zI (numL last)]) Tryd.underlying34 sizeOf_34) ?_
            refine zst sizeOf_34 (.agg [zI k, .str id, zI 0, zI (numL last)]) ?_
            refine zN ?_
            refine AWp.ret ?_
            exact ⟨.inl rfl, _, ResOf.cell 4 4 0 4 34 _ _ (.agg [zI k, .str id, zI 0, zI (numL last)]) rfl rfl Tryd.underlying34 sizeOf_34 rfl rfl, ⟨by subst hid; subst hla; unfold guessE encE; simp only [mx0_idx, *]; first | rfl | (simp [Named, *]; done) | (simp_all [Named]; done), rfl⟩⟩
          · skip
            have h12' : ¬ (k = 9) := (by have hh := beq_eq_false_iff_ne.1 h12; omega)
            clear h12
            refine AWp.skip ?_
            refine zg ?_
            refine zr (zlL (.agg [zI k, .str id, zI 0, zI 0]) Tryd.underlying34 sizeOf_34) ?_
            refine zst sizeOf_34 (.agg [zI k, .str id, zI 0, zI 0]) ?_
            refine zN ?_
            refine AWp.ret ?_
            exact ⟨.inl rfl, _, ResOf.cell 4 4 0 4 34 _ _ (.agg [zI k, .str id, zI 0, zI 0]) rfl rfl Tryd.underlying34 sizeOf_34 rfl rfl, ⟨by subst hid; subst hla; unfold guessE encE; simp only [mx0_idx, *]; first | rfl | (simp [Named, *]; done) | (simp_all [Named]; done), rfl⟩⟩
        · skip
          have h11' : ¬ (k = 9) := (by have hh := beq_eq_false_iff_ne.1 h11; omega)
          clear h11
          refine zg ?_
          refine zr (zi (k == 14)) ?_
          refine zM (zB (k == 14)) ?_
          refine zN ?_
          refine zC (b := k == 14) rfl (fun h13 => ?_) (fun h13 => ?_)
          · skip
            have h13' : k = 14 := (by have hh := eq_of_beq h13; omega)
            clear h13
            refine AWp.skip ?_
            refine zC (b := k == 14) rfl (fun h14 => ?_) (fun h14 => ?_)
            · skip
              have h14' : k = 14 := (by have hh := eq_of_beq h14; omega)
              clear h14
              refine AWp.region ?_
              refine zM (.str last) ?_
              refine zc [.str last] Tryd.call53 (lnum_any last (by first | omega | (simp only [List.length_append, List.length_cons, List.length_nil]; omega)) M) ?_
              rintro _ _ ⟨rfl, rfl⟩
              refine zr (zfL Tryd.underlying34 sizeOf_3) ?_
              refine zst sizeOf_3 (zI (numL last)) ?_
              refine zN ?_
              refine zg ?_
              refine zr (zlL (.agg [zI k, .str id, zI 0, zI (numL last)]) Tryd.underlying34 sizeOf_34) ?_
              refine zst sizeOf_34 (.agg [zI k, .str id, zI 0, zI (numL last)]) ?_
              refine zN ?_
              refine AWp.ret ?_
              exact ⟨.inl rfl, _, ResOf.cell 4 4 0 4 34 _ _ (.agg [zI k, .str id, zI 0, zI (numL last)]) rfl rfl Tryd.underlying34 sizeOf_34 rfl rfl, ⟨by subst hid; subst hla; unfold guessE encE; simp only [mx0_idx, *]; first | rfl | (simp [Named, *]; done) | (simp_all [Named]; done), rfl⟩⟩
            · skip
              have h14' : ¬ (k = 14) := (by have hh := beq_eq_false_iff_ne.1 h14; omega)
              clear h14
              refine AWp.skip ?_
              refine zg ?_
              refine zr (zlL (.agg [zI k, .str id, zI 0, zI 0]) Tryd.underlying34 sizeOf_34) ?_
              refine zst sizeOf_34 (.agg [zI k, .str id, zI 0, zI 0]) ?_
              refine zN ?_
              refine AWp.ret ?_
              exact ⟨.inl rfl, _, ResOf.cell 4 4 0 4 34 _ _ (.agg [zI k, .str id, zI 0, zI 0]) rfl rfl Tryd.underlying34 sizeOf_34 rfl rfl, ⟨by subst hid; subst hla; unfold guessE encE; simp only [mx0_idx, *]; first | rfl | (simp [Named, *]; done) | (simp_all [Named]; done), rfl⟩⟩
          · skip
            have h13' : ¬ (k = 14) := (by have hh := beq_eq_false_iff_ne.1 h13; omega)
            clear h13
            refine AWp.region ?_
            refine zr (zi (k == 16)) ?_
            refine zM (zB (k == 16)) ?_
            refine zN ?_
            refine zC (b := k == 16) rfl (fun h15 => ?_) (fun h15 => ?_)
            · skip
              have h15' : k = 16 := (by have hh := eq_of_beq h15; omega)
              clear h15
              refine AWp.region ?_
              refine zM (.str last) ?_
              refine zc [.str last] Tryd.call53 (lnum_any last (by first | omega | (simp only [List.length_append, List.length_cons, List.length_nil]; omega)) M) ?_
              rintro _ _ ⟨rfl, rfl⟩
              refine zr (zfL Tryd.underlying34 sizeOf_3) ?_
              refine zst sizeOf_3 (zI (numL last)) ?_
              refine zN ?_
              refine zg ?_
              refine zr (zlL (.agg [zI k, .str id, zI 0, zI (numL last)]) Tryd.underlying34 sizeOf_34) ?_
              refine zst sizeOf_34 (.agg [zI k, .str id, zI 0, zI (numL last)]) ?_
              refine zN ?_
              refine AWp.ret ?_
              exact ⟨.inl rfl, _, ResOf.cell 4 4 0 4 34 _ _ (.agg [zI k, .str id, zI 0, zI (numL last)]) rfl rfl Tryd.underlying34 sizeOf_34 rfl rfl, ⟨by subst hid; subst hla; unfold guessE encE; simp only [mx0_idx, *]; first | rfl | (simp [Named, *]; done) | (simp_all [Named]; done), rfl⟩⟩
            · skip
              have h15' : ¬ (k = 16) := (by have hh := beq_eq_false_iff_ne.1 h15; omega)
              clear h15
              refine AWp.skip ?_
              refine zg ?_
              refine zr (zlL (.agg [zI k, .str id, zI 0, zI 0]) Tryd.underlying34 sizeOf_34) ?_
              refine zst sizeOf_34 (.agg [zI k, .str id, zI 0, zI 0]) ?_
              refine zN ?_
              refine AWp.ret ?_
              exact ⟨.inl rfl, _, ResOf.cell 4 4 0 4 34 _ _ (.agg [zI k, .str id, zI 0, zI 0]) rfl rfl Tryd.underlying34 sizeOf_34 rfl rfl, ⟨by subst hid; subst hla; unfold guessE encE; simp only [mx0_idx, *]; first | rfl | (simp [Named, *]; done) | (simp_all [Named]; done), rfl⟩⟩
    · skip
      have h9' : ¬ (k = 5) := (by have hh := beq_eq_false_iff_ne.1 h9; omega)
      clear h9
      refine zg ?_
      refine zr (zi (k == 6)) ?_
      refine zM (zB (k == 6)) ?_
      refine zN ?_
      refine zC (b := k == 6) rfl (fun h16 => ?_) (fun h16 => ?_)
      · skip
        have h16' : k = 6 := (by have hh := eq_of_beq h16; omega)
        clear h16
        refine AWp.skip ?_
        refine zC (b := k == 6) rfl (fun h17 => ?_) (fun h17 => ?_)
        · skip
          have h17' : k = 6 := (by have hh := eq_of_beq h17; omega)
          clear h17
          refine AWp.region ?_
          refine zc [] Tryd.call85 (lsigs_any M) ?_
          rintro _ _ ⟨rfl, rfl⟩
          refine zM (.str last) ?_
          refine zc [.list false 9 (sigL.map AV.str), .str last] Tryd.call55 (Index_any sigL last (by decide) M) ?_
          rintro _ _ ⟨rfl, rfl⟩
          refine zr (Reader.maxI rfl rfl rfl rfl rfl (m := (((idxL sigL last).toNat : Nat) : Int)) (by omega)) ?_
          refine zr (zfL Tryd.underlying34 sizeOf_3) ?_
          refine zst sizeOf_3 (zI (((idxL sigL last).toNat : Nat) : Int)) ?_
          refine zN ?_
          refine zg ?_
          refine zr (zlL (.agg [zI k, .str id, zI (((idxL sigL last).toNat : Nat) : Int), zI 0]) Tryd.underlying34 sizeOf_34) ?_
          refine zst sizeOf_34 (.agg [zI k, .str id, zI (((idxL sigL last).toNat : Nat) : Int), zI 0]) ?_
          refine zN ?_
          refine AWp.ret ?_
          exact ⟨.inl rfl, _, ResOf.cell 4 4 0 4 34 _ _ (.agg [zI k, .str id, zI (((idxL sigL last).toNat : Nat) : Int), zI 0]) rfl rfl Tryd.underlying34 sizeOf_34 rfl rfl, ⟨by subst hid; subst hla; unfold guessE encE; simp only [mx0_idx, *]; first | rfl | (simp [Named, *]; done) | (simp_all [Named]; done), rfl⟩⟩
        · skip
          have h17' : ¬ (k = 6) := (by have hh := beq_eq_false_iff_ne.1 h17; omega)
          clear h17
          refine AWp.seq ?_
          refine zg ?_
          refine zr (zi (k == 9)) ?_
          refine zM (zB (k == 9)) ?_
          refine zN ?_
          refine zC (b := k == 9) rfl (fun h18 => ?_) (fun h18 => ?_)
          · skip
            have h18' : k = 9 := (by have hh := eq_of_beq h18; omega)
            clear h18
            refine AWp.skip ?_
            refine zC (b := k == 9) rfl (fun h19 => ?_) (fun h19 => ?_)
            · skip
              have h19' : k = 9 := (by have hh := eq_of_beq h19; omega)
              clear h19
              refine AWp.region ?_
              refine zM (.str last) ?_
              refine zc [.str last] Tryd.call53 (lnum_any last (by first | omega | (simp only [List.length_append, List.length_cons, List.length_nil]; omega)) M) ?_
              rintro _ _ ⟨rfl, rfl⟩
              refine zr (zfL Tryd.underlying34 sizeOf_3) ?_
              refine zst sizeOf_3 (zI (numL last)) ?_
              refine zN ?_
              refine zg ?_
              refine zr (zlL (.agg [zI k, .str id, zI 0, zI (numL last)]) Tryd.underlying34 sizeOf_34) ?_
              refine zst sizeOf_34 (.agg [zI k, .str id, zI 0, zI (numL last)]) ?_
              refine zN ?_
              refine AWp.ret ?_
              exact ⟨.inl rfl, _, ResOf.cell 4 4 0 4 34 _ _ (.agg [zI k, .str id, zI 0, zI (numL last)]) rfl rfl Tryd.underlying34 sizeOf_34 rfl rfl, ⟨by subst hid; subst hla; unfold guessE encE; simp only [mx0_idx, *]; first | rfl | (simp [Named, *]; done) | (simp_all [Named]; done), rfl⟩⟩
            · skip
              have h19' : ¬ (k = 9) := (by have hh := beq_eq_false_iff_ne.1 h19; omega)
              clear h19
              refine AWp.skip ?_
              refine zg ?_
              refine zr (zlL (.agg [zI k, .str id, zI 0, zI 0]) Tryd.underlying34 sizeOf_34) ?_
              refine zst sizeOf_34 (.agg [zI k, .str id, zI 0, zI 0]) ?_
              refine zN ?_
              refine AWp.ret ?_
              exact ⟨.inl rfl, _, ResOf.cell 4 4 0 4 34 _ _ (.agg [zI k, .str id, zI 0, zI 0]) rfl rfl Tryd.underlying34 sizeOf_34 rfl rfl, ⟨by subst hid; subst hla; unfold guessE encE; simp only [mx0_idx, *]; first | rfl | (simp [Named, *]; done) | (simp_all [Named]; done), rfl⟩⟩
          · skip
            have h18' : ¬ (k = 9) := (by have hh := beq_eq_false_iff_ne.1 h18; omega)
            clear h18
            refine zg ?_
            refine zr (zi (k == 14)) ?_
            refine zM (zB (k == 14)) ?_
            refine zN ?_
            refine zC (b := k == 14) rfl (fun h20 => ?_) (fun h20 => ?_)
            · skip
              have h20' : k = 14 := (by have hh := eq_of_beq h20; omega)
              clear h20
              refine AWp.skip ?_
              refine zC (b := k == 14) rfl (fun h21 => ?_) (fun h21 => ?_)
              · skip
                have h21' : k = 14 := (by have hh := eq_of_beq h21; omega)
                clear h21
                refine AWp.region ?_
                refine zM (.str last) ?_
                refine zc [.str last] Tryd.call53 (lnum_any last (by first | omega | (simp only [List.length_append, List.length_cons, List.length_nil]; omega)) M) ?_
                rintro _ _ ⟨rfl, rfl⟩
                refine zr (zfL Tryd.underlying34 sizeOf_3) ?_
                refine zst sizeOf_3 (zI (numL last)) ?_
                refine zN ?_
                refine zg ?_
                refine zr (zlL (.agg [zI k, .str id, zI 0, zI (numL last)]) Tryd.underlying34 sizeOf_34) ?_
                refine zst sizeOf_34 (.agg [zI k, .str id, zI 0, zI (numL last)]) ?_
                refine zN ?_
                refine AWp.ret ?_
                exact ⟨.inl rfl, _, ResOf.cell 4 4 0 4 34 _ _ (.agg [zI k, .str id, zI 0, zI (numL last)]) rfl rfl Tryd.underlying34 sizeOf_34 rfl rfl, ⟨by subst hid; subst hla; unfold guessE encE; simp only [mx0_idx, *]; first | rfl | (simp [Named, *]; done) | (simp_all [Named]; done), rfl⟩⟩
              · skip
                have h21' : ¬ (k = 14) := (by have hh := beq_eq_false_iff_ne.1 h21; omega)
                clear h21
                refine AWp.skip ?_
                refine zg ?_
                refine zr (zlL (.agg [zI k, .str id, zI 0, zI 0]) Tryd.underlying34 sizeOf_34) ?_
                refine zst sizeOf_34 (.agg [zI k, .str id, zI 0, zI 0]) ?_
                refine zN ?_
                refine AWp.ret ?_
                exact ⟨.inl rfl, _, ResOf.cell 4 4 0 4 34 _ _ (.agg [zI k, .str id, zI 0, zI 0]) rfl rfl Tryd.underlying34 sizeOf_34 rfl rfl, ⟨by subst hid; subst hla; unfold guessE encE; simp only [mx0_idx, *]; first | rfl | (simp [Named, *]; done) | (simp_all [Named]; done), rfl⟩⟩
            · skip
              have h20' : ¬ (k = 14) := (by have hh := beq_eq_false_iff_ne.1 h20; omega)
              clear h20
              refine AWp.region ?_
              refine zr (zi (k == 16)) ?_
              refine zM (zB (k == 16)) ?_
              refine zN ?_
              refine zC (b := k == 16) rfl (fun h22 => ?_) (fun h22 => ?_)
              · skip
                have h22' : k = 16 := (by have hh := eq_of_beq h22; omega)
                clear h22
                refine AWp.region ?_
                refine zM (.str last) ?_
                refine zc [.str last] Tryd.call53 (lnum_any last (by first | omega | (simp only [List.length_append, List.length_cons, List.length_nil]; omega)) M) ?_
                rintro _ _ ⟨rfl, rfl⟩
                refine zr (zfL Tryd.underlying34 sizeOf_3) ?_
                refine zst sizeOf_3 (zI (numL last)) ?_
                refine zN ?_
                refine zg ?_
                refine zr (zlL (.agg [zI k, .str id, zI 0, zI (numL last)]) Tryd.underlying34 sizeOf_34) ?_
                refine zst sizeOf_34 (.agg [zI k, .str id, zI 0, zI (numL last)]) ?_
                refine zN ?_
                refine AWp.ret ?_
                exact ⟨.inl rfl, _, ResOf.cell 4 4 0 4 34 _ _ (.agg [zI k, .str id, zI 0, zI (numL last)]) rfl rfl Tryd.underlying34 sizeOf_34 rfl rfl, ⟨by subst hid; subst hla; unfold guessE encE; simp only [mx0_idx, *]; first | rfl | (simp [Named, *]; done) | (simp_all [Named]; done), rfl⟩⟩
              · skip
                have h22' : ¬ (k = 16) := (by have hh := beq_eq_false_iff_ne.1 h22; omega)
                clear h22
                refine AWp.skip ?_
                refine zg ?_
                refine zr (zlL (.agg [zI k, .str id, zI 0, zI 0]) Tryd.underlying34 sizeOf_34) ?_
                refine zst sizeOf_34 (.agg [zI k, .str id, zI 0, zI 0]) ?_
                refine zN ?_
                refine AWp.ret ?_
                exact ⟨.inl rfl, _, ResOf.cell 4 4 0 4 34 _ _ (.agg [zI k, .str id, zI 0, zI 0]) rfl rfl Tryd.underlying34 sizeOf_34 rfl rfl, ⟨by subst hid; subst hla; unfold guessE encE; simp only [mx0_idx, *]; first | rfl | (simp [Named, *]; done) | (simp_all [Named]; done), rfl⟩⟩
      · skip
        have h16' : ¬ (k = 6) := (by have hh := beq_eq_false_iff_ne.1 h16; omega)
        clear h16
        refine AWp.region ?_
        refine zr (zi (k == 7)) ?_
        refine zM (zB (k == 7)) ?_
        refine zN ?_
        refine zC (b := k == 7) rfl (fun h23 => ?_) (fun h23 => ?_)
        · skip
          have h23' : k = 7 := (by have hh := eq_of_beq h23; omega)
          clear h23
          refine AWp.region ?_
          refine zc [] Tryd.call85 (lsigs_any M) ?_
          rintro _ _ ⟨rfl, rfl⟩
          refine zM (.str last) ?_
          refine zc [.list false 9 (sigL.map AV.str), .str last] Tryd.call55 (Index_any sigL last (by decide) M) ?_
          rintro _ _ ⟨rfl, rfl⟩
          refine zr (Reader.maxI rfl rfl rfl rfl rfl (m := (((idxL sigL last).toNat : Nat) : Int)) (by omega)) ?_
          refine zr (zfL Tryd.underlying34 sizeOf_3) ?_
          refine zst sizeOf_3 (zI (((idxL sigL last).toNat : Nat) : Int)) ?_
          refine zN ?_
          refine zg ?_
          refine zr (zlL (.agg [zI k, .str id, zI (((idxL sigL last).toNat : Nat) : Int), zI 0]) Tryd.underlying34 sizeOf_34) ?_
          refine zst sizeOf_34 (.agg [zI k, .str id, zI (((idxL sigL last).toNat : Nat) : Int), zI 0]) ?_
          refine zN ?_
          refine AWp.ret ?_
          exact ⟨.inl rfl, _, ResOf.cell 4 4 0 4 34 _ _ (.agg [zI k, .str id, zI (((idxL sigL last).toNat : Nat) : Int), zI 0]) rfl rfl Tryd.underlying34 sizeOf_34 rfl rfl, ⟨by subst hid; subst hla; unfold guessE encE; simp only [mx0_idx, *]; first | rfl | (simp [Named, *]; done) | (simp_all [Named]; done), rfl⟩⟩
        · skip
          have h23' : ¬ (k = 7) := (by have hh := beq_eq_false_iff_ne.1 h23; omega)
          clear h23
          refine AWp.seq ?_
          refine zg ?_
          refine zr (zi (k == 9)) ?_
          refine zM (zB (k == 9)) ?_
          refine zN ?_
          refine zC (b := k == 9) rfl (fun h24 => ?_) (fun h24 => ?_)
          · skip
            have h24' : k = 9 := (by have hh := eq_of_beq h24; omega)
            clear h24
            refine AWp.skip ?_
            refine zC (b := k == 9) rfl (fun h25 => ?_) (fun h25 => ?_)
            · skip
              have h25' : k = 9 := (by have hh := eq_of_beq h25; omega)
              clear h25
              refine AWp.region ?_
              refine zM (.str last) ?_
              refine zc [.str last] Tryd.call53 (lnum_any last (by first | omega | (simp only [List.length_append, List.length_cons, List.length_nil]; omega)) M) ?_
              rintro _ _ ⟨rfl, rfl⟩
              refine zr (zfL Tryd.underlying34 sizeOf_3) ?_
              refine zst sizeOf_3 (zI (numL last)) ?_
              refine zN ?_
              refine zg ?_
              refine zr (zlL (.agg [zI k, .str id, zI 0, zI (numL last)]) Tryd.underlying34 sizeOf_34) ?_
              refine zst sizeOf_34 (.agg [zI k, .str id, zI 0, zI (numL last)]) ?_
              refine zN ?_
              refine AWp.ret ?_
              exact ⟨.inl rfl, _, ResOf.cell 4 4 0 4 34 _ _ (.agg [zI k, .str id, zI 0, zI (numL last)]) rfl rfl Tryd.underlying34 sizeOf_34 rfl rfl, ⟨by subst hid; subst hla; unfold guessE encE; simp only [mx0_idx, *]; first | rfl | (simp [Named, *]; done) | (simp_all [Named]; done), rfl⟩⟩
            · skip
              have h25' : ¬ (k = 9) := (by have hh := beq_eq_false_iff_ne.1 h25; omega)
              clear h25
              refine AWp.skip ?_
              refine zg ?_
              refine zr (zlL (.agg [zI k, .str id, zI 0, zI 0]) Tryd.underlying34 sizeOf_34) ?_
              refine zst sizeOf_34 (.agg [zI k, .str id, zI 0, zI 0]) ?_
              refine zN ?_
              refine AWp.ret ?_
              exact ⟨.inl rfl, _, ResOf.cell 4 4 0 4 34 _ _ (.agg [zI k, .str id, zI 0, zI 0]) rfl rfl Tryd.underlying34 sizeOf_34 rfl rfl, ⟨by subst hid; subst hla; unfold guessE encE; simp only [mx0_idx, *]; first | rfl | (simp [Named, *]; done) | (simp_all [Named]; done), rfl⟩⟩
          · skip
            have h24' : ¬ (k = 9) := (by have hh := beq_eq_false_iff_ne.1 h24; omega)
            clear h24
            refine zg ?_
            refine zr (zi (k == 14)) ?_
            refine zM (zB (k == 14)) ?_
            refine zN ?_
            refine zC (b := k == 14) rfl (fun h26 => ?_) (fun h26 => ?_)
            · skip
              have h26' : k = 14 := (by have hh := eq_of_beq h26; omega)
              clear h26
              refine AWp.skip ?_
              refine zC (b := k == 14) rfl (fun h27 => ?_) (fun h27 => ?_)
              · skip
                have h27' : k = 14 := (by have hh := eq_of_beq h27; omega)
                clear h27
                refine AWp.region ?_
                refine zM (.str last) ?_
                refine zc [.str last] Tryd.call53 (lnum_any last (by first | omega | (simp only [List.length_append, List.length_cons, List.length_nil]; omega)) M) ?_
                rintro _ _ ⟨rfl, rfl⟩
                refine zr (zfL Tryd.underlying34 sizeOf_3) ?_
                refine zst sizeOf_3 (zI (numL last)) ?_
                refine zN ?_
                refine zg ?_
                refine zr (zlL (.agg [zI k, .str id, zI 0, zI (numL last)]) Tryd.underlying34 sizeOf_34) ?_
                refine zst sizeOf_34 (.agg [zI k, .str id, zI 0, zI (numL last)]) ?_
                refine zN ?_
                refine AWp.ret ?_
                exact ⟨.inl rfl, _, ResOf.cell 4 4 0 4 34 _ _ (.agg [zI k, .str id, zI 0, zI (numL last)]) rfl rfl Tryd.underlying34 sizeOf_34 rfl rfl, ⟨by subst hid; subst hla; unfold guessE encE; simp only [mx0_idx, *]; first | rfl | (simp [Named, *]; done) | (simp_all [Named]; done), rfl⟩⟩
              · skip
                have h27' : ¬ (k = 14) := (by have hh := beq_eq_false_iff_ne.1 h27; omega)
                clear h27
                refine AWp.skip ?_
                refine zg ?_
                refine zr (zlL (.agg [zI k, .str id, zI 0, zI 0]) Tryd.underlying34 sizeOf_34) ?_
                refine zst sizeOf_34 (.agg [zI k, .str id, zI 0, zI 0]) ?_
                refine zN ?_
                refine AWp.ret ?_
                exact ⟨.inl rfl, _, ResOf.cell 4 4 0 4 34 _ _ (.agg [zI k, .str id, zI 0, zI 0]) rfl rfl Tryd.underlying34 sizeOf_34 rfl rfl, ⟨by subst hid; subst hla; unfold guessE encE; simp only [mx0_idx, *]; first | rfl | (simp [Named, *]; done) | (simp_all [Named]; done), rfl⟩⟩
            · skip
              have h26' : ¬ (k = 14) := (by have hh := beq_eq_false_iff_ne.1 h26; omega)
              clear h26
              refine AWp.region ?_
              refine zr (zi (k == 16)) ?_
              refine zM (zB (k == 16)) ?_
              refine zN ?_
              refine zC (b := k == 16) rfl (fun h28 => ?_) (fun h28 => ?_)
              · skip
                have h28' : k = 16 := (by have hh := eq_of_beq h28; omega)
                clear h28
                refine AWp.region ?_
                refine zM (.str last) ?_
                refine zc [.str last] Tryd.call53 (lnum_any last (by first | omega | (simp only [List.length_append, List.length_cons, List.length_nil]; omega)) M) ?_
                rintro _ _ ⟨rfl, rfl⟩
                refine zr (zfL Tryd.underlying34 sizeOf_3) ?_
                refine zst sizeOf_3 (zI (numL last)) ?_
                refine zN ?_
                refine zg ?_
                refine zr (zlL (.agg [zI k, .str id, zI 0, zI (numL last)]) Tryd.underlying34 sizeOf_34) ?_
                refine zst sizeOf_34 (.agg [zI k, .str id, zI 0, zI (numL last)]) ?_
                refine zN ?_
                refine AWp.ret ?_
                exact ⟨.inl rfl, _, ResOf.cell 4 4 0 4 34 _ _ (.agg [zI k, .str id, zI 0, zI (numL last)]) rfl rfl Tryd.underlying34 sizeOf_34 rfl rfl, ⟨by subst hid; subst hla; unfold guessE encE; simp only [mx0_idx, *]; first | rfl | (simp [Named, *]; done) | (simp_all [Named]; done), rfl⟩⟩
              · skip
                have h28' : ¬ (k = 16) := (by have hh := beq_eq_false_iff_ne.1 h28; omega)
                clear h28
                refine AWp.skip ?_
                refine zg ?_
                refine zr (zlL (.agg [zI k, .str id, zI 0, zI 0]) Tryd.underlying34 sizeOf_34) ?_
                refine zst sizeOf_34 (.agg [zI k, .str id, zI 0, zI 0]) ?_
                refine zN ?_
                refine AWp.ret ?_
                exact ⟨.inl rfl, _, ResOf.cell 4 4 0 4 34 _ _ (.agg [zI k, .str id, zI 0, zI 0]) rfl rfl Tryd.underlying34 sizeOf_34 rfl rfl, ⟨by subst hid; subst hla; unfold guessE encE; simp only [mx0_idx, *]; first | rfl | (simp [Named, *]; done) | (simp_all [Named]; done), rfl⟩⟩

set_option maxRecDepth 20000 in
theorem lread_any (t : List UInt8) (hl : t.length ≤ 4294967280) (M : Nat → Option (List AV)) : ACall Tryd.prog 25 [.str t] M (fun r M' => r = .tuple [zI (rdN t), encE (rdE t), zI (rdX t)] ∧ M = M') := by
  have hsl := splitC_le 32 t
  have hg0 := split_le hl 0
  have hg1 := split_le hl 1
  have hgd := drop_le (split_all hl) 2
  have hgi := gE_id hl
  have hgn := gE_n3 t
  refine ACall.of Tryd.func25 rfl (n := 44) rfl rfl rfl ?_
  refine zg ?_
  refine zM (zI 0) ?_
  refine zal [] zero_34 [zI 0, .str [], zI 0, zI 0] ?_
  refine zM (zI 0) ?_
  refine zN ?_
  refine zg ?_
  refine zM (.str t) ?_
  refine zc [.str t, .str [32]] Tryd.call52 (split_any 32 t (by first | omega | (simp only [List.length_append, List.length_cons, List.length_nil]; omega)) M) ?_
  rintro _ _ ⟨rfl, rfl⟩
  refine zT (v := .list true 9 ((splitC 32 t).map AV.str)) rfl ?_
  refine zN ?_
  refine AWp.seq ?_
  refine zg ?_
  refine zM (.list false 9 ((splitC 32 t).map AV.str)) ?_
  refine zr (zL ((splitC 32 t).map AV.str) ((splitC 32 t).length) Tryd.underlying23 (by simp)) ?_
  refine zr (zi (decide ((((splitC 32 t).length : Nat) : Int) < 2))) ?_
  refine zN ?_
  refine zC (b := decide ((((splitC 32 t).length : Nat) : Int) < 2)) rfl (fun h1 => ?_) (fun h1 => ?_)
  · skip
    have h1' : ((splitC 32 t).length) < 2 := (by have hh := of_decide_eq_true h1; omega)
    clear h1
    refine zg ?_
    refine zr (Reader.build (xs := []) (Es := []) (places := places_34) rfl Tryd.underlying34 (by refine ⟨rfl, fun j p x hp hx => ?_⟩; match j, hp, hx with | _ + 0, hp, hx => cases hp) zero_34 rfl places_34_ok (cs := [zI 0, .str [], zI 0, zI 0]) rfl) ?_
    refine zM (zI 0) ?_
    refine zst sizeOf_34 (.agg [zI 0, .str [], zI 0, zI 0]) ?_
    refine zM (zI 2) ?_
    refine zN ?_
    refine AWp.ret ?_
    exact ⟨.inl rfl, _, ResOf.tmpCellTmp 2 (zI 0) rfl (.inl rfl) 3 3 0 4 34 _ _ (.agg [zI 0, .str [], zI 0, zI 0]) rfl rfl Tryd.underlying34 sizeOf_34 rfl (Eq.refl true) 4 (zI 2) rfl rfl (by decide), ⟨by rw [(rd_no (by first | assumption | (exact okl_short (by assumption)))).1, (rd_no (by first | assumption | (exact okl_short (by assumption)))).2.1, (rd_no (by first | assumption | (exact okl_short (by assumption)))).2.2]; rfl, rfl⟩⟩
  · skip
    have h1' : ¬ (((splitC 32 t).length) < 2) := (by have hh := of_decide_eq_false h1; omega)
    clear h1
    refine AWp.skip ?_
    refine AWp.seq (AWp.anyR [0, 2, 3, 4, 5, 14, 7, 6] [3, 7] (⟨[(0, .str t), (2, zI 0), (3, .lptr 3 0), (4, zI 0), (5, .list true 9 ((splitC 32 t).map AV.str)), (14, zB (decide ((((splitC 32 t).length : Nat) : Int) < 2))), (7, .lptr 7 0), (6, zI (gN t))], [(3, [zI 0, .str [], zI 0, zI 0]), (7, [zI ((gE t).kind), .str ((gE t).id), zI ((gE t).sig), zI ((gE t).n)])], M⟩) (by kernel_rfl) ?_ ?_)
    · skip
      skip
      refine SAny.share 1 #[true, true, true, true, true, true, true, true, true, true, true, true, true, true, false] (⟨[(0, .str t), (2, zI 0), (3, .lptr 3 0), (4, zI 0), (10, .str t), (11, .list false 9 ((splitC 32 t).map AV.str)), (5, .list true 9 ((splitC 32 t).map AV.str)), (12, .list false 9 ((splitC 32 t).map AV.str)), (13, zI (((splitC 32 t).length : Nat) : Int)), (14, zB (decide ((((splitC 32 t).length : Nat) : Int) < 2))), (16, .list false 9 ((splitC 32 t).map AV.str)), (17, .eptr (.str ((splitC 32 t).getD 0 [])) 0), (21, .list false 9 ((splitC 32 t).map AV.str)), (22, .eptr (.str ((splitC 32 t).getD 1 [])) 0), (25, .list false 9 ((splitC 32 t).map AV.str)), (26, .list false 9 (((splitC 32 t).drop 2).map AV.str)), (7, .lptr 7 0), (23, .str ((splitC 32 t).getD 1 [])), (18, .str ((splitC 32 t).getD 0 [])), (19, zI (gN t)), (20, .list true 9 (kwL.map AV.str)), (24, zI (idxL kwL ((splitC 32 t).getD 1 []))), (27, encE (gE t)), (6, zI (gN t))], [(3, [zI 0, .str [], zI 0, zI 0]), (7, [zI 0, .str [], zI 0, zI 0])], M⟩) ?_ (fun sh0 => ?_)
      · skip
        refine zq [14] ⟨⟨_, rfl, ?_⟩, trivial⟩
        · skip
          refine zst sizeOf_34 (encE (gE t)) ?_
          refine zN ?_
          exact SAny.done (by kernel_rfl) rfl
      refine SAny.share 3 #[true, true, true, true, true, true, true, true, true, true, true, false, true, false, false] (⟨[(0, .str t), (2, zI 0), (3, .lptr 3 0), (4, zI 0), (10, .str t), (11, .list false 9 ((splitC 32 t).map AV.str)), (5, .list true 9 ((splitC 32 t).map AV.str)), (12, .list false 9 ((splitC 32 t).map AV.str)), (13, zI (((splitC 32 t).length : Nat) : Int)), (14, zB (decide ((((splitC 32 t).length : Nat) : Int) < 2))), (16, .list false 9 ((splitC 32 t).map AV.str)), (17, .eptr (.str ((splitC 32 t).getD 0 [])) 0), (21, .list false 9 ((splitC 32 t).map AV.str)), (22, .eptr (.str ((splitC 32 t).getD 1 [])) 0), (25, .list false 9 ((splitC 32 t).map AV.str)), (26, .list false 9 (((splitC 32 t).drop 2).map AV.str)), (7, .lptr 7 0), (23, .str ((splitC 32 t).getD 1 [])), (18, .str ((splitC 32 t).getD 0 [])), (19, zI (gN t)), (20, .list true 9 (kwL.map AV.str)), (24, zI (idxL kwL ((splitC 32 t).getD 1 [])))], [(3, [zI 0, .str [], zI 0, zI 0]), (7, [zI 0, .str [], zI 0, zI 0])], M⟩) ?_ (fun sh1 => ?_)
      · skip
        refine zq [11] ⟨⟨_, rfl, ?_⟩, trivial⟩
        · skip
          refine zc [zI (idxL kwL ((splitC 32 t).getD 1 [])), .list false 9 (((splitC 32 t).drop 2).map AV.str)] Tryd.call54 (guess_any (idxL kwL ((splitC 32 t).getD 1 [])) ((splitC 32 t).drop 2) (by rw [List.length_drop]; omega) hgd M) ?_
          rintro _ _ ⟨rfl, rfl⟩
          refine zN ?_
          refine zkm 13 (zI (gN t)) ?_
          exact SAny.same [0, 2, 3, 4, 10, 11, 5, 12, 13, 14, 16, 17, 21, 22, 25, 26, 7, 23, 18, 19, 20, 24, 27, 6] [3, 7] sh0 (by kernel_rfl) rfl
      refine SAny.share 4 #[true, true, true, true, true, true, true, true, false, true, true, false, true, false, false] (⟨[(0, .str t), (2, zI 0), (3, .lptr 3 0), (4, zI 0), (10, .str t), (11, .list false 9 ((splitC 32 t).map AV.str)), (5, .list true 9 ((splitC 32 t).map AV.str)), (12, .list false 9 ((splitC 32 t).map AV.str)), (13, zI (((splitC 32 t).length : Nat) : Int)), (14, zB (decide ((((splitC 32 t).length : Nat) : Int) < 2))), (16, .list false 9 ((splitC 32 t).map AV.str)), (17, .eptr (.str ((splitC 32 t).getD 0 [])) 0), (21, .list false 9 ((splitC 32 t).map AV.str)), (22, .eptr (.str ((splitC 32 t).getD 1 [])) 0), (25, .list false 9 ((splitC 32 t).map AV.str)), (26, .list false 9 (((splitC 32 t).drop 2).map AV.str)), (7, .lptr 7 0), (23, .str ((splitC 32 t).getD 1 [])), (18, .str ((splitC 32 t).getD 0 [])), (19, zI (gN t)), (20, .list true 9 (kwL.map AV.str))], [(3, [zI 0, .str [], zI 0, zI 0]), (7, [zI 0, .str [], zI 0, zI 0])], M⟩) ?_ (fun sh2 => ?_)
      · skip
        refine zq [8] ⟨⟨_, rfl, ?_⟩, trivial⟩
        · skip
          refine zc [.list false 9 (kwL.map AV.str), .str ((splitC 32 t).getD 1 [])] Tryd.call55 (Index_any kwL ((splitC 32 t).getD 1 []) (by decide) M) ?_
          rintro _ _ ⟨rfl, rfl⟩
          refine zN ?_
          exact SAny.same [0, 2, 3, 4, 10, 11, 5, 12, 13, 14, 16, 17, 21, 22, 25, 26, 7, 23, 18, 19, 20, 24] [3, 7] sh1 (by kernel_rfl) rfl
      refine SAny.share 5 #[true, true, true, true, false, true, true, true, false, true, true, false, true, false, false] (⟨[(0, .str t), (2, zI 0), (3, .lptr 3 0), (4, zI 0), (10, .str t), (11, .list false 9 ((splitC 32 t).map AV.str)), (5, .list true 9 ((splitC 32 t).map AV.str)), (12, .list false 9 ((splitC 32 t).map AV.str)), (13, zI (((splitC 32 t).length : Nat) : Int)), (14, zB (decide ((((splitC 32 t).length : Nat) : Int) < 2))), (16, .list false 9 ((splitC 32 t).map AV.str)), (17, .eptr (.str ((splitC 32 t).getD 0 [])) 0), (21, .list false 9 ((splitC 32 t).map AV.str)), (22, .eptr (.str ((splitC 32 t).getD 1 [])) 0), (25, .list false 9 ((splitC 32 t).map AV.str)), (26, .list false 9 (((splitC 32 t).drop 2).map AV.str)), (7, .lptr 7 0), (23, .str ((splitC 32 t).getD 1 [])), (18, .str ((splitC 32 t).getD 0 [])), (19, zI (gN t))], [(3, [zI 0, .str [], zI 0, zI 0]), (7, [zI 0, .str [], zI 0, zI 0])], M⟩) ?_ (fun sh3 => ?_)
      · skip
        refine zq [4] ⟨⟨_, rfl, ?_⟩, trivial⟩
        · skip
          refine zc [] Tryd.call56 (lwords_any M) ?_
          rintro _ _ ⟨rfl, rfl⟩
          refine zN ?_
          exact SAny.same [0, 2, 3, 4, 10, 11, 5, 12, 13, 14, 16, 17, 21, 22, 25, 26, 7, 23, 18, 19, 20] [3, 7] sh2 (by kernel_rfl) rfl
      refine SAny.share 5 #[true, true, true, true, true, true, true, false, false, true, true, false, true, false, false] (⟨[(0, .str t), (2, zI 0), (3, .lptr 3 0), (4, zI 0), (10, .str t), (11, .list false 9 ((splitC 32 t).map AV.str)), (5, .list true 9 ((splitC 32 t).map AV.str)), (12, .list false 9 ((splitC 32 t).map AV.str)), (13, zI (((splitC 32 t).length : Nat) : Int)), (14, zB (decide ((((splitC 32 t).length : Nat) : Int) < 2))), (16, .list false 9 ((splitC 32 t).map AV.str)), (17, .eptr (.str ((splitC 32 t).getD 0 [])) 0), (21, .list false 9 ((splitC 32 t).map AV.str)), (22, .eptr (.str ((splitC 32 t).getD 1 [])) 0), (25, .list false 9 ((splitC 32 t).map AV.str)), (26, .list false 9 (((splitC 32 t).drop 2).map AV.str)), (7, .lptr 7 0), (18, .str ((splitC 32 t).getD 0 [])), (19, zI (gN t)), (20, .list true 9 (kwL.map AV.str))], [(3, [zI 0, .str [], zI 0, zI 0]), (7, [zI 0, .str [], zI 0, zI 0])], M⟩) ?_ (fun sh4 => ?_)
      · skip
        refine zq [7] ⟨⟨_, rfl, ?_⟩, trivial⟩
        · skip
          refine zr (zlE (.str ((splitC 32 t).getD 1 [])) Tryd.underlying9 sizeOf_9) ?_
          refine zN ?_
          exact SAny.same [0, 2, 3, 4, 10, 11, 5, 12, 13, 14, 16, 17, 21, 22, 25, 26, 7, 23, 18, 19, 20] [3, 7] sh2 (by kernel_rfl) rfl
      refine SAny.share 5 #[true, true, true, true, true, true, true, true, false, true, true, false, false, false, false] (⟨[(0, .str t), (2, zI 0), (3, .lptr 3 0), (4, zI 0), (10, .str t), (11, .list false 9 ((splitC 32 t).map AV.str)), (5, .list true 9 ((splitC 32 t).map AV.str)), (12, .list false 9 ((splitC 32 t).map AV.str)), (13, zI (((splitC 32 t).length : Nat) : Int)), (14, zB (decide ((((splitC 32 t).length : Nat) : Int) < 2))), (16, .list false 9 ((splitC 32 t).map AV.str)), (17, .eptr (.str ((splitC 32 t).getD 0 [])) 0), (21, .list false 9 ((splitC 32 t).map AV.str)), (22, .eptr (.str ((splitC 32 t).getD 1 [])) 0), (25, .list false 9 ((splitC 32 t).map AV.str)), (26, .list false 9 (((splitC 32 t).drop 2).map AV.str)), (23, .str ((splitC 32 t).getD 1 [])), (18, .str ((splitC 32 t).getD 0 [])), (19, zI (gN t)), (20, .list true 9 (kwL.map AV.str))], [(3, [zI 0, .str [], zI 0, zI 0])], M⟩) ?_ (fun sh5 => ?_)
      · skip
        refine zq [8, 12] ⟨⟨_, rfl, ?_⟩, ⟨_, rfl, ?_⟩, trivial⟩
        · skip
          refine zc [.list false 9 (kwL.map AV.str), .str ((splitC 32 t).getD 1 [])] Tryd.call55 (Index_any kwL ((splitC 32 t).getD 1 []) (by decide) M) ?_
          rintro _ _ ⟨rfl, rfl⟩
          refine zN ?_
          refine zq [11, 12] ⟨⟨_, rfl, ?_⟩, ⟨_, rfl, ?_⟩, trivial⟩
          · skip
            refine zc [zI (idxL kwL ((splitC 32 t).getD 1 [])), .list false 9 (((splitC 32 t).drop 2).map AV.str)] Tryd.call54 (guess_any (idxL kwL ((splitC 32 t).getD 1 [])) ((splitC 32 t).drop 2) (by rw [List.length_drop]; omega) hgd M) ?_
            rintro _ _ ⟨rfl, rfl⟩
            refine zN ?_
            refine zq [12] ⟨⟨_, rfl, ?_⟩, trivial⟩
            · skip
              refine zal [] zero_34 [zI 0, .str [], zI 0, zI 0] ?_
              refine zN ?_
              refine zkm 13 (zI (gN t)) ?_
              exact SAny.same [0, 2, 3, 4, 10, 11, 5, 12, 13, 14, 16, 17, 21, 22, 25, 26, 7, 23, 18, 19, 20, 24, 27, 6] [3, 7] sh0 (by kernel_rfl) rfl
          · skip
            refine zal [] zero_34 [zI 0, .str [], zI 0, zI 0] ?_
            refine zN ?_
            exact SAny.same [0, 2, 3, 4, 10, 11, 5, 12, 13, 14, 16, 17, 21, 22, 25, 26, 7, 23, 18, 19, 20, 24] [3, 7] sh1 (by kernel_rfl) rfl
        · skip
          refine zal [] zero_34 [zI 0, .str [], zI 0, zI 0] ?_
          refine zN ?_
          exact SAny.same [0, 2, 3, 4, 10, 11, 5, 12, 13, 14, 16, 17, 21, 22, 25, 26, 7, 23, 18, 19, 20] [3, 7] sh2 (by kernel_rfl) rfl
      refine SAny.share 6 #[true, true, true, false, false, true, true, true, false, true, true, false, true, false, false] (⟨[(0, .str t), (2, zI 0), (3, .lptr 3 0), (4, zI 0), (10, .str t), (11, .list false 9 ((splitC 32 t).map AV.str)), (5, .list true 9 ((splitC 32 t).map AV.str)), (12, .list false 9 ((splitC 32 t).map AV.str)), (13, zI (((splitC 32 t).length : Nat) : Int)), (14, zB (decide ((((splitC 32 t).length : Nat) : Int) < 2))), (16, .list false 9 ((splitC 32 t).map AV.str)), (17, .eptr (.str ((splitC 32 t).getD 0 [])) 0), (21, .list false 9 ((splitC 32 t).map AV.str)), (22, .eptr (.str ((splitC 32 t).getD 1 [])) 0), (25, .list false 9 ((splitC 32 t).map AV.str)), (26, .list false 9 (((splitC 32 t).drop 2).map AV.str)), (7, .lptr 7 0), (23, .str ((splitC 32 t).getD 1 [])), (18, .str ((splitC 32 t).getD 0 []))], [(3, [zI 0, .str [], zI 0, zI 0]), (7, [zI 0, .str [], zI 0, zI 0])], M⟩) ?_ (fun sh6 => ?_)
      · skip
        refine zq [3] ⟨⟨_, rfl, ?_⟩, trivial⟩
        · skip
          refine zc [.str ((splitC 32 t).getD 0 [])] Tryd.call53 (lnum_any ((splitC 32 t).getD 0 []) (by assumption) M) ?_
          rintro _ _ ⟨rfl, rfl⟩
          refine zN ?_
          exact SAny.same [0, 2, 3, 4, 10, 11, 5, 12, 13, 14, 16, 17, 21, 22, 25, 26, 7, 23, 18, 19] [3, 7] sh3 (by kernel_rfl) rfl
      refine SAny.share 6 #[true, true, true, true, false, true, true, false, false, true, true, false, true, false, false] (⟨[(0, .str t), (2, zI 0), (3, .lptr 3 0), (4, zI 0), (10, .str t), (11, .list false 9 ((splitC 32 t).map AV.str)), (5, .list true 9 ((splitC 32 t).map AV.str)), (12, .list false 9 ((splitC 32 t).map AV.str)), (13, zI (((splitC 32 t).length : Nat) : Int)), (14, zB (decide ((((splitC 32 t).length : Nat) : Int) < 2))), (16, .list false 9 ((splitC 32 t).map AV.str)), (17, .eptr (.str ((splitC 32 t).getD 0 [])) 0), (21, .list false 9 ((splitC 32 t).map AV.str)), (22, .eptr (.str ((splitC 32 t).getD 1 [])) 0), (25, .list false 9 ((splitC 32 t).map AV.str)), (26, .list false 9 (((splitC 32 t).drop 2).map AV.str)), (7, .lptr 7 0), (18, .str ((splitC 32 t).getD 0 [])), (19, zI (gN t))], [(3, [zI 0, .str [], zI 0, zI 0]), (7, [zI 0, .str [], zI 0, zI 0])], M⟩) ?_ (fun sh7 => ?_)
      · skip
        refine zq [4, 7] ⟨⟨_, rfl, ?_⟩, ⟨_, rfl, ?_⟩, trivial⟩
        · skip
          refine zc [] Tryd.call56 (lwords_any M) ?_
          rintro _ _ ⟨rfl, rfl⟩
          refine zN ?_
          exact SAny.same [0, 2, 3, 4, 10, 11, 5, 12, 13, 14, 16, 17, 21, 22, 25, 26, 7, 18, 19, 20] [3, 7] sh4 (by kernel_rfl) rfl
        · skip
          refine zr (zlE (.str ((splitC 32 t).getD 1 [])) Tryd.underlying9 sizeOf_9) ?_
          refine zN ?_
          exact SAny.same [0, 2, 3, 4, 10, 11, 5, 12, 13, 14, 16, 17, 21, 22, 25, 26, 7, 23, 18, 19] [3, 7] sh3 (by kernel_rfl) rfl
      refine SAny.share 6 #[true, true, true, true, false, true, true, true, false, true, true, false, false, false, false] (⟨[(0, .str t), (2, zI 0), (3, .lptr 3 0), (4, zI 0), (10, .str t), (11, .list false 9 ((splitC 32 t).map AV.str)), (5, .list true 9 ((splitC 32 t).map AV.str)), (12, .list false 9 ((splitC 32 t).map AV.str)), (13, zI (((splitC 32 t).length : Nat) : Int)), (14, zB (decide ((((splitC 32 t).length : Nat) : Int) < 2))), (16, .list false 9 ((splitC 32 t).map AV.str)), (17, .eptr (.str ((splitC 32 t).getD 0 [])) 0), (21, .list false 9 ((splitC 32 t).map AV.str)), (22, .eptr (.str ((splitC 32 t).getD 1 [])) 0), (25, .list false 9 ((splitC 32 t).map AV.str)), (26, .list false 9 (((splitC 32 t).drop 2).map AV.str)), (23, .str ((splitC 32 t).getD 1 [])), (18, .str ((splitC 32 t).getD 0 [])), (19, zI (gN t))], [(3, [zI 0, .str [], zI 0, zI 0])], M⟩) ?_ (fun sh8 => ?_)
      · skip
        refine zq [4, 12] ⟨⟨_, rfl, ?_⟩, ⟨_, rfl, ?_⟩, trivial⟩
        · skip
          refine zc [] Tryd.call56 (lwords_any M) ?_
          rintro _ _ ⟨rfl, rfl⟩
          refine zN ?_
          exact SAny.same [0, 2, 3, 4, 10, 11, 5, 12, 13, 14, 16, 17, 21, 22, 25, 26, 23, 18, 19, 20] [3] sh5 (by kernel_rfl) rfl
        · skip
          refine zal [] zero_34 [zI 0, .str [], zI 0, zI 0] ?_
          refine zN ?_
          exact SAny.same [0, 2, 3, 4, 10, 11, 5, 12, 13, 14, 16, 17, 21, 22, 25, 26, 7, 23, 18, 19] [3, 7] sh3 (by kernel_rfl) rfl
      refine SAny.share 7 #[true, true, true, false, false, true, true, false, false, true, true, false, true, false, false] (⟨[(0, .str t), (2, zI 0), (3, .lptr 3 0), (4, zI 0), (10, .str t), (11, .list false 9 ((splitC 32 t).map AV.str)), (5, .list true 9 ((splitC 32 t).map AV.str)), (12, .list false 9 ((splitC 32 t).map AV.str)), (13, zI (((splitC 32 t).length : Nat) : Int)), (14, zB (decide ((((splitC 32 t).length : Nat) : Int) < 2))), (16, .list false 9 ((splitC 32 t).map AV.str)), (17, .eptr (.str ((splitC 32 t).getD 0 [])) 0), (21, .list false 9 ((splitC 32 t).map AV.str)), (22, .eptr (.str ((splitC 32 t).getD 1 [])) 0), (25, .list false 9 ((splitC 32 t).map AV.str)), (26, .list false 9 (((splitC 32 t).drop 2).map AV.str)), (7, .lptr 7 0), (18, .str ((splitC 32 t).getD 0 []))], [(3, [zI 0, .str [], zI 0, zI 0]), (7, [zI 0, .str [], zI 0, zI 0])], M⟩) ?_ (fun sh9 => ?_)
      · skip
        refine zq [3, 7] ⟨⟨_, rfl, ?_⟩, ⟨_, rfl, ?_⟩, trivial⟩
        · skip
          refine zc [.str ((splitC 32 t).getD 0 [])] Tryd.call53 (lnum_any ((splitC 32 t).getD 0 []) (by assumption) M) ?_
          rintro _ _ ⟨rfl, rfl⟩
          refine zN ?_
          exact SAny.same [0, 2, 3, 4, 10, 11, 5, 12, 13, 14, 16, 17, 21, 22, 25, 26, 7, 18, 19] [3, 7] sh7 (by kernel_rfl) rfl
        · skip
          refine zr (zlE (.str ((splitC 32 t).getD 1 [])) Tryd.underlying9 sizeOf_9) ?_
          refine zN ?_
          exact SAny.same [0, 2, 3, 4, 10, 11, 5, 12, 13, 14, 16, 17, 21, 22, 25, 26, 7, 23, 18] [3, 7] sh6 (by kernel_rfl) rfl
      refine SAny.share 7 #[true, true, false, false, false, true, true, true, false, true, true, false, true, false, false] (⟨[(0, .str t), (2, zI 0), (3, .lptr 3 0), (4, zI 0), (10, .str t), (11, .list false 9 ((splitC 32 t).map AV.str)), (5, .list true 9 ((splitC 32 t).map AV.str)), (12, .list false 9 ((splitC 32 t).map AV.str)), (13, zI (((splitC 32 t).length : Nat) : Int)), (14, zB (decide ((((splitC 32 t).length : Nat) : Int) < 2))), (16, .list false 9 ((splitC 32 t).map AV.str)), (17, .eptr (.str ((splitC 32 t).getD 0 [])) 0), (21, .list false 9 ((splitC 32 t).map AV.str)), (22, .eptr (.str ((splitC 32 t).getD 1 [])) 0), (25, .list false 9 ((splitC 32 t).map AV.str)), (26, .list false 9 (((splitC 32 t).drop 2).map AV.str)), (7, .lptr 7 0), (23, .str ((splitC 32 t).getD 1 []))], [(3, [zI 0, .str [], zI 0, zI 0]), (7, [zI 0, .str [], zI 0, zI 0])], M⟩) ?_ (fun sh10 => ?_)
      · skip
        refine zq [2] ⟨⟨_, rfl, ?_⟩, trivial⟩
        · skip
          refine zr (zlE (.str ((splitC 32 t).getD 0 [])) Tryd.underlying9 sizeOf_9) ?_
          refine zN ?_
          exact SAny.same [0, 2, 3, 4, 10, 11, 5, 12, 13, 14, 16, 17, 21, 22, 25, 26, 7, 23, 18] [3, 7] sh6 (by kernel_rfl) rfl
      refine SAny.share 7 #[true, true, true, false, false, true, true, true, false, true, true, false, false, false, false] (⟨[(0, .str t), (2, zI 0), (3, .lptr 3 0), (4, zI 0), (10, .str t), (11, .list false 9 ((splitC 32 t).map AV.str)), (5, .list true 9 ((splitC 32 t).map AV.str)), (12, .list false 9 ((splitC 32 t).map AV.str)), (13, zI (((splitC 32 t).length : Nat) : Int)), (14, zB (decide ((((splitC 32 t).length : Nat) : Int) < 2))), (16, .list false 9 ((splitC 32 t).map AV.str)), (17, .eptr (.str ((splitC 32 t).getD 0 [])) 0), (21, .list false 9 ((splitC 32 t).map AV.str)), (22, .eptr (.str ((splitC 32 t).getD 1 [])) 0), (25, .list false 9 ((splitC 32 t).map AV.str)), (26, .list false 9 (((splitC 32 t).drop 2).map AV.str)), (23, .str ((splitC 32 t).getD 1 [])), (18, .str ((splitC 32 t).getD 0 []))], [(3, [zI 0, .str [], zI 0, zI 0])], M⟩) ?_ (fun sh11 => ?_)
      · skip
        refine zq [3, 12] ⟨⟨_, rfl, ?_⟩, ⟨_, rfl, ?_⟩, trivial⟩
        · skip
          refine zc [.str ((splitC 32 t).getD 0 [])] Tryd.call53 (lnum_any ((splitC 32 t).getD 0 []) (by assumption) M) ?_
          rintro _ _ ⟨rfl, rfl⟩
          refine zN ?_
          exact SAny.same [0, 2, 3, 4, 10, 11, 5, 12, 13, 14, 16, 17, 21, 22, 25, 26, 23, 18, 19] [3] sh8 (by kernel_rfl) rfl
        · skip
          refine zal [] zero_34 [zI 0, .str [], zI 0, zI 0] ?_
          refine zN ?_
          exact SAny.same [0, 2, 3, 4, 10, 11, 5, 12, 13, 14, 16, 17, 21, 22, 25, 26, 7, 23, 18] [3, 7] sh6 (by kernel_rfl) rfl
      refine zkm 0 (.list false 9 ((splitC 32 t).map AV.str)) ?_
      refine zk 1 rfl (PReader.elemAddr (m := 0) rfl Tryd.underlying23 sizeOf_9 rfl rfl rfl (e := .str ((splitC 32 t).getD 0 [])) (strs_at (by first | omega | (show _ < 0; omega)))) ?_
      refine zkm 5 (.list false 9 ((splitC 32 t).map AV.str)) ?_
      refine zk 6 rfl (PReader.elemAddr (m := 1) rfl Tryd.underlying23 sizeOf_9 rfl rfl rfl (e := .str ((splitC 32 t).getD 1 [])) (strs_at (by first | omega | (show _ < 0; omega)))) ?_
      refine zkm 9 (.list false 9 ((splitC 32 t).map AV.str)) ?_
      refine zk 10 rfl (PReader.piece (xs := ((splitC 32 t).map AV.str)) (i := 2) (j := (splitC 32 t).length) rfl Tryd.underlying23 sizeOf_9 rfl ⟨_, _, rfl, rfl⟩ (by rw [List.length_map]; rfl) (by omega) (by rw [List.length_map]; omega) (ys := (((splitC 32 t).drop 2).map AV.str)) (by rw [List.take_of_length_le (by simp), List.map_drop])) ?_
      refine zq [2, 7, 12] ⟨⟨_, rfl, ?_⟩, ⟨_, rfl, ?_⟩, ⟨_, rfl, ?_⟩, trivial⟩
      · skip
        refine zr (zlE (.str ((splitC 32 t).getD 0 [])) Tryd.underlying9 sizeOf_9) ?_
        refine zN ?_
        refine zq [3, 7, 12] ⟨⟨_, rfl, ?_⟩, ⟨_, rfl, ?_⟩, ⟨_, rfl, ?_⟩, trivial⟩
        · skip
          refine zc [.str ((splitC 32 t).getD 0 [])] Tryd.call53 (lnum_any ((splitC 32 t).getD 0 []) (by assumption) M) ?_
          rintro _ _ ⟨rfl, rfl⟩
          refine zN ?_
          refine zq [4, 7, 12] ⟨⟨_, rfl, ?_⟩, ⟨_, rfl, ?_⟩, ⟨_, rfl, ?_⟩, trivial⟩
          · skip
            refine zc [] Tryd.call56 (lwords_any M) ?_
            rintro _ _ ⟨rfl, rfl⟩
            refine zN ?_
            refine zq [7, 12] ⟨⟨_, rfl, ?_⟩, ⟨_, rfl, ?_⟩, trivial⟩
            · skip
              refine zr (zlE (.str ((splitC 32 t).getD 1 [])) Tryd.underlying9 sizeOf_9) ?_
              refine zN ?_
              exact SAny.same [0, 2, 3, 4, 10, 11, 5, 12, 13, 14, 16, 17, 21, 22, 25, 26, 23, 18, 19, 20] [3] sh5 (by kernel_rfl) rfl
            · skip
              refine zal [] zero_34 [zI 0, .str [], zI 0, zI 0] ?_
              refine zN ?_
              exact SAny.same [0, 2, 3, 4, 10, 11, 5, 12, 13, 14, 16, 17, 21, 22, 25, 26, 7, 18, 19, 20] [3, 7] sh4 (by kernel_rfl) rfl
          · skip
            refine zr (zlE (.str ((splitC 32 t).getD 1 [])) Tryd.underlying9 sizeOf_9) ?_
            refine zN ?_
            exact SAny.same [0, 2, 3, 4, 10, 11, 5, 12, 13, 14, 16, 17, 21, 22, 25, 26, 23, 18, 19] [3] sh8 (by kernel_rfl) rfl
          · skip
            refine zal [] zero_34 [zI 0, .str [], zI 0, zI 0] ?_
            refine zN ?_
            exact SAny.same [0, 2, 3, 4, 10, 11, 5, 12, 13, 14, 16, 17, 21, 22, 25, 26, 7, 18, 19] [3, 7] sh7 (by kernel_rfl) rfl
        · skip
          refine zr (zlE (.str ((splitC 32 t).getD 1 [])) Tryd.underlying9 sizeOf_9) ?_
          refine zN ?_
          exact SAny.same [0, 2, 3, 4, 10, 11, 5, 12, 13, 14, 16, 17, 21, 22, 25, 26, 23, 18] [3] sh11 (by kernel_rfl) rfl
        · skip
          refine zal [] zero_34 [zI 0, .str [], zI 0, zI 0] ?_
          refine zN ?_
          exact SAny.same [0, 2, 3, 4, 10, 11, 5, 12, 13, 14, 16, 17, 21, 22, 25, 26, 7, 18] [3, 7] sh9 (by kernel_rfl) rfl
      · skip
        refine zr (zlE (.str ((splitC 32 t).getD 1 [])) Tryd.underlying9 sizeOf_9) ?_
        refine zN ?_
        refine zq [2, 12] ⟨⟨_, rfl, ?_⟩, ⟨_, rfl, ?_⟩, trivial⟩
        · skip
          refine zr (zlE (.str ((splitC 32 t).getD 0 [])) Tryd.underlying9 sizeOf_9) ?_
          refine zN ?_
          exact SAny.same [0, 2, 3, 4, 10, 11, 5, 12, 13, 14, 16, 17, 21, 22, 25, 26, 23, 18] [3] sh11 (by kernel_rfl) rfl
        · skip
          refine zal [] zero_34 [zI 0, .str [], zI 0, zI 0] ?_
          refine zN ?_
          exact SAny.same [0, 2, 3, 4, 10, 11, 5, 12, 13, 14, 16, 17, 21, 22, 25, 26, 7, 23] [3, 7] sh10 (by kernel_rfl) rfl
      · skip
        refine zal [] zero_34 [zI 0, .str [], zI 0, zI 0] ?_
        refine zN ?_
        refine zq [2, 7] ⟨⟨_, rfl, ?_⟩, ⟨_, rfl, ?_⟩, trivial⟩
        · skip
          refine zr (zlE (.str ((splitC 32 t).getD 0 [])) Tryd.underlying9 sizeOf_9) ?_
          refine zN ?_
          exact SAny.same [0, 2, 3, 4, 10, 11, 5, 12, 13, 14, 16, 17, 21, 22, 25, 26, 7, 18] [3, 7] sh9 (by kernel_rfl) rfl
        · skip
          refine zr (zlE (.str ((splitC 32 t).getD 1 [])) Tryd.underlying9 sizeOf_9) ?_
          refine zN ?_
          exact SAny.same [0, 2, 3, 4, 10, 11, 5, 12, 13, 14, 16, 17, 21, 22, 25, 26, 7, 23] [3, 7] sh10 (by kernel_rfl) rfl
    refine AWp.seq ?_
    refine zg ?_
    refine zM (zI (gN t)) ?_
    refine zr (zlL (.agg [zI ((gE t).kind), .str ((gE t).id), zI ((gE t).sig), zI ((gE t).n)]) Tryd.underlying34 sizeOf_34) ?_
    refine zc [zI (gN t), encE (gE t)] Tryd.call22 (lline_any (gN t) (gE t) hgi hgn M) ?_
    rintro _ _ ⟨rfl, rfl⟩
    refine zM (.tuple [.str (textE (gN t) (gE t)), zI (errE (gN t) (gE t))]) ?_
    refine zr (zx (.str (textE (gN t) (gE t)))) ?_
    refine zr (zx (zI (errE (gN t) (gE t)))) ?_
    refine zM (.str (textE (gN t) (gE t))) ?_
    refine zM (zI (errE (gN t) (gE t))) ?_
    refine zN ?_
    refine zj 40 [(0, .str t), (2, zI 0), (3, .lptr 3 0), (4, zI 0), (5, .list true 9 ((splitC 32 t).map AV.str)), (14, zB (decide ((((splitC 32 t).length : Nat) : Int) < 2))), (7, .lptr 7 0), (6, zI (gN t)), (8, .str (textE (gN t) (gE t))), (9, zI (errE (gN t) (gE t)))] [(3, [zI 0, .str [], zI 0, zI 0]), (7, [zI ((gE t).kind), .str ((gE t).id), zI ((gE t).sig), zI ((gE t).n)])] M (bif ((errE (gN t) (gE t)) != 0) then true else (!((textE (gN t) (gE t)) == t))) ?_ ?_
    · skip
      refine zM (zI (errE (gN t) (gE t))) ?_
      refine zr (zi ((errE (gN t) (gE t)) != 0)) ?_
      refine zM (zB ((errE (gN t) (gE t)) != 0)) ?_
      refine AOps.splitJ (t := 36) (b := (errE (gN t) (gE t)) != 0) (x := true) (y := (!((textE (gN t) (gE t)) == t))) rfl (fun h2 => ?_) (fun h2 => ?_)
      · skip
        have h2' : (errE (gN t) (gE t)) ≠ 0 := (by have hh := bne_iff_ne.1 h2; omega)
        clear h2
        refine zs ?_
        refine zs ?_
        refine zs ?_
        refine zr (zp true (zB true)) ?_
        exact AOps.nil rfl
      · skip
        have h2' : ¬ ((errE (gN t) (gE t)) ≠ 0) := (by have hh := bne_eq_false_iff_eq.1 h2; omega)
        clear h2
        refine zM (.str (textE (gN t) (gE t))) ?_
        refine zM (.str t) ?_
        refine zr (zt (!((textE (gN t) (gE t)) == t))) ?_
        refine zr (zp false (zB (!((textE (gN t) (gE t)) == t)))) ?_
        exact AOps.nil rfl
    refine zC (b := bif ((errE (gN t) (gE t)) != 0) then true else (!((textE (gN t) (gE t)) == t))) rfl (fun h3 => ?_) (fun h3 => ?_)
    · skip
      have h3' : ¬ OkL t := (okl_t h3)
      clear h3
      refine zg ?_
      refine zr (Reader.build (xs := []) (Es := []) (places := places_34) rfl Tryd.underlying34 (by refine ⟨rfl, fun j p x hp hx => ?_⟩; match j, hp, hx with | _ + 0, hp, hx => cases hp) zero_34 rfl places_34_ok (cs := [zI 0, .str [], zI 0, zI 0]) rfl) ?_
      refine zM (zI 0) ?_
      refine zst sizeOf_34 (.agg [zI 0, .str [], zI 0, zI 0]) ?_
      refine zM (zI 2) ?_
      refine zN ?_
      refine AWp.ret ?_
      exact ⟨.inl rfl, _, ResOf.tmpCellTmp 2 (zI 0) rfl (.inl rfl) 3 3 0 4 34 _ _ (.agg [zI 0, .str [], zI 0, zI 0]) rfl rfl Tryd.underlying34 sizeOf_34 rfl (Eq.refl true) 4 (zI 2) rfl rfl (by decide), ⟨by rw [(rd_no (by first | assumption | (exact okl_short (by assumption)))).1, (rd_no (by first | assumption | (exact okl_short (by assumption)))).2.1, (rd_no (by first | assumption | (exact okl_short (by assumption)))).2.2]; rfl, rfl⟩⟩
    · skip
      have h3' : OkL t := (okl_f (by assumption) h3)
      clear h3
      refine AWp.skip ?_
      refine AWp.seq (AWp.anyR [40, 0, 2, 3, 4, 5, 14, 7, 6, 8, 9] [3, 7] (⟨[(40, zB (bif ((errE (gN t) (gE t)) != 0) then true else (!((textE (gN t) (gE t)) == t)))), (0, .str t), (2, zI (gN t)), (3, .lptr 3 0), (4, zI 0), (5, .list true 9 ((splitC 32 t).map AV.str)), (14, zB (decide ((((splitC 32 t).length : Nat) : Int) < 2))), (7, .lptr 7 0), (6, zI (gN t)), (8, .str (textE (gN t) (gE t))), (9, zI (errE (gN t) (gE t)))], [(3, [zI ((gE t).kind), .str ((gE t).id), zI ((gE t).sig), zI ((gE t).n)]), (7, [zI ((gE t).kind), .str ((gE t).id), zI ((gE t).sig), zI ((gE t).n)])], M⟩) (by kernel_rfl) ?_ ?_)
      · skip
        skip
        refine zkm 0 (zI (gN t)) ?_
        refine zkm 2 (zI (gN t)) ?_
        refine zq [1] ⟨⟨_, rfl, ?_⟩, trivial⟩
        · skip
          refine zr (zlL (.agg [zI ((gE t).kind), .str ((gE t).id), zI ((gE t).sig), zI ((gE t).n)]) Tryd.underlying34 sizeOf_34) ?_
          refine zN ?_
          refine zq [3] ⟨⟨_, rfl, ?_⟩, trivial⟩
          · skip
            refine zst sizeOf_34 (.agg [zI ((gE t).kind), .str ((gE t).id), zI ((gE t).sig), zI ((gE t).n)]) ?_
            refine zN ?_
            refine zkm 4 (zI 0) ?_
            exact SAny.done (by kernel_rfl) rfl
      refine AWp.ret ?_
      exact ⟨.inl rfl, _, ResOf.tmpCellTmp 2 (zI (gN t)) rfl (.inl rfl) 3 3 0 4 34 _ _ (.agg [zI ((gE t).kind), .str ((gE t).id), zI ((gE t).sig), zI ((gE t).n)]) rfl rfl Tryd.underlying34 sizeOf_34 rfl (Eq.refl true) 4 (zI 0) rfl rfl (by decide), ⟨by rw [(rd_ok (by assumption)).1, (rd_ok (by assumption)).2.1, (rd_ok (by assumption)).2.2]; rfl, rfl⟩⟩

end Go.Proofs.YtlpihekflkjkfaaDoor
