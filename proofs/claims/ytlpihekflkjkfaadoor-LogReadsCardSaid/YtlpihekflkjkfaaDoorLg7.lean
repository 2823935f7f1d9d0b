/- Walks over abstract values, printed by my program av.py. -/
import Derived.Test.YtlpihekflkjkfaaDoorLg6
namespace Go.Proofs.YtlpihekflkjkfaaDoor
open Go.RowKit

theorem kc_hit {i : Nat} {x : List UInt8} (hi : 1 ≤ i) (h : kwOf (i : Int) = x) : (i = 0 ∧ ∀ j, 1 ≤ j → j < i + 1 → kwL.getD j [] ≠ x) ∨ (1 ≤ i ∧ i < i + 1 ∧ kwL.getD i [] = x) := .inr ⟨hi, by omega, h⟩
theorem kc_miss {i c : Nat} {x : List UInt8} (hk : (c = 0 ∧ ∀ j, 1 ≤ j → j < i → kwL.getD j [] ≠ x) ∨ (1 ≤ c ∧ c < i ∧ kwL.getD c [] = x)) (h : ¬ kwOf (i : Int) = x) : (c = 0 ∧ ∀ j, 1 ≤ j → j < i + 1 → kwL.getD j [] ≠ x) ∨ (1 ≤ c ∧ c < i + 1 ∧ kwL.getD c [] = x) := by
  rcases hk with ⟨h1, h2⟩ | ⟨h1, h2, h3⟩
  · refine .inl ⟨h1, fun j h3 h4 => ?_⟩
    rcases Nat.lt_succ_iff_lt_or_eq.1 h4 with h5 | rfl
    · exact h2 j h3 h5
    · exact h
  · exact .inr ⟨h1, by omega, h3⟩
theorem okl_len {t : List UInt8} (h : (splitC 32 t).length < 3 ∨ (splitC 32 t).length > 5) : ¬ OkL t := fun hk => by
  have := (rl_main rfl (rEv_n _ _).2).1 hk
  omega
theorem r34_t {p : Prop} [Decidable p] {x t : List UInt8} {m : Nat} (h : (bif !(decide p) then true else (bif !(x == t) then true else decide ((m : Int) > 0))) = true) : ¬ (p ∧ x = t ∧ m = 0) := by
  rintro ⟨h1, h2, h3⟩
  subst h2; subst h3
  rw [decide_eq_true h1] at h
  simp at h
theorem r34_f {p : Prop} [Decidable p] {x t : List UInt8} {m : Nat} (h : (bif !(decide p) then true else (bif !(x == t) then true else decide ((m : Int) > 0))) = false) : p ∧ x = t ∧ m = 0 := by
  by_cases h1 : p
  · by_cases h2 : x = t
    · subst h2
      rw [decide_eq_true h1] at h
      simp at h
      exact ⟨h1, rfl, by omega⟩
    · rw [decide_eq_true h1, beq_eq_false_iff_ne.2 h2] at h; cases h
  · rw [decide_eq_false h1] at h; cases h
theorem rr_no {t : List UInt8} (h : ¬ OkL t) : AV.tuple [.lit (.int .i64 0), .agg [.lit (.int .i64 0), .str [], .lit (.int .i64 0), .lit (.int .i64 0)], .lit (.bool false)] = .tuple [.lit (.int .i64 (rdN t)), encE (rdE t), .lit (.bool (decide (OkL t)))] := by
  rw [(rd_no h).1, (rd_no h).2.1, decide_eq_false h]; rfl
theorem rr_yes {t : List UInt8} {r c sg n : Int} {id : List UInt8} (h : OkL t ∧ rdN t = r ∧ rdE t = ⟨c, id, sg, n⟩) : AV.tuple [.lit (.int .i64 r), .agg [.lit (.int .i64 c), .str id, .lit (.int .i64 sg), .lit (.int .i64 n)], .lit (.bool true)] = .tuple [.lit (.int .i64 (rdN t)), encE (rdE t), .lit (.bool (decide (OkL t)))] := by
  rw [h.2.1, h.2.2, decide_eq_true h.1]; rfl

set_option maxRecDepth 20000 in
theorem rread_any (t : List UInt8) (hl : t.length ≤ 4294967280) (M : Nat → Option (List AV)) : ACall Tryd.prog 26 [.str t] M (fun r M' => r = .tuple [.lit (.int .i64 (rdN t)), encE (rdE t), .lit (.bool (decide (OkL t)))] ∧ M = M') := by
  have hsl := splitC_le 32 t
  have hg0 := split_le hl 0
  have hg2 := split_le hl 2
  refine ACall.of Tryd.func26 rfl (n := 154) rfl rfl rfl ?_
  refine AWp.seq (AWp.region ?_)
  refine AOps.read trivial rfl (by decide) (Reader.move (.inr rfl) (ok_const rfl) (v := .lit (.int .i64 0)) rfl) ?_
  refine AOps.alloc (Es := []) trivial rfl (by decide) rfl (noL rfl) rfl zero_34 rfl (cells := [.lit (.int .i64 0), .str [], .lit (.int .i64 0), .lit (.int .i64 0)]) rfl (all_scalar rfl) (all_flat rfl) ?_
  refine AOps.read trivial rfl (by decide) (Reader.move (.inr rfl) (ok_const rfl) (v := .lit (.bool false)) rfl) ?_
  refine AOps.nil ?_
  refine AWp.seq (AWp.region ?_)
  refine AOps.read trivial rfl (by decide) (Reader.move (.inl rfl) (ok_const rfl) (v := .str t) rfl) ?_
  refine AOps.call (args := [.str t]) trivial rfl (by decide) rfl rfl Tryd.call57 (args_ok rfl) rfl (by intro j x v hx hv; match j, hx, hv with | 0, hx, hv => cases hx; cases hv; exact .inl ⟨rfl, rfl⟩ | _ + 1, hx, hv => cases hx) (rsplit_any t (by first | omega | (simp only [List.length_append, List.length_cons, List.length_nil]; omega)) M) ?_
  rintro _ _ ⟨rfl, rfl⟩
  refine AOps.steal trivial rfl (by decide) (by decide) (.inr rfl) (v := .list true 9 ((splitC 32 t).map AV.str)) rfl ?_
  refine AOps.nil ?_
  refine AWp.seq ?_
  refine AWp.regionJ [21, 0, 2, 3, 4, 5] [3] (fun z => ⟨(21, .lit (.bool z)) :: [(0, .str t), (2, .lit (.int .i64 0)), (3, .lptr 3 0), (4, .lit (.bool false)), (5, .list true 9 ((splitC 32 t).map AV.str))], [(3, [.lit (.int .i64 0), .str [], .lit (.int .i64 0), .lit (.int .i64 0)])], M⟩) (z := bif (decide ((((splitC 32 t).length : Nat) : Int) < 3)) then true else (decide ((((splitC 32 t).length : Nat) : Int) > 5))) ?_ ?_
  · skip
    refine AOps.read trivial rfl (by decide) (Reader.move (.inl rfl) (ok_const rfl) (v := .list false 9 ((splitC 32 t).map AV.str)) rfl) ?_
    refine AOps.read trivial rfl (by decide) (Reader.len' (xs := (splitC 32 t).map AV.str) rfl rfl rfl rfl Tryd.underlying23 rfl (m := (splitC 32 t).length) (by simp)) ?_
    refine AOps.read trivial rfl (by decide) (Reader.int rfl rfl rfl (r := .bool (decide ((((splitC 32 t).length : Nat) : Int) < 3))) rfl) ?_
    refine AOps.read trivial rfl (by decide) (Reader.move (.inl rfl) (ok_const rfl) (v := .lit (.bool (decide ((((splitC 32 t).length : Nat) : Int) < 3)))) rfl) ?_
    refine AOps.splitJ (t := 17) (b := decide ((((splitC 32 t).length : Nat) : Int) < 3)) (x := true) (y := (decide ((((splitC 32 t).length : Nat) : Int) > 5))) rfl (fun h1 => ?_) (fun h1 => ?_)
    · skip
      have h1' : ((splitC 32 t).length) < 3 := (by have hh := of_decide_eq_true h1; omega)
      clear h1
      refine AOps.skip ⟨3, false, 17, _, rfl, rfl, rfl, by simp⟩ rfl (by decide) ?_
      refine AOps.skip ⟨3, false, 17, _, rfl, rfl, rfl, by simp⟩ rfl (by decide) ?_
      refine AOps.skip ⟨3, false, 17, _, rfl, rfl, rfl, by simp⟩ rfl (by decide) ?_
      refine AOps.read trivial rfl (by decide) (Reader.pick rfl (b := true) rfl (ok_const rfl) (ok_const rfl) (v := .lit (.bool true)) rfl) ?_
      exact AOps.nil rfl
    · skip
      have h1' : ¬ (((splitC 32 t).length) < 3) := (by have hh := of_decide_eq_false h1; omega)
      clear h1
      refine AOps.read ⟨17, rfl, rfl⟩ rfl (by decide) (Reader.move (.inl rfl) (ok_const rfl) (v := .list false 9 ((splitC 32 t).map AV.str)) rfl) ?_
      refine AOps.read ⟨17, rfl, rfl⟩ rfl (by decide) (Reader.len' (xs := (splitC 32 t).map AV.str) rfl rfl rfl rfl Tryd.underlying23 rfl (m := (splitC 32 t).length) (by simp)) ?_
      refine AOps.read ⟨17, rfl, rfl⟩ rfl (by decide) (Reader.int rfl rfl rfl (r := .bool (decide ((((splitC 32 t).length : Nat) : Int) > 5))) rfl) ?_
      refine AOps.read trivial rfl (by decide) (Reader.pick rfl (b := false) rfl (ok_const rfl) (ok_const rfl) (v := .lit (.bool (decide ((((splitC 32 t).length : Nat) : Int) > 5)))) rfl) ?_
      exact AOps.nil rfl
  have hz1 : (bif (decide ((((splitC 32 t).length : Nat) : Int) < 3)) then true else (decide ((((splitC 32 t).length : Nat) : Int) > 5))) = decide ((splitC 32 t).length < 3 ∨ (splitC 32 t).length > 5) := by rw [Bool.eq_iff_iff, decide_eq_true_iff]; simp only [Bool.cond_eq_ite]; (repeat' split) <;> simp_all <;> omega
  refine AWp.cond (b := bif (decide ((((splitC 32 t).length : Nat) : Int) < 3)) then true else (decide ((((splitC 32 t).length : Nat) : Int) > 5))) rfl (fun h2 => ?_) (fun h2 => ?_)
  · skip
    have h2' : (splitC 32 t).length < 3 ∨ (splitC 32 t).length > 5 := (of_decide_eq_true (hz1.symm.trans h2))
    clear h2
    refine AWp.seq (AWp.region ?_)
    refine AOps.read trivial rfl (by decide) (Reader.build (xs := []) (Es := []) (places := places_34) rfl Tryd.underlying34 (by refine ⟨rfl, fun j p x hp hx => ?_⟩; match j, hp, hx with | _ + 0, hp, hx => cases hp) zero_34 rfl places_34_ok (cs := [.lit (.int .i64 0), .str [], .lit (.int .i64 0), .lit (.int .i64 0)]) rfl) ?_
    refine AOps.read trivial rfl (by decide) (Reader.move (.inr rfl) (ok_const rfl) (v := .lit (.int .i64 0)) rfl) ?_
    refine AOps.storeL trivial rfl rfl rfl rfl sizeOf_34 (.inl ⟨rfl, rfl⟩) rfl (v := .agg [.lit (.int .i64 0), .str [], .lit (.int .i64 0), .lit (.int .i64 0)]) rfl (all_flat rfl) rfl (Nat.le_of_ble_eq_true rfl) ?_
    refine AOps.read trivial rfl (by decide) (Reader.move (.inr rfl) (ok_const rfl) (v := .lit (.bool false)) rfl) ?_
    refine AOps.nil ?_
    refine AWp.ret ?_
    exact ⟨.inl rfl, _, ResOf.tmpCellTmp 2 (.lit (.int .i64 0)) rfl (.inl rfl) 3 3 0 4 34 _ _ (.agg [.lit (.int .i64 0), .str [], .lit (.int .i64 0), .lit (.int .i64 0)]) rfl rfl Tryd.underlying34 sizeOf_34 rfl (Eq.refl true) 4 (.lit (.bool false)) rfl rfl (by decide), ⟨rr_no (by first | assumption | exact okl_len (by assumption) | exact rr_B hkc h54 (by omega) (by omega) | exact rr_C hkc h54 h63 (by assumption) (by omega) | exact rr_D hkc h54 h63 (by assumption) (by omega) | exact rr_E hc16 hkc h54 h63 h97 hx (by assumption)), rfl⟩⟩
  · skip
    have h2' : ¬ ((splitC 32 t).length < 3 ∨ (splitC 32 t).length > 5) := (of_decide_eq_false (hz1.symm.trans h2))
    clear h2
    refine AWp.skip ?_
    refine AWp.seq (AWp.region ?_)
    refine AOps.read trivial rfl (by decide) (Reader.build (xs := []) (Es := []) (places := places_34) rfl Tryd.underlying34 (by refine ⟨rfl, fun j p x hp hx => ?_⟩; match j, hp, hx with | _ + 0, hp, hx => cases hp) zero_34 rfl places_34_ok (cs := [.lit (.int .i64 0), .str [], .lit (.int .i64 0), .lit (.int .i64 0)]) rfl) ?_
    refine AOps.alloc (Es := []) trivial rfl (by decide) rfl (noL rfl) rfl zero_34 rfl (cells := [.lit (.int .i64 0), .str [], .lit (.int .i64 0), .lit (.int .i64 0)]) rfl (all_scalar rfl) (all_flat rfl) ?_
    refine AOps.storeL trivial rfl rfl rfl rfl sizeOf_34 (.inl ⟨rfl, rfl⟩) rfl (v := .agg [.lit (.int .i64 0), .str [], .lit (.int .i64 0), .lit (.int .i64 0)]) rfl (all_flat rfl) rfl (Nat.le_of_ble_eq_true rfl) ?_
    refine AOps.nil ?_
    refine AWp.seq ?_
    refine AWp.seq (AWp.region ?_)
    refine AOps.read trivial rfl (by decide) (Reader.move (.inr rfl) (ok_const rfl) (v := .lit (.int .i64 1)) rfl) ?_
    refine AOps.nil ?_
    refine AWp.block ?_
    refine AWp.loopE [0, 3, 5, 6, 7] [3, 6] (fun m s => ∃ (i : Nat) (c : Nat), m = 17 - i ∧ s = ⟨[(0, .str t), (3, .lptr 3 0), (5, .list true 9 ((splitC 32 t).map AV.str)), (6, .lptr 6 0), (7, .lit (.int .i64 (i : Int)))], [(3, [.lit (.int .i64 0), .str [], .lit (.int .i64 0), .lit (.int .i64 0)]), (6, [.lit (.int .i64 (c : Int)), .str [], .lit (.int .i64 0), .lit (.int .i64 0)])], M⟩ ∧ (1 ≤ i) ∧ (i ≤ 17) ∧ (c ≤ 16) ∧ ((c = 0 ∧ ∀ j, 1 ≤ j → j < i → kwL.getD j [] ≠ ((splitC 32 t).getD 1 [])) ∨ (1 ≤ c ∧ c < i ∧ kwL.getD c [] = ((splitC 32 t).getD 1 [])))) ?_ ?_
    · exact ⟨_, 1, 0, rfl, rfl, by omega, by omega, by omega, .inl ⟨rfl, fun j h1 h2 => by omega⟩⟩
    · rintro _ _ ⟨i, c, rfl, rfl, hi1, hi, hc16, hkk⟩
      refine AWp.seq ?_
      refine AWp.seq (AWp.region ?_)
      refine AOps.read trivial rfl (by decide) (Reader.move (.inl rfl) (ok_const rfl) (v := .lit (.int .i64 (i : Int))) rfl) ?_
      refine AOps.read trivial rfl (by decide) (Reader.int rfl rfl rfl (r := .bool (decide ((i : Int) ≤ 16))) rfl) ?_
      refine AOps.nil ?_
      refine AWp.cond (b := decide ((i : Int) ≤ 16)) rfl (fun h3 => ?_) (fun h3 => ?_)
      · skip
        have h3' : i ≤ 16 := (by have hh := of_decide_eq_true h3; omega)
        clear h3
        refine AWp.skip ?_
        refine AWp.seq ?_
        refine AWp.block ?_
        refine AWp.seq (AWp.anyR [0, 3, 5, 6, 7, 25, 33] [3, 6] (⟨[(0, .str t), (3, .lptr 3 0), (5, .list true 9 ((splitC 32 t).map AV.str)), (6, .lptr 6 0), (7, .lit (.int .i64 (i : Int))), (25, .lit (.bool (decide ((i : Int) ≤ 16)))), (33, .lit (.bool ((kwOf (i : Int)) == ((splitC 32 t).getD 1 []))))], [(3, [.lit (.int .i64 0), .str [], .lit (.int .i64 0), .lit (.int .i64 0)]), (6, [.lit (.int .i64 (c : Int)), .str [], .lit (.int .i64 0), .lit (.int .i64 0)])], M⟩) (by kernel_rfl) ?_ ?_)
        · skip
          skip
          refine SAny.take 0 rfl (by kernel_rfl) (by kernel_rfl) (by kernel_rfl) trivial rfl (by decide) (PReader.move (.inl rfl) (ok_const rfl) (v := .lit (.int .i64 (i : Int))) rfl) ?_
          refine SAny.take 2 rfl (by kernel_rfl) (by kernel_rfl) (by kernel_rfl) trivial rfl (by decide) (PReader.move (.inl rfl) (ok_const rfl) (v := .list false 9 ((splitC 32 t).map AV.str)) rfl) ?_
          refine SAny.take 3 rfl (by kernel_rfl) (by kernel_rfl) (by kernel_rfl) trivial rfl (by decide) (PReader.elemAddr (m := 1) rfl Tryd.underlying23 sizeOf_9 rfl rfl rfl (e := .str ((splitC 32 t).getD 1 [])) (strs_at (by first | omega | (show _ < 0; omega)))) ?_
          refine SAny.step [1, 4] (by kernel_rfl) (by decide) ?_
          intro iq hq; simp only [List.mem_cons, List.mem_nil_iff, or_false] at hq
          rcases hq with rfl | rfl
          · refine ⟨_, rfl, ?_⟩
            refine AOps.call (args := [.lit (.int .i64 (i : Int))]) trivial rfl (by decide) rfl rfl Tryd.call50 (args_ok rfl) rfl (by intro j x v hx hv; match j, hx, hv with | 0, hx, hv => cases hx; cases hv; exact .inl ⟨rfl, rfl⟩ | _ + 1, hx, hv => cases hx) (rkw_any (i : Int) M) ?_
            rintro _ _ ⟨rfl, rfl⟩
            refine AOps.nil ?_
            refine SAny.step [4] (by kernel_rfl) (by decide) ?_
            intro iq hq; simp only [List.mem_cons, List.mem_nil_iff, or_false] at hq
            rcases hq with rfl
            · refine ⟨_, rfl, ?_⟩
              refine AOps.read trivial rfl (by decide) (Reader.loadE rfl Tryd.underlying9 sizeOf_9 rfl (v := .str ((splitC 32 t).getD 1 [])) rfl rfl) ?_
              refine AOps.nil ?_
              refine SAny.take 5 rfl (by kernel_rfl) (by kernel_rfl) (by kernel_rfl) trivial rfl (by decide) (PReader.strs rfl rfl rfl (r := (kwOf (i : Int)) == ((splitC 32 t).getD 1 [])) rfl) ?_
              exact SAny.done (by kernel_rfl) rfl
          · refine ⟨_, rfl, ?_⟩
            refine AOps.read trivial rfl (by decide) (Reader.loadE rfl Tryd.underlying9 sizeOf_9 rfl (v := .str ((splitC 32 t).getD 1 [])) rfl rfl) ?_
            refine AOps.nil ?_
            refine SAny.step [1] (by kernel_rfl) (by decide) ?_
            intro iq hq; simp only [List.mem_cons, List.mem_nil_iff, or_false] at hq
            rcases hq with rfl
            · refine ⟨_, rfl, ?_⟩
              refine AOps.call (args := [.lit (.int .i64 (i : Int))]) trivial rfl (by decide) rfl rfl Tryd.call50 (args_ok rfl) rfl (by intro j x v hx hv; match j, hx, hv with | 0, hx, hv => cases hx; cases hv; exact .inl ⟨rfl, rfl⟩ | _ + 1, hx, hv => cases hx) (rkw_any (i : Int) M) ?_
              rintro _ _ ⟨rfl, rfl⟩
              refine AOps.nil ?_
              refine SAny.take 5 rfl (by kernel_rfl) (by kernel_rfl) (by kernel_rfl) trivial rfl (by decide) (PReader.strs rfl rfl rfl (r := (kwOf (i : Int)) == ((splitC 32 t).getD 1 [])) rfl) ?_
              exact SAny.done (by kernel_rfl) rfl
        refine AWp.cond (b := (kwOf (i : Int)) == ((splitC 32 t).getD 1 [])) rfl (fun h4 => ?_) (fun h4 => ?_)
        · skip
          have h4' : (kwOf (i : Int)) = ((splitC 32 t).getD 1 []) := (eq_of_beq h4)
          clear h4
          refine AWp.region ?_
          refine AOps.read trivial rfl (by decide) (Reader.move (.inl rfl) (ok_const rfl) (v := .lit (.int .i64 (i : Int))) rfl) ?_
          refine AOps.read trivial rfl (by decide) (Reader.fieldL rfl ⟨_, _, Tryd.underlying34, rfl, rfl, rfl, sizeOf_3⟩ (by decide) rfl) ?_
          refine AOps.storeL trivial rfl rfl rfl rfl sizeOf_3 (.inl ⟨rfl, rfl⟩) rfl (v := .lit (.int .i64 (i : Int))) rfl (all_flat rfl) rfl (Nat.le_of_ble_eq_true rfl) ?_
          refine AOps.nil ?_
          refine AWp.region ?_
          refine AOps.read trivial rfl (by decide) (Reader.move (.inl rfl) (ok_const rfl) (v := .lit (.int .i64 (i : Int))) rfl) ?_
          refine AOps.read trivial rfl (by decide) (Reader.sum rfl rfl rfl (m := (i : Int) + 1) (c := ((i + 1 : Nat) : Int)) rfl (by first | exact IntWalk.i64_in _ (by omega) | exact IntWalk.i64_in _ (by constructor <;> omega) | (simp only [];omega))) ?_
          refine AOps.read trivial rfl (by decide) (Reader.move (.inr rfl) (ok_const rfl) (v := .lit (.int .i64 ((i + 1 : Nat) : Int))) rfl) ?_
          refine AOps.nil ?_
          first | exact ⟨_, by omega, i + 1, _, rfl, rfl, by omega, by omega, by omega, kc_hit (by omega) (by assumption)⟩ | exact ⟨_, by omega, i + 1, c, rfl, rfl, by omega, by omega, by omega, kc_miss hkk (by assumption)⟩
        · skip
          have h4' : ¬ ((kwOf (i : Int)) = ((splitC 32 t).getD 1 [])) := (beq_eq_false_iff_ne.1 h4)
          clear h4
          refine AWp.skip ?_
          refine AWp.region ?_
          refine AOps.read trivial rfl (by decide) (Reader.move (.inl rfl) (ok_const rfl) (v := .lit (.int .i64 (i : Int))) rfl) ?_
          refine AOps.read trivial rfl (by decide) (Reader.sum rfl rfl rfl (m := (i : Int) + 1) (c := ((i + 1 : Nat) : Int)) rfl (by first | exact IntWalk.i64_in _ (by omega) | exact IntWalk.i64_in _ (by constructor <;> omega) | (simp only [];omega))) ?_
          refine AOps.read trivial rfl (by decide) (Reader.move (.inr rfl) (ok_const rfl) (v := .lit (.int .i64 ((i + 1 : Nat) : Int))) rfl) ?_
          refine AOps.nil ?_
          first | exact ⟨_, by omega, i + 1, _, rfl, rfl, by omega, by omega, by omega, kc_hit (by omega) (by assumption)⟩ | exact ⟨_, by omega, i + 1, c, rfl, rfl, by omega, by omega, by omega, kc_miss hkk (by assumption)⟩
      · skip
        have h3' : ¬ (i ≤ 16) := (by have hh := of_decide_eq_false h3; omega)
        clear h3
        refine AWp.exit ?_
        have hkc : kindR ((splitC 32 t).getD 1 []) = c := (kindR_of (by have e : i = 17 := (by omega); subst e; exact hkk)).symm
        refine AWp.seq (AWp.region ?_)
        refine AOps.read trivial rfl (by decide) (Reader.move (.inl rfl) (ok_const rfl) (v := .list false 9 ((splitC 32 t).map AV.str)) rfl) ?_
        refine AOps.read trivial rfl (by decide) (Reader.elemAddr (m := 0) rfl Tryd.underlying23 sizeOf_9 rfl rfl rfl (e := .str ((splitC 32 t).getD 0 [])) (strs_at (by first | omega | (show _ < 0; omega)))) ?_
        refine AOps.read trivial rfl (by decide) (Reader.loadE rfl Tryd.underlying9 sizeOf_9 rfl (v := .str ((splitC 32 t).getD 0 [])) rfl rfl) ?_
        refine AOps.call (args := [.str ((splitC 32 t).getD 0 [])]) trivial rfl (by decide) rfl rfl Tryd.call58 (args_ok rfl) rfl (by intro j x v hx hv; match j, hx, hv with | 0, hx, hv => cases hx; cases hv; exact .inl ⟨rfl, rfl⟩ | _ + 1, hx, hv => cases hx) (rnumS_any ((splitC 32 t).getD 0 []) (by first | assumption | exact getD_le (by assumption) _) M) ?_
        rintro _ _ ⟨rfl, rfl⟩
        refine AOps.read trivial rfl (by decide) (Reader.move (.inr rfl) (ok_const rfl) (v := .lit (.int .i64 (numS ((splitC 32 t).getD 0 [])))) rfl) ?_
        refine AOps.nil ?_
        refine AWp.seq (AWp.region ?_)
        refine AOps.read trivial rfl (by decide) (Reader.move (.inl rfl) (ok_const rfl) (v := .list false 9 ((splitC 32 t).map AV.str)) rfl) ?_
        refine AOps.read trivial rfl (by decide) (Reader.piece (xs := ((splitC 32 t).map AV.str)) (i := 2) (j := (splitC 32 t).length) rfl Tryd.underlying23 sizeOf_9 rfl ⟨_, _, rfl, rfl⟩ (by rw [List.length_map]; rfl) (by omega) (by rw [List.length_map]; omega) (ys := (((splitC 32 t).drop 2).map AV.str)) (by rw [List.take_of_length_le (by simp), List.map_drop])) ?_
        refine AOps.read trivial rfl (by decide) (Reader.move (.inr rfl) (ok_const rfl) (v := .list false 9 (((splitC 32 t).drop 2).map AV.str)) rfl) ?_
        refine AOps.nil ?_
        refine AWp.mid [0, 3, 5, 6, 7, 25, 8, 54, 9] [3, 6] (fun s => ∃ (id : List UInt8) (r1 : List (List UInt8)), s = ⟨[(0, .str t), (3, .lptr 3 0), (5, .list true 9 ((splitC 32 t).map AV.str)), (6, .lptr 6 0), (7, .lit (.int .i64 (i : Int))), (25, .lit (.bool (decide ((i : Int) ≤ 16)))), (8, .lit (.int .i64 (numS ((splitC 32 t).getD 0 [])))), (54, .lit (.bool (bif ((c : Int) != 6) then (bif ((c : Int) != 7) then ((c : Int) != 16) else false) else false))), (9, .list false 9 (r1.map AV.str))], [(3, [.lit (.int .i64 0), .str [], .lit (.int .i64 0), .lit (.int .i64 0)]), (6, [.lit (.int .i64 (c : Int)), .str id, .lit (.int .i64 0), .lit (.int .i64 0)])], M⟩ ∧ (R1 c (splitC 32 t) id r1) ∧ (id.length ≤ 4294967280) ∧ (r1.length ≤ 5) ∧ (∀ x ∈ r1, x.length ≤ 4294967280)) ?_ ?_
        · skip
          refine AWp.regionJ [54, 0, 3, 5, 6, 7, 25, 8, 9] [3, 6] (fun z => ⟨(54, .lit (.bool z)) :: [(0, .str t), (3, .lptr 3 0), (5, .list true 9 ((splitC 32 t).map AV.str)), (6, .lptr 6 0), (7, .lit (.int .i64 (i : Int))), (25, .lit (.bool (decide ((i : Int) ≤ 16)))), (8, .lit (.int .i64 (numS ((splitC 32 t).getD 0 [])))), (9, .list false 9 (((splitC 32 t).drop 2).map AV.str))], [(3, [.lit (.int .i64 0), .str [], .lit (.int .i64 0), .lit (.int .i64 0)]), (6, [.lit (.int .i64 (c : Int)), .str [], .lit (.int .i64 0), .lit (.int .i64 0)])], M⟩) (z := bif ((c : Int) != 6) then (bif ((c : Int) != 7) then ((c : Int) != 16) else false) else false) ?_ ?_
          · skip
            refine AOps.read trivial rfl (by decide) (Reader.fieldL rfl ⟨_, _, Tryd.underlying34, rfl, rfl, rfl, sizeOf_3⟩ (by decide) rfl) ?_
            refine AOps.read trivial rfl (by decide) (Reader.loadL rfl Tryd.underlying3 sizeOf_3 rfl rfl (v := .lit (.int .i64 (c : Int))) rfl rfl) ?_
            refine AOps.read trivial rfl (by decide) (Reader.int rfl rfl rfl (r := .bool ((c : Int) != 6)) rfl) ?_
            refine AOps.read trivial rfl (by decide) (Reader.move (.inl rfl) (ok_const rfl) (v := .lit (.bool ((c : Int) != 6))) rfl) ?_
            refine AOps.splitJ (t := 45) (b := (c : Int) != 6) (x := (bif ((c : Int) != 7) then ((c : Int) != 16) else false)) (y := false) rfl (fun h5 => ?_) (fun h5 => ?_)
            · skip
              have h5' : c ≠ 6 := (by have hh := bne_iff_ne.1 h5; omega)
              clear h5
              refine AOps.read ⟨45, rfl, rfl⟩ rfl (by decide) (Reader.fieldL rfl ⟨_, _, Tryd.underlying34, rfl, rfl, rfl, sizeOf_3⟩ (by decide) rfl) ?_
              refine AOps.read ⟨45, rfl, rfl⟩ rfl (by decide) (Reader.loadL rfl Tryd.underlying3 sizeOf_3 rfl rfl (v := .lit (.int .i64 (c : Int))) rfl rfl) ?_
              refine AOps.read ⟨45, rfl, rfl⟩ rfl (by decide) (Reader.int rfl rfl rfl (r := .bool ((c : Int) != 7)) rfl) ?_
              refine AOps.read trivial rfl (by decide) (Reader.pick rfl (b := true) rfl (ok_const rfl) (ok_const rfl) (v := .lit (.bool ((c : Int) != 7))) rfl) ?_
              refine AOps.read trivial rfl (by decide) (Reader.move (.inl rfl) (ok_const rfl) (v := .lit (.bool ((c : Int) != 7))) rfl) ?_
              refine AOps.splitJ (t := 50) (b := (c : Int) != 7) (x := ((c : Int) != 16)) (y := false) rfl (fun h6 => ?_) (fun h6 => ?_)
              · skip
                have h6' : c ≠ 7 := (by have hh := bne_iff_ne.1 h6; omega)
                clear h6
                refine AOps.read ⟨50, rfl, rfl⟩ rfl (by decide) (Reader.fieldL rfl ⟨_, _, Tryd.underlying34, rfl, rfl, rfl, sizeOf_3⟩ (by decide) rfl) ?_
                refine AOps.read ⟨50, rfl, rfl⟩ rfl (by decide) (Reader.loadL rfl Tryd.underlying3 sizeOf_3 rfl rfl (v := .lit (.int .i64 (c : Int))) rfl rfl) ?_
                refine AOps.read ⟨50, rfl, rfl⟩ rfl (by decide) (Reader.int rfl rfl rfl (r := .bool ((c : Int) != 16)) rfl) ?_
                refine AOps.read trivial rfl (by decide) (Reader.pick rfl (b := true) rfl (ok_const rfl) (ok_const rfl) (v := .lit (.bool ((c : Int) != 16))) rfl) ?_
                exact AOps.nil rfl
              · skip
                have h6' : ¬ (c ≠ 7) := (by have hh := bne_eq_false_iff_eq.1 h6; omega)
                clear h6
                refine AOps.skip ⟨8, true, 50, _, rfl, rfl, rfl, by simp⟩ rfl (by decide) ?_
                refine AOps.skip ⟨8, true, 50, _, rfl, rfl, rfl, by simp⟩ rfl (by decide) ?_
                refine AOps.skip ⟨8, true, 50, _, rfl, rfl, rfl, by simp⟩ rfl (by decide) ?_
                refine AOps.read trivial rfl (by decide) (Reader.pick rfl (b := false) rfl (ok_const rfl) (ok_const rfl) (v := .lit (.bool false)) rfl) ?_
                exact AOps.nil rfl
            · skip
              have h5' : ¬ (c ≠ 6) := (by have hh := bne_eq_false_iff_eq.1 h5; omega)
              clear h5
              refine AOps.skip ⟨3, true, 45, _, rfl, rfl, rfl, by simp⟩ rfl (by decide) ?_
              refine AOps.skip ⟨3, true, 45, _, rfl, rfl, rfl, by simp⟩ rfl (by decide) ?_
              refine AOps.skip ⟨3, true, 45, _, rfl, rfl, rfl, by simp⟩ rfl (by decide) ?_
              refine AOps.read trivial rfl (by decide) (Reader.pick rfl (b := false) rfl (ok_const rfl) (ok_const rfl) (v := .lit (.bool false)) rfl) ?_
              refine AOps.read trivial rfl (by decide) (Reader.move (.inl rfl) (ok_const rfl) (v := .lit (.bool false)) rfl) ?_
              refine AOps.skip ⟨8, true, 50, _, rfl, rfl, rfl, by simp⟩ rfl (by decide) ?_
              refine AOps.skip ⟨8, true, 50, _, rfl, rfl, rfl, by simp⟩ rfl (by decide) ?_
              refine AOps.skip ⟨8, true, 50, _, rfl, rfl, rfl, by simp⟩ rfl (by decide) ?_
              refine AOps.read trivial rfl (by decide) (Reader.pick rfl (b := false) rfl (ok_const rfl) (ok_const rfl) (v := .lit (.bool false)) rfl) ?_
              exact AOps.nil rfl
          refine AWp.cond (b := bif ((c : Int) != 6) then (bif ((c : Int) != 7) then ((c : Int) != 16) else false) else false) rfl (fun h7 => ?_) (fun h7 => ?_)
          · skip
            have h7' : Named (c : Int) := (of_decide_eq_true (named_b.symm.trans h7))
            clear h7
            refine AWp.seq (AWp.region ?_)
            refine AOps.read trivial rfl (by decide) (Reader.move (.inl rfl) (ok_const rfl) (v := .list false 9 ((splitC 32 t).map AV.str)) rfl) ?_
            refine AOps.read trivial rfl (by decide) (Reader.elemAddr (m := 2) rfl Tryd.underlying23 sizeOf_9 rfl rfl rfl (e := .str ((splitC 32 t).getD 2 [])) (strs_at (by first | omega | (show _ < 0; omega)))) ?_
            refine AOps.read trivial rfl (by decide) (Reader.loadE rfl Tryd.underlying9 sizeOf_9 rfl (v := .str ((splitC 32 t).getD 2 [])) rfl rfl) ?_
            refine AOps.read trivial rfl (by decide) (Reader.fieldL rfl ⟨_, _, Tryd.underlying34, rfl, rfl, rfl, sizeOf_9⟩ (by decide) rfl) ?_
            refine AOps.storeL trivial rfl rfl rfl rfl sizeOf_9 (.inl ⟨rfl, rfl⟩) rfl (v := .str ((splitC 32 t).getD 2 [])) rfl (all_flat rfl) rfl (Nat.le_of_ble_eq_true rfl) ?_
            refine AOps.nil ?_
            refine AWp.region ?_
            refine AOps.read trivial rfl (by decide) (Reader.move (.inl rfl) (ok_const rfl) (v := .list false 9 ((splitC 32 t).map AV.str)) rfl) ?_
            refine AOps.read trivial rfl (by decide) (Reader.piece (xs := ((splitC 32 t).map AV.str)) (i := 3) (j := (splitC 32 t).length) rfl Tryd.underlying23 sizeOf_9 rfl ⟨_, _, rfl, rfl⟩ (by rw [List.length_map]; rfl) (by omega) (by rw [List.length_map]; omega) (ys := (((splitC 32 t).drop 3).map AV.str)) (by rw [List.take_of_length_le (by simp), List.map_drop])) ?_
            refine AOps.read trivial rfl (by decide) (Reader.move (.inr rfl) (ok_const rfl) (v := .list false 9 (((splitC 32 t).drop 3).map AV.str)) rfl) ?_
            refine AOps.nil ?_
            exact ⟨_, _, rfl, .inl ⟨by assumption, rfl, rfl⟩, by first | exact hg2 | exact Nat.zero_le _, by first | assumption | (exact drop_le (by assumption) _) | omega | (rw [List.length_drop]; omega) | (rw [List.length_drop, List.length_drop]; omega), drop_le (split_all hl) _⟩
          · skip
            have h7' : ¬ Named (c : Int) := (of_decide_eq_false (named_b.symm.trans h7))
            clear h7
            refine AWp.skip ?_
            exact ⟨_, _, rfl, .inr ⟨by assumption, rfl, rfl⟩, by first | exact hg2 | exact Nat.zero_le _, by first | assumption | (exact drop_le (by assumption) _) | omega | (rw [List.length_drop]; omega) | (rw [List.length_drop, List.length_drop]; omega), drop_le (split_all hl) _⟩
        rintro _ ⟨id, r1, rfl, h54, hidl, hr1, hr1b⟩
        refine AWp.mid [0, 3, 5, 6, 7, 25, 8, 54, 63, 9] [3, 6] (fun s => ∃ (n1 : Int) (r2 : List (List UInt8)), s = ⟨[(0, .str t), (3, .lptr 3 0), (5, .list true 9 ((splitC 32 t).map AV.str)), (6, .lptr 6 0), (7, .lit (.int .i64 (i : Int))), (25, .lit (.bool (decide ((i : Int) ≤ 16)))), (8, .lit (.int .i64 (numS ((splitC 32 t).getD 0 [])))), (54, .lit (.bool (bif ((c : Int) != 6) then (bif ((c : Int) != 7) then ((c : Int) != 16) else false) else false))), (63, .lit (.bool ((c : Int) == 3))), (9, .list false 9 (r2.map AV.str))], [(3, [.lit (.int .i64 0), .str [], .lit (.int .i64 0), .lit (.int .i64 0)]), (6, [.lit (.int .i64 (c : Int)), .str id, .lit (.int .i64 0), .lit (.int .i64 n1)])], M⟩ ∧ (R2 c r1 n1 r2) ∧ (r2.length ≤ 5) ∧ (∀ x ∈ r2, x.length ≤ 4294967280) ∧ (0 ≤ n1 ∧ n1 ≤ 4)) ?_ ?_
        · skip
          refine AWp.seq (AWp.region ?_)
          refine AOps.read trivial rfl (by decide) (Reader.fieldL rfl ⟨_, _, Tryd.underlying34, rfl, rfl, rfl, sizeOf_3⟩ (by decide) rfl) ?_
          refine AOps.read trivial rfl (by decide) (Reader.loadL rfl Tryd.underlying3 sizeOf_3 rfl rfl (v := .lit (.int .i64 (c : Int))) rfl rfl) ?_
          refine AOps.read trivial rfl (by decide) (Reader.int rfl rfl rfl (r := .bool ((c : Int) == 3)) rfl) ?_
          refine AOps.nil ?_
          refine AWp.cond (b := (c : Int) == 3) rfl (fun h8 => ?_) (fun h8 => ?_)
          · skip
            have h8' : c = 3 := (by have hh := eq_of_beq h8; omega)
            clear h8
            refine AWp.seq ?_
            refine AWp.seq (AWp.region ?_)
            refine AOps.read trivial rfl (by decide) (Reader.move (.inl rfl) (ok_const rfl) (v := .list false 9 (r1.map AV.str)) rfl) ?_
            refine AOps.read trivial rfl (by decide) (Reader.len' (xs := r1.map AV.str) rfl rfl rfl rfl Tryd.underlying23 rfl (m := r1.length) (by simp)) ?_
            refine AOps.read trivial rfl (by decide) (Reader.int rfl rfl rfl (r := .bool ((r1.length : Int) == 0)) rfl) ?_
            refine AOps.nil ?_
            refine AWp.cond (b := (r1.length : Int) == 0) rfl (fun h9 => ?_) (fun h9 => ?_)
            · skip
              have h9' : r1.length = 0 := (by have hh := eq_of_beq h9; omega)
              clear h9
              refine AWp.seq (AWp.region ?_)
              refine AOps.read trivial rfl (by decide) (Reader.build (xs := []) (Es := []) (places := places_34) rfl Tryd.underlying34 (by refine ⟨rfl, fun j p x hp hx => ?_⟩; match j, hp, hx with | _ + 0, hp, hx => cases hp) zero_34 rfl places_34_ok (cs := [.lit (.int .i64 0), .str [], .lit (.int .i64 0), .lit (.int .i64 0)]) rfl) ?_
              refine AOps.read trivial rfl (by decide) (Reader.move (.inr rfl) (ok_const rfl) (v := .lit (.int .i64 0)) rfl) ?_
              refine AOps.storeL trivial rfl rfl rfl rfl sizeOf_34 (.inl ⟨rfl, rfl⟩) rfl (v := .agg [.lit (.int .i64 0), .str [], .lit (.int .i64 0), .lit (.int .i64 0)]) rfl (all_flat rfl) rfl (Nat.le_of_ble_eq_true rfl) ?_
              refine AOps.read trivial rfl (by decide) (Reader.move (.inr rfl) (ok_const rfl) (v := .lit (.bool false)) rfl) ?_
              refine AOps.nil ?_
              refine AWp.ret ?_
              exact ⟨.inl rfl, _, ResOf.tmpCellTmp 2 (.lit (.int .i64 0)) rfl (.inl rfl) 3 3 0 4 34 _ _ (.agg [.lit (.int .i64 0), .str [], .lit (.int .i64 0), .lit (.int .i64 0)]) rfl rfl Tryd.underlying34 sizeOf_34 rfl (Eq.refl true) 4 (.lit (.bool false)) rfl rfl (by decide), ⟨rr_no (by first | assumption | exact okl_len (by assumption) | exact rr_B hkc h54 (by omega) (by omega) | exact rr_C hkc h54 h63 (by assumption) (by omega) | exact rr_D hkc h54 h63 (by assumption) (by omega) | exact rr_E hc16 hkc h54 h63 h97 hx (by assumption)), rfl⟩⟩
            · skip
              have h9' : ¬ (r1.length = 0) := (by have hh := beq_eq_false_iff_ne.1 h9; omega)
              clear h9
              refine AWp.skip ?_
              refine AWp.seq ?_
              refine AWp.seq (AWp.region ?_)
              refine AOps.read trivial rfl (by decide) (Reader.move (.inl rfl) (ok_const rfl) (v := .list false 9 (r1.map AV.str)) rfl) ?_
              refine AOps.read trivial rfl (by decide) (Reader.elemAddr (m := 0) rfl Tryd.underlying23 sizeOf_9 rfl rfl rfl (e := .str (r1.getD 0 [])) (strs_at (by first | omega | (show _ < 0; omega)))) ?_
              refine AOps.read trivial rfl (by decide) (Reader.loadE rfl Tryd.underlying9 sizeOf_9 rfl (v := .str (r1.getD 0 [])) rfl rfl) ?_
              refine AOps.read trivial rfl (by decide) (Reader.strs rfl rfl rfl (r := (r1.getD 0 []) == [114, 111, 111, 109]) rfl) ?_
              refine AOps.nil ?_
              refine AWp.cond (b := (r1.getD 0 []) == [114, 111, 111, 109]) rfl (fun h10 => ?_) (fun h10 => ?_)
              · skip
                have h10' : (r1.getD 0 []) = [114, 111, 111, 109] := (eq_of_beq h10)
                clear h10
                refine AWp.region ?_
                refine AOps.read trivial rfl (by decide) (Reader.fieldL rfl ⟨_, _, Tryd.underlying34, rfl, rfl, rfl, sizeOf_3⟩ (by decide) rfl) ?_
                refine AOps.storeL trivial rfl rfl rfl rfl sizeOf_3 (.inl ⟨rfl, rfl⟩) rfl (v := .lit (.int .i64 4)) rfl (all_flat rfl) rfl (Nat.le_of_ble_eq_true rfl) ?_
                refine AOps.nil ?_
                refine AWp.seq ?_
                refine AWp.seq (AWp.region ?_)
                refine AOps.read trivial rfl (by decide) (Reader.move (.inl rfl) (ok_const rfl) (v := .list false 9 (r1.map AV.str)) rfl) ?_
                refine AOps.read trivial rfl (by decide) (Reader.elemAddr (m := 0) rfl Tryd.underlying23 sizeOf_9 rfl rfl rfl (e := .str (r1.getD 0 [])) (strs_at (by first | omega | (show _ < 0; omega)))) ?_
                refine AOps.read trivial rfl (by decide) (Reader.loadE rfl Tryd.underlying9 sizeOf_9 rfl (v := .str (r1.getD 0 [])) rfl rfl) ?_
                refine AOps.read trivial rfl (by decide) (Reader.strs rfl rfl rfl (r := (r1.getD 0 []) == [112, 114, 101, 115, 115, 117, 114, 101]) rfl) ?_
                refine AOps.nil ?_
                refine AWp.cond (b := (r1.getD 0 []) == [112, 114, 101, 115, 115, 117, 114, 101]) rfl (fun h11 => ?_) (fun h11 => ?_)
                · skip
                  have h11' : (r1.getD 0 []) = [112, 114, 101, 115, 115, 117, 114, 101] := (eq_of_beq h11)
                  clear h11
                  refine AWp.region ?_
                  refine AOps.read trivial rfl (by decide) (Reader.fieldL rfl ⟨_, _, Tryd.underlying34, rfl, rfl, rfl, sizeOf_3⟩ (by decide) rfl) ?_
                  refine AOps.storeL trivial rfl rfl rfl rfl sizeOf_3 (.inl ⟨rfl, rfl⟩) rfl (v := .lit (.int .i64 3)) rfl (all_flat rfl) rfl (Nat.le_of_ble_eq_true rfl) ?_
                  refine AOps.nil ?_
                  refine AWp.region ?_
                  refine AOps.read trivial rfl (by decide) (Reader.move (.inl rfl) (ok_const rfl) (v := .list false 9 (r1.map AV.str)) rfl) ?_
                  refine AOps.read trivial rfl (by decide) (Reader.piece (xs := (r1.map AV.str)) (i := 1) (j := r1.length) rfl Tryd.underlying23 sizeOf_9 rfl ⟨_, _, rfl, rfl⟩ (by rw [List.length_map]; rfl) (by omega) (by rw [List.length_map]; omega) (ys := ((r1.drop 1).map AV.str)) (by rw [List.take_of_length_le (by simp), List.map_drop])) ?_
                  refine AOps.read trivial rfl (by decide) (Reader.move (.inr rfl) (ok_const rfl) (v := .list false 9 ((r1.drop 1).map AV.str)) rfl) ?_
                  refine AOps.nil ?_
                  exact ⟨_, _, rfl, .inl ⟨by omega, by omega, by first | (rw [if_pos (by assumption)]; done) | (rw [if_neg (by assumption), if_pos (by assumption)]; done) | (rw [if_neg (by assumption), if_neg (by assumption)]; done), rfl⟩, by first | assumption | (exact drop_le (by assumption) _) | omega | (rw [List.length_drop]; omega) | (rw [List.length_drop, List.length_drop]; omega), drop_le hr1b _, by decide⟩
                · skip
                  have h11' : ¬ ((r1.getD 0 []) = [112, 114, 101, 115, 115, 117, 114, 101]) := (beq_eq_false_iff_ne.1 h11)
                  clear h11
                  refine AWp.skip ?_
                  refine AWp.region ?_
                  refine AOps.read trivial rfl (by decide) (Reader.move (.inl rfl) (ok_const rfl) (v := .list false 9 (r1.map AV.str)) rfl) ?_
                  refine AOps.read trivial rfl (by decide) (Reader.piece (xs := (r1.map AV.str)) (i := 1) (j := r1.length) rfl Tryd.underlying23 sizeOf_9 rfl ⟨_, _, rfl, rfl⟩ (by rw [List.length_map]; rfl) (by omega) (by rw [List.length_map]; omega) (ys := ((r1.drop 1).map AV.str)) (by rw [List.take_of_length_le (by simp), List.map_drop])) ?_
                  refine AOps.read trivial rfl (by decide) (Reader.move (.inr rfl) (ok_const rfl) (v := .list false 9 ((r1.drop 1).map AV.str)) rfl) ?_
                  refine AOps.nil ?_
                  exact ⟨_, _, rfl, .inl ⟨by omega, by omega, by first | (rw [if_pos (by assumption)]; done) | (rw [if_neg (by assumption), if_pos (by assumption)]; done) | (rw [if_neg (by assumption), if_neg (by assumption)]; done), rfl⟩, by first | assumption | (exact drop_le (by assumption) _) | omega | (rw [List.length_drop]; omega) | (rw [List.length_drop, List.length_drop]; omega), drop_le hr1b _, by decide⟩
              · skip
                have h10' : ¬ ((r1.getD 0 []) = [114, 111, 111, 109]) := (beq_eq_false_iff_ne.1 h10)
                clear h10
                refine AWp.skip ?_
                refine AWp.seq ?_
                refine AWp.seq (AWp.region ?_)
                refine AOps.read trivial rfl (by decide) (Reader.move (.inl rfl) (ok_const rfl) (v := .list false 9 (r1.map AV.str)) rfl) ?_
                refine AOps.read trivial rfl (by decide) (Reader.elemAddr (m := 0) rfl Tryd.underlying23 sizeOf_9 rfl rfl rfl (e := .str (r1.getD 0 [])) (strs_at (by first | omega | (show _ < 0; omega)))) ?_
                refine AOps.read trivial rfl (by decide) (Reader.loadE rfl Tryd.underlying9 sizeOf_9 rfl (v := .str (r1.getD 0 [])) rfl rfl) ?_
                refine AOps.read trivial rfl (by decide) (Reader.strs rfl rfl rfl (r := (r1.getD 0 []) == [112, 114, 101, 115, 115, 117, 114, 101]) rfl) ?_
                refine AOps.nil ?_
                refine AWp.cond (b := (r1.getD 0 []) == [112, 114, 101, 115, 115, 117, 114, 101]) rfl (fun h12 => ?_) (fun h12 => ?_)
                · skip
                  have h12' : (r1.getD 0 []) = [112, 114, 101, 115, 115, 117, 114, 101] := (eq_of_beq h12)
                  clear h12
                  refine AWp.region ?_
                  refine AOps.read trivial rfl (by decide) (Reader.fieldL rfl ⟨_, _, Tryd.underlying34, rfl, rfl, rfl, sizeOf_3⟩ (by decide) rfl) ?_
                  refine AOps.storeL trivial rfl rfl rfl rfl sizeOf_3 (.inl ⟨rfl, rfl⟩) rfl (v := .lit (.int .i64 3)) rfl (all_flat rfl) rfl (Nat.le_of_ble_eq_true rfl) ?_
                  refine AOps.nil ?_
                  refine AWp.region ?_
                  refine AOps.read trivial rfl (by decide) (Reader.move (.inl rfl) (ok_const rfl) (v := .list false 9 (r1.map AV.str)) rfl) ?_
                  refine AOps.read trivial rfl (by decide) (Reader.piece (xs := (r1.map AV.str)) (i := 1) (j := r1.length) rfl Tryd.underlying23 sizeOf_9 rfl ⟨_, _, rfl, rfl⟩ (by rw [List.length_map]; rfl) (by omega) (by rw [List.length_map]; omega) (ys := ((r1.drop 1).map AV.str)) (by rw [List.take_of_length_le (by simp), List.map_drop])) ?_
                  refine AOps.read trivial rfl (by decide) (Reader.move (.inr rfl) (ok_const rfl) (v := .list false 9 ((r1.drop 1).map AV.str)) rfl) ?_
                  refine AOps.nil ?_
                  exact ⟨_, _, rfl, .inl ⟨by omega, by omega, by first | (rw [if_pos (by assumption)]; done) | (rw [if_neg (by assumption), if_pos (by assumption)]; done) | (rw [if_neg (by assumption), if_neg (by assumption)]; done), rfl⟩, by first | assumption | (exact drop_le (by assumption) _) | omega | (rw [List.length_drop]; omega) | (rw [List.length_drop, List.length_drop]; omega), drop_le hr1b _, by decide⟩
                · skip
                  have h12' : ¬ ((r1.getD 0 []) = [112, 114, 101, 115, 115, 117, 114, 101]) := (beq_eq_false_iff_ne.1 h12)
                  clear h12
                  refine AWp.skip ?_
                  refine AWp.region ?_
                  refine AOps.read trivial rfl (by decide) (Reader.move (.inl rfl) (ok_const rfl) (v := .list false 9 (r1.map AV.str)) rfl) ?_
                  refine AOps.read trivial rfl (by decide) (Reader.piece (xs := (r1.map AV.str)) (i := 1) (j := r1.length) rfl Tryd.underlying23 sizeOf_9 rfl ⟨_, _, rfl, rfl⟩ (by rw [List.length_map]; rfl) (by omega) (by rw [List.length_map]; omega) (ys := ((r1.drop 1).map AV.str)) (by rw [List.take_of_length_le (by simp), List.map_drop])) ?_
                  refine AOps.read trivial rfl (by decide) (Reader.move (.inr rfl) (ok_const rfl) (v := .list false 9 ((r1.drop 1).map AV.str)) rfl) ?_
                  refine AOps.nil ?_
                  exact ⟨_, _, rfl, .inl ⟨by omega, by omega, by first | (rw [if_pos (by assumption)]; done) | (rw [if_neg (by assumption), if_pos (by assumption)]; done) | (rw [if_neg (by assumption), if_neg (by assumption)]; done), rfl⟩, by first | assumption | (exact drop_le (by assumption) _) | omega | (rw [List.length_drop]; omega) | (rw [List.length_drop, List.length_drop]; omega), drop_le hr1b _, by decide⟩
          · skip
            have h8' : ¬ (c = 3) := (by have hh := beq_eq_false_iff_ne.1 h8; omega)
            clear h8
            refine AWp.skip ?_
            exact ⟨_, _, rfl, .inr ⟨by omega, rfl, rfl⟩, by first | assumption | (exact drop_le (by assumption) _) | omega | (rw [List.length_drop]; omega) | (rw [List.length_drop, List.length_drop]; omega), hr1b, by decide⟩
        rintro _ ⟨n1, r2, rfl, h63, hr2, hr2b, hn1⟩
        refine AWp.mid [0, 3, 5, 6, 7, 25, 8, 54, 63, 97, 9] [3, 6] (fun s => ∃ (sg : Int) (n2 : Int) (r3 : List (List UInt8)), s = ⟨[(0, .str t), (3, .lptr 3 0), (5, .list true 9 ((splitC 32 t).map AV.str)), (6, .lptr 6 0), (7, .lit (.int .i64 (i : Int))), (25, .lit (.bool (decide ((i : Int) ≤ 16)))), (8, .lit (.int .i64 (numS ((splitC 32 t).getD 0 [])))), (54, .lit (.bool (bif ((c : Int) != 6) then (bif ((c : Int) != 7) then ((c : Int) != 16) else false) else false))), (63, .lit (.bool ((c : Int) == 3))), (97, .lit (.bool (bif ((c : Int) == 3) then (bif (n1 == 3) then true else (bif (decide ((c : Int) ≥ 5)) then (decide ((c : Int) ≤ 7)) else false)) else (bif (decide ((c : Int) ≥ 5)) then (decide ((c : Int) ≤ 7)) else false)))), (9, .list false 9 (r3.map AV.str))], [(3, [.lit (.int .i64 0), .str [], .lit (.int .i64 0), .lit (.int .i64 0)]), (6, [.lit (.int .i64 (c : Int)), .str id, .lit (.int .i64 sg), .lit (.int .i64 n2)])], M⟩ ∧ (R3 c r2 n1 sg n2 r3)) ?_ ?_
        · skip
          refine AWp.regionJ [97, 0, 3, 5, 6, 7, 25, 8, 54, 63, 9] [3, 6] (fun z => ⟨(97, .lit (.bool z)) :: [(0, .str t), (3, .lptr 3 0), (5, .list true 9 ((splitC 32 t).map AV.str)), (6, .lptr 6 0), (7, .lit (.int .i64 (i : Int))), (25, .lit (.bool (decide ((i : Int) ≤ 16)))), (8, .lit (.int .i64 (numS ((splitC 32 t).getD 0 [])))), (54, .lit (.bool (bif ((c : Int) != 6) then (bif ((c : Int) != 7) then ((c : Int) != 16) else false) else false))), (63, .lit (.bool ((c : Int) == 3))), (9, .list false 9 (r2.map AV.str))], [(3, [.lit (.int .i64 0), .str [], .lit (.int .i64 0), .lit (.int .i64 0)]), (6, [.lit (.int .i64 (c : Int)), .str id, .lit (.int .i64 0), .lit (.int .i64 n1)])], M⟩) (z := bif ((c : Int) == 3) then (bif (n1 == 3) then true else (bif (decide ((c : Int) ≥ 5)) then (decide ((c : Int) ≤ 7)) else false)) else (bif (decide ((c : Int) ≥ 5)) then (decide ((c : Int) ≤ 7)) else false)) ?_ ?_
          · skip
            refine AOps.read trivial rfl (by decide) (Reader.fieldL rfl ⟨_, _, Tryd.underlying34, rfl, rfl, rfl, sizeOf_3⟩ (by decide) rfl) ?_
            refine AOps.read trivial rfl (by decide) (Reader.loadL rfl Tryd.underlying3 sizeOf_3 rfl rfl (v := .lit (.int .i64 (c : Int))) rfl rfl) ?_
            refine AOps.read trivial rfl (by decide) (Reader.int rfl rfl rfl (r := .bool ((c : Int) == 3)) rfl) ?_
            refine AOps.read trivial rfl (by decide) (Reader.move (.inl rfl) (ok_const rfl) (v := .lit (.bool ((c : Int) == 3))) rfl) ?_
            refine AOps.splitJ (t := 83) (b := (c : Int) == 3) (x := (bif (n1 == 3) then true else (bif (decide ((c : Int) ≥ 5)) then (decide ((c : Int) ≤ 7)) else false))) (y := (bif (decide ((c : Int) ≥ 5)) then (decide ((c : Int) ≤ 7)) else false)) rfl (fun h13 => ?_) (fun h13 => ?_)
            · skip
              have h13' : c = 3 := (by have hh := eq_of_beq h13; omega)
              clear h13
              refine AOps.read ⟨83, rfl, rfl⟩ rfl (by decide) (Reader.fieldL rfl ⟨_, _, Tryd.underlying34, rfl, rfl, rfl, sizeOf_3⟩ (by decide) rfl) ?_
              refine AOps.read ⟨83, rfl, rfl⟩ rfl (by decide) (Reader.loadL rfl Tryd.underlying3 sizeOf_3 rfl rfl (v := .lit (.int .i64 n1)) rfl rfl) ?_
              refine AOps.read ⟨83, rfl, rfl⟩ rfl (by decide) (Reader.int rfl rfl rfl (r := .bool (n1 == 3)) rfl) ?_
              refine AOps.read trivial rfl (by decide) (Reader.pick rfl (b := true) rfl (ok_const rfl) (ok_const rfl) (v := .lit (.bool (n1 == 3))) rfl) ?_
              refine AOps.read trivial rfl (by decide) (Reader.move (.inl rfl) (ok_const rfl) (v := .lit (.bool (n1 == 3))) rfl) ?_
              refine AOps.splitJ (t := 88) (b := n1 == 3) (x := true) (y := (bif (decide ((c : Int) ≥ 5)) then (decide ((c : Int) ≤ 7)) else false)) rfl (fun h14 => ?_) (fun h14 => ?_)
              · skip
                have h14' : n1 = 3 := (by have hh := eq_of_beq h14; omega)
                clear h14
                refine AOps.skip ⟨8, false, 88, _, rfl, rfl, rfl, by simp⟩ rfl (by decide) ?_
                refine AOps.skip ⟨8, false, 88, _, rfl, rfl, rfl, by simp⟩ rfl (by decide) ?_
                refine AOps.skip ⟨8, false, 88, _, rfl, rfl, rfl, by simp⟩ rfl (by decide) ?_
                refine AOps.skip ⟨8, false, 88, _, rfl, rfl, rfl, by simp⟩ rfl (by decide) ?_
                refine AOps.skip ⟨12, true, 92, _, rfl, rfl, rfl, by simp [undef]⟩ rfl (by decide) ?_
                refine AOps.skip ⟨12, true, 92, _, rfl, rfl, rfl, by simp [undef]⟩ rfl (by decide) ?_
                refine AOps.skip ⟨12, true, 92, _, rfl, rfl, rfl, by simp [undef]⟩ rfl (by decide) ?_
                refine AOps.skip ⟨8, false, 88, _, rfl, rfl, rfl, by simp⟩ rfl (by decide) ?_
                refine AOps.read trivial rfl (by decide) (Reader.pick rfl (b := true) rfl (ok_const rfl) (ok_const rfl) (v := .lit (.bool true)) rfl) ?_
                exact AOps.nil rfl
              · skip
                have h14' : ¬ (n1 = 3) := (by have hh := beq_eq_false_iff_ne.1 h14; omega)
                clear h14
                refine AOps.read ⟨88, rfl, rfl⟩ rfl (by decide) (Reader.fieldL rfl ⟨_, _, Tryd.underlying34, rfl, rfl, rfl, sizeOf_3⟩ (by decide) rfl) ?_
                refine AOps.read ⟨88, rfl, rfl⟩ rfl (by decide) (Reader.loadL rfl Tryd.underlying3 sizeOf_3 rfl rfl (v := .lit (.int .i64 (c : Int))) rfl rfl) ?_
                refine AOps.read ⟨88, rfl, rfl⟩ rfl (by decide) (Reader.int rfl rfl rfl (r := .bool (decide ((c : Int) ≥ 5))) rfl) ?_
                refine AOps.read ⟨88, rfl, rfl⟩ rfl (by decide) (Reader.move (.inl rfl) (ok_const rfl) (v := .lit (.bool (decide ((c : Int) ≥ 5)))) rfl) ?_
                refine AOps.splitJ (t := 92) (b := decide ((c : Int) ≥ 5)) (x := (decide ((c : Int) ≤ 7))) (y := false) rfl (fun h15 => ?_) (fun h15 => ?_)
                · skip
                  have h15' : c ≥ 5 := (by have hh := of_decide_eq_true h15; omega)
                  clear h15
                  refine AOps.read ⟨92, rfl, rfl⟩ rfl (by decide) (Reader.fieldL rfl ⟨_, _, Tryd.underlying34, rfl, rfl, rfl, sizeOf_3⟩ (by decide) rfl) ?_
                  refine AOps.read ⟨92, rfl, rfl⟩ rfl (by decide) (Reader.loadL rfl Tryd.underlying3 sizeOf_3 rfl rfl (v := .lit (.int .i64 (c : Int))) rfl rfl) ?_
                  refine AOps.read ⟨92, rfl, rfl⟩ rfl (by decide) (Reader.int rfl rfl rfl (r := .bool (decide ((c : Int) ≤ 7))) rfl) ?_
                  refine AOps.read ⟨88, rfl, rfl⟩ rfl (by decide) (Reader.pick rfl (b := true) rfl (ok_const rfl) (ok_const rfl) (v := .lit (.bool (decide ((c : Int) ≤ 7)))) rfl) ?_
                  refine AOps.read trivial rfl (by decide) (Reader.pick rfl (b := false) rfl (ok_const rfl) (ok_const rfl) (v := .lit (.bool (decide ((c : Int) ≤ 7)))) rfl) ?_
                  exact AOps.nil rfl
                · skip
                  have h15' : ¬ (c ≥ 5) := (by have hh := of_decide_eq_false h15; omega)
                  clear h15
                  refine AOps.skip ⟨12, true, 92, _, rfl, rfl, rfl, by simp⟩ rfl (by decide) ?_
                  refine AOps.skip ⟨12, true, 92, _, rfl, rfl, rfl, by simp⟩ rfl (by decide) ?_
                  refine AOps.skip ⟨12, true, 92, _, rfl, rfl, rfl, by simp⟩ rfl (by decide) ?_
                  refine AOps.read ⟨88, rfl, rfl⟩ rfl (by decide) (Reader.pick rfl (b := false) rfl (ok_const rfl) (ok_const rfl) (v := .lit (.bool false)) rfl) ?_
                  refine AOps.read trivial rfl (by decide) (Reader.pick rfl (b := false) rfl (ok_const rfl) (ok_const rfl) (v := .lit (.bool false)) rfl) ?_
                  exact AOps.nil rfl
            · skip
              have h13' : ¬ (c = 3) := (by have hh := beq_eq_false_iff_ne.1 h13; omega)
              clear h13
              refine AOps.skip ⟨3, true, 83, _, rfl, rfl, rfl, by simp⟩ rfl (by decide) ?_
              refine AOps.skip ⟨3, true, 83, _, rfl, rfl, rfl, by simp⟩ rfl (by decide) ?_
              refine AOps.skip ⟨3, true, 83, _, rfl, rfl, rfl, by simp⟩ rfl (by decide) ?_
              refine AOps.read trivial rfl (by decide) (Reader.pick rfl (b := false) rfl (ok_const rfl) (ok_const rfl) (v := .lit (.bool false)) rfl) ?_
              refine AOps.read trivial rfl (by decide) (Reader.move (.inl rfl) (ok_const rfl) (v := .lit (.bool false)) rfl) ?_
              refine AOps.read ⟨88, rfl, rfl⟩ rfl (by decide) (Reader.fieldL rfl ⟨_, _, Tryd.underlying34, rfl, rfl, rfl, sizeOf_3⟩ (by decide) rfl) ?_
              refine AOps.read ⟨88, rfl, rfl⟩ rfl (by decide) (Reader.loadL rfl Tryd.underlying3 sizeOf_3 rfl rfl (v := .lit (.int .i64 (c : Int))) rfl rfl) ?_
              refine AOps.read ⟨88, rfl, rfl⟩ rfl (by decide) (Reader.int rfl rfl rfl (r := .bool (decide ((c : Int) ≥ 5))) rfl) ?_
              refine AOps.read ⟨88, rfl, rfl⟩ rfl (by decide) (Reader.move (.inl rfl) (ok_const rfl) (v := .lit (.bool (decide ((c : Int) ≥ 5)))) rfl) ?_
              refine AOps.splitJ (t := 92) (b := decide ((c : Int) ≥ 5)) (x := (decide ((c : Int) ≤ 7))) (y := false) rfl (fun h16 => ?_) (fun h16 => ?_)
              · skip
                have h16' : c ≥ 5 := (by have hh := of_decide_eq_true h16; omega)
                clear h16
                refine AOps.read ⟨92, rfl, rfl⟩ rfl (by decide) (Reader.fieldL rfl ⟨_, _, Tryd.underlying34, rfl, rfl, rfl, sizeOf_3⟩ (by decide) rfl) ?_
                refine AOps.read ⟨92, rfl, rfl⟩ rfl (by decide) (Reader.loadL rfl Tryd.underlying3 sizeOf_3 rfl rfl (v := .lit (.int .i64 (c : Int))) rfl rfl) ?_
                refine AOps.read ⟨92, rfl, rfl⟩ rfl (by decide) (Reader.int rfl rfl rfl (r := .bool (decide ((c : Int) ≤ 7))) rfl) ?_
                refine AOps.read ⟨88, rfl, rfl⟩ rfl (by decide) (Reader.pick rfl (b := true) rfl (ok_const rfl) (ok_const rfl) (v := .lit (.bool (decide ((c : Int) ≤ 7)))) rfl) ?_
                refine AOps.read trivial rfl (by decide) (Reader.pick rfl (b := false) rfl (ok_const rfl) (ok_const rfl) (v := .lit (.bool (decide ((c : Int) ≤ 7)))) rfl) ?_
                exact AOps.nil rfl
              · skip
                have h16' : ¬ (c ≥ 5) := (by have hh := of_decide_eq_false h16; omega)
                clear h16
                refine AOps.skip ⟨12, true, 92, _, rfl, rfl, rfl, by simp⟩ rfl (by decide) ?_
                refine AOps.skip ⟨12, true, 92, _, rfl, rfl, rfl, by simp⟩ rfl (by decide) ?_
                refine AOps.skip ⟨12, true, 92, _, rfl, rfl, rfl, by simp⟩ rfl (by decide) ?_
                refine AOps.read ⟨88, rfl, rfl⟩ rfl (by decide) (Reader.pick rfl (b := false) rfl (ok_const rfl) (ok_const rfl) (v := .lit (.bool false)) rfl) ?_
                refine AOps.read trivial rfl (by decide) (Reader.pick rfl (b := false) rfl (ok_const rfl) (ok_const rfl) (v := .lit (.bool false)) rfl) ?_
                exact AOps.nil rfl
          have hz4 : (bif ((c : Int) == 3) then (bif (n1 == 3) then true else (bif (decide ((c : Int) ≥ 5)) then (decide ((c : Int) ≤ 7)) else false)) else (bif (decide ((c : Int) ≥ 5)) then (decide ((c : Int) ≤ 7)) else false)) = decide ((c = 3 ∧ n1 = 3) ∨ (5 ≤ c ∧ c ≤ 7)) := by rw [Bool.eq_iff_iff, decide_eq_true_iff]; simp only [Bool.cond_eq_ite]; (repeat' split) <;> simp_all <;> omega
          refine AWp.cond (b := bif ((c : Int) == 3) then (bif (n1 == 3) then true else (bif (decide ((c : Int) ≥ 5)) then (decide ((c : Int) ≤ 7)) else false)) else (bif (decide ((c : Int) ≥ 5)) then (decide ((c : Int) ≤ 7)) else false)) rfl (fun h17 => ?_) (fun h17 => ?_)
          · skip
            have h17' : (c = 3 ∧ n1 = 3) ∨ (5 ≤ c ∧ c ≤ 7) := (of_decide_eq_true (hz4.symm.trans h17))
            clear h17
            refine AWp.seq ?_
            refine AWp.seq (AWp.region ?_)
            refine AOps.read trivial rfl (by decide) (Reader.move (.inl rfl) (ok_const rfl) (v := .list false 9 (r2.map AV.str)) rfl) ?_
            refine AOps.read trivial rfl (by decide) (Reader.len' (xs := r2.map AV.str) rfl rfl rfl rfl Tryd.underlying23 rfl (m := r2.length) (by simp)) ?_
            refine AOps.read trivial rfl (by decide) (Reader.int rfl rfl rfl (r := .bool ((r2.length : Int) == 0)) rfl) ?_
            refine AOps.nil ?_
            refine AWp.cond (b := (r2.length : Int) == 0) rfl (fun h18 => ?_) (fun h18 => ?_)
            · skip
              have h18' : r2.length = 0 := (by have hh := eq_of_beq h18; omega)
              clear h18
              refine AWp.seq (AWp.region ?_)
              refine AOps.read trivial rfl (by decide) (Reader.build (xs := []) (Es := []) (places := places_34) rfl Tryd.underlying34 (by refine ⟨rfl, fun j p x hp hx => ?_⟩; match j, hp, hx with | _ + 0, hp, hx => cases hp) zero_34 rfl places_34_ok (cs := [.lit (.int .i64 0), .str [], .lit (.int .i64 0), .lit (.int .i64 0)]) rfl) ?_
              refine AOps.read trivial rfl (by decide) (Reader.move (.inr rfl) (ok_const rfl) (v := .lit (.int .i64 0)) rfl) ?_
              refine AOps.storeL trivial rfl rfl rfl rfl sizeOf_34 (.inl ⟨rfl, rfl⟩) rfl (v := .agg [.lit (.int .i64 0), .str [], .lit (.int .i64 0), .lit (.int .i64 0)]) rfl (all_flat rfl) rfl (Nat.le_of_ble_eq_true rfl) ?_
              refine AOps.read trivial rfl (by decide) (Reader.move (.inr rfl) (ok_const rfl) (v := .lit (.bool false)) rfl) ?_
              refine AOps.nil ?_
              refine AWp.ret ?_
              exact ⟨.inl rfl, _, ResOf.tmpCellTmp 2 (.lit (.int .i64 0)) rfl (.inl rfl) 3 3 0 4 34 _ _ (.agg [.lit (.int .i64 0), .str [], .lit (.int .i64 0), .lit (.int .i64 0)]) rfl rfl Tryd.underlying34 sizeOf_34 rfl (Eq.refl true) 4 (.lit (.bool false)) rfl rfl (by decide), ⟨rr_no (by first | assumption | exact okl_len (by assumption) | exact rr_B hkc h54 (by omega) (by omega) | exact rr_C hkc h54 h63 (by assumption) (by omega) | exact rr_D hkc h54 h63 (by assumption) (by omega) | exact rr_E hc16 hkc h54 h63 h97 hx (by assumption)), rfl⟩⟩
            · skip
              have h18' : ¬ (r2.length = 0) := (by have hh := beq_eq_false_iff_ne.1 h18; omega)
              clear h18
              refine AWp.skip ?_
              refine AWp.seq (AWp.region ?_)
              refine AOps.read trivial rfl (by decide) (Reader.move (.inl rfl) (ok_const rfl) (v := .list false 9 (r2.map AV.str)) rfl) ?_
              refine AOps.read trivial rfl (by decide) (Reader.elemAddr (m := 0) rfl Tryd.underlying23 sizeOf_9 rfl rfl rfl (e := .str (r2.getD 0 [])) (strs_at (by first | omega | (show _ < 0; omega)))) ?_
              refine AOps.read trivial rfl (by decide) (Reader.loadE rfl Tryd.underlying9 sizeOf_9 rfl (v := .str (r2.getD 0 [])) rfl rfl) ?_
              refine AOps.call (args := [.str (r2.getD 0 [])]) trivial rfl (by decide) rfl rfl Tryd.call59 (args_ok rfl) rfl (by intro j x v hx hv; match j, hx, hv with | 0, hx, hv => cases hx; cases hv; exact .inl ⟨rfl, rfl⟩ | _ + 1, hx, hv => cases hx) (rsig_any (r2.getD 0 []) M) ?_
              rintro _ _ ⟨rfl, rfl⟩
              refine AOps.read trivial rfl (by decide) (Reader.fieldL rfl ⟨_, _, Tryd.underlying34, rfl, rfl, rfl, sizeOf_3⟩ (by decide) rfl) ?_
              refine AOps.storeL trivial rfl rfl rfl rfl sizeOf_3 (.inl ⟨rfl, rfl⟩) rfl (v := .lit (.int .i64 (sigOf (r2.getD 0 [])))) rfl (all_flat rfl) rfl (Nat.le_of_ble_eq_true rfl) ?_
              refine AOps.nil ?_
              refine AWp.region ?_
              refine AOps.read trivial rfl (by decide) (Reader.move (.inl rfl) (ok_const rfl) (v := .list false 9 (r2.map AV.str)) rfl) ?_
              refine AOps.read trivial rfl (by decide) (Reader.piece (xs := (r2.map AV.str)) (i := 1) (j := r2.length) rfl Tryd.underlying23 sizeOf_9 rfl ⟨_, _, rfl, rfl⟩ (by rw [List.length_map]; rfl) (by omega) (by rw [List.length_map]; omega) (ys := ((r2.drop 1).map AV.str)) (by rw [List.take_of_length_le (by simp), List.map_drop])) ?_
              refine AOps.read trivial rfl (by decide) (Reader.move (.inr rfl) (ok_const rfl) (v := .list false 9 ((r2.drop 1).map AV.str)) rfl) ?_
              refine AOps.nil ?_
              exact ⟨_, _, _, rfl, .inl ⟨by assumption, by omega, rfl, rfl, rfl⟩⟩
          · skip
            have h17' : ¬ ((c = 3 ∧ n1 = 3) ∨ (5 ≤ c ∧ c ≤ 7)) := (of_decide_eq_false (hz4.symm.trans h17))
            clear h17
            refine AWp.regionJ [121, 97, 0, 3, 5, 6, 7, 25, 8, 54, 63, 9] [3, 6] (fun z => ⟨(121, .lit (.bool z)) :: [(97, .lit (.bool (bif ((c : Int) == 3) then (bif (n1 == 3) then true else (bif (decide ((c : Int) ≥ 5)) then (decide ((c : Int) ≤ 7)) else false)) else (bif (decide ((c : Int) ≥ 5)) then (decide ((c : Int) ≤ 7)) else false)))), (0, .str t), (3, .lptr 3 0), (5, .list true 9 ((splitC 32 t).map AV.str)), (6, .lptr 6 0), (7, .lit (.int .i64 (i : Int))), (25, .lit (.bool (decide ((i : Int) ≤ 16)))), (8, .lit (.int .i64 (numS ((splitC 32 t).getD 0 [])))), (54, .lit (.bool (bif ((c : Int) != 6) then (bif ((c : Int) != 7) then ((c : Int) != 16) else false) else false))), (63, .lit (.bool ((c : Int) == 3))), (9, .list false 9 (r2.map AV.str))], [(3, [.lit (.int .i64 0), .str [], .lit (.int .i64 0), .lit (.int .i64 0)]), (6, [.lit (.int .i64 (c : Int)), .str id, .lit (.int .i64 0), .lit (.int .i64 n1)])], M⟩) (z := bif ((c : Int) == 9) then true else (bif ((c : Int) == 14) then true else ((c : Int) == 16))) ?_ ?_
            · skip
              refine AOps.read trivial rfl (by decide) (Reader.fieldL rfl ⟨_, _, Tryd.underlying34, rfl, rfl, rfl, sizeOf_3⟩ (by decide) rfl) ?_
              refine AOps.read trivial rfl (by decide) (Reader.loadL rfl Tryd.underlying3 sizeOf_3 rfl rfl (v := .lit (.int .i64 (c : Int))) rfl rfl) ?_
              refine AOps.read trivial rfl (by decide) (Reader.int rfl rfl rfl (r := .bool ((c : Int) == 9)) rfl) ?_
              refine AOps.read trivial rfl (by decide) (Reader.move (.inl rfl) (ok_const rfl) (v := .lit (.bool ((c : Int) == 9))) rfl) ?_
              refine AOps.splitJ (t := 112) (b := (c : Int) == 9) (x := true) (y := (bif ((c : Int) == 14) then true else ((c : Int) == 16))) rfl (fun h19 => ?_) (fun h19 => ?_)
              · skip
                have h19' : c = 9 := (by have hh := eq_of_beq h19; omega)
                clear h19
                refine AOps.skip ⟨3, false, 112, _, rfl, rfl, rfl, by simp⟩ rfl (by decide) ?_
                refine AOps.skip ⟨3, false, 112, _, rfl, rfl, rfl, by simp⟩ rfl (by decide) ?_
                refine AOps.skip ⟨3, false, 112, _, rfl, rfl, rfl, by simp⟩ rfl (by decide) ?_
                refine AOps.read trivial rfl (by decide) (Reader.pick rfl (b := true) rfl (ok_const rfl) (ok_const rfl) (v := .lit (.bool true)) rfl) ?_
                refine AOps.read trivial rfl (by decide) (Reader.move (.inl rfl) (ok_const rfl) (v := .lit (.bool true)) rfl) ?_
                refine AOps.skip ⟨8, false, 117, _, rfl, rfl, rfl, by simp⟩ rfl (by decide) ?_
                refine AOps.skip ⟨8, false, 117, _, rfl, rfl, rfl, by simp⟩ rfl (by decide) ?_
                refine AOps.skip ⟨8, false, 117, _, rfl, rfl, rfl, by simp⟩ rfl (by decide) ?_
                refine AOps.read trivial rfl (by decide) (Reader.pick rfl (b := true) rfl (ok_const rfl) (ok_const rfl) (v := .lit (.bool true)) rfl) ?_
                exact AOps.nil rfl
              · skip
                have h19' : ¬ (c = 9) := (by have hh := beq_eq_false_iff_ne.1 h19; omega)
                clear h19
                refine AOps.read ⟨112, rfl, rfl⟩ rfl (by decide) (Reader.fieldL rfl ⟨_, _, Tryd.underlying34, rfl, rfl, rfl, sizeOf_3⟩ (by decide) rfl) ?_
                refine AOps.read ⟨112, rfl, rfl⟩ rfl (by decide) (Reader.loadL rfl Tryd.underlying3 sizeOf_3 rfl rfl (v := .lit (.int .i64 (c : Int))) rfl rfl) ?_
                refine AOps.read ⟨112, rfl, rfl⟩ rfl (by decide) (Reader.int rfl rfl rfl (r := .bool ((c : Int) == 14)) rfl) ?_
                refine AOps.read trivial rfl (by decide) (Reader.pick rfl (b := false) rfl (ok_const rfl) (ok_const rfl) (v := .lit (.bool ((c : Int) == 14))) rfl) ?_
                refine AOps.read trivial rfl (by decide) (Reader.move (.inl rfl) (ok_const rfl) (v := .lit (.bool ((c : Int) == 14))) rfl) ?_
                refine AOps.splitJ (t := 117) (b := (c : Int) == 14) (x := true) (y := ((c : Int) == 16)) rfl (fun h20 => ?_) (fun h20 => ?_)
                · skip
                  have h20' : c = 14 := (by have hh := eq_of_beq h20; omega)
                  clear h20
                  refine AOps.skip ⟨8, false, 117, _, rfl, rfl, rfl, by simp⟩ rfl (by decide) ?_
                  refine AOps.skip ⟨8, false, 117, _, rfl, rfl, rfl, by simp⟩ rfl (by decide) ?_
                  refine AOps.skip ⟨8, false, 117, _, rfl, rfl, rfl, by simp⟩ rfl (by decide) ?_
                  refine AOps.read trivial rfl (by decide) (Reader.pick rfl (b := true) rfl (ok_const rfl) (ok_const rfl) (v := .lit (.bool true)) rfl) ?_
                  exact AOps.nil rfl
                · skip
                  have h20' : ¬ (c = 14) := (by have hh := beq_eq_false_iff_ne.1 h20; omega)
                  clear h20
                  refine AOps.read ⟨117, rfl, rfl⟩ rfl (by decide) (Reader.fieldL rfl ⟨_, _, Tryd.underlying34, rfl, rfl, rfl, sizeOf_3⟩ (by decide) rfl) ?_
                  refine AOps.read ⟨117, rfl, rfl⟩ rfl (by decide) (Reader.loadL rfl Tryd.underlying3 sizeOf_3 rfl rfl (v := .lit (.int .i64 (c : Int))) rfl rfl) ?_
                  refine AOps.read ⟨117, rfl, rfl⟩ rfl (by decide) (Reader.int rfl rfl rfl (r := .bool ((c : Int) == 16)) rfl) ?_
                  refine AOps.read trivial rfl (by decide) (Reader.pick rfl (b := false) rfl (ok_const rfl) (ok_const rfl) (v := .lit (.bool ((c : Int) == 16))) rfl) ?_
                  exact AOps.nil rfl
            have hz5 : (bif ((c : Int) == 9) then true else (bif ((c : Int) == 14) then true else ((c : Int) == 16))) = decide (c = 9 ∨ c = 14 ∨ c = 16) := by rw [Bool.eq_iff_iff, decide_eq_true_iff]; simp only [Bool.cond_eq_ite]; (repeat' split) <;> simp_all <;> omega
            refine AWp.cond (b := bif ((c : Int) == 9) then true else (bif ((c : Int) == 14) then true else ((c : Int) == 16))) rfl (fun h21 => ?_) (fun h21 => ?_)
            · skip
              have h21' : c = 9 ∨ c = 14 ∨ c = 16 := (of_decide_eq_true (hz5.symm.trans h21))
              clear h21
              refine AWp.seq ?_
              refine AWp.seq (AWp.region ?_)
              refine AOps.read trivial rfl (by decide) (Reader.move (.inl rfl) (ok_const rfl) (v := .list false 9 (r2.map AV.str)) rfl) ?_
              refine AOps.read trivial rfl (by decide) (Reader.len' (xs := r2.map AV.str) rfl rfl rfl rfl Tryd.underlying23 rfl (m := r2.length) (by simp)) ?_
              refine AOps.read trivial rfl (by decide) (Reader.int rfl rfl rfl (r := .bool ((r2.length : Int) == 0)) rfl) ?_
              refine AOps.nil ?_
              refine AWp.cond (b := (r2.length : Int) == 0) rfl (fun h22 => ?_) (fun h22 => ?_)
              · skip
                have h22' : r2.length = 0 := (by have hh := eq_of_beq h22; omega)
                clear h22
                refine AWp.seq (AWp.region ?_)
                refine AOps.read trivial rfl (by decide) (Reader.build (xs := []) (Es := []) (places := places_34) rfl Tryd.underlying34 (by refine ⟨rfl, fun j p x hp hx => ?_⟩; match j, hp, hx with | _ + 0, hp, hx => cases hp) zero_34 rfl places_34_ok (cs := [.lit (.int .i64 0), .str [], .lit (.int .i64 0), .lit (.int .i64 0)]) rfl) ?_
                refine AOps.read trivial rfl (by decide) (Reader.move (.inr rfl) (ok_const rfl) (v := .lit (.int .i64 0)) rfl) ?_
                refine AOps.storeL trivial rfl rfl rfl rfl sizeOf_34 (.inl ⟨rfl, rfl⟩) rfl (v := .agg [.lit (.int .i64 0), .str [], .lit (.int .i64 0), .lit (.int .i64 0)]) rfl (all_flat rfl) rfl (Nat.le_of_ble_eq_true rfl) ?_
                refine AOps.read trivial rfl (by decide) (Reader.move (.inr rfl) (ok_const rfl) (v := .lit (.bool false)) rfl) ?_
                refine AOps.nil ?_
                refine AWp.ret ?_
                exact ⟨.inl rfl, _, ResOf.tmpCellTmp 2 (.lit (.int .i64 0)) rfl (.inl rfl) 3 3 0 4 34 _ _ (.agg [.lit (.int .i64 0), .str [], .lit (.int .i64 0), .lit (.int .i64 0)]) rfl rfl Tryd.underlying34 sizeOf_34 rfl (Eq.refl true) 4 (.lit (.bool false)) rfl rfl (by decide), ⟨rr_no (by first | assumption | exact okl_len (by assumption) | exact rr_B hkc h54 (by omega) (by omega) | exact rr_C hkc h54 h63 (by assumption) (by omega) | exact rr_D hkc h54 h63 (by assumption) (by omega) | exact rr_E hc16 hkc h54 h63 h97 hx (by assumption)), rfl⟩⟩
              · skip
                have h22' : ¬ (r2.length = 0) := (by have hh := beq_eq_false_iff_ne.1 h22; omega)
                clear h22
                refine AWp.skip ?_
                refine AWp.seq (AWp.region ?_)
                refine AOps.read trivial rfl (by decide) (Reader.move (.inl rfl) (ok_const rfl) (v := .list false 9 (r2.map AV.str)) rfl) ?_
                refine AOps.read trivial rfl (by decide) (Reader.elemAddr (m := 0) rfl Tryd.underlying23 sizeOf_9 rfl rfl rfl (e := .str (r2.getD 0 [])) (strs_at (by first | omega | (show _ < 0; omega)))) ?_
                refine AOps.read trivial rfl (by decide) (Reader.loadE rfl Tryd.underlying9 sizeOf_9 rfl (v := .str (r2.getD 0 [])) rfl rfl) ?_
                refine AOps.call (args := [.str (r2.getD 0 [])]) trivial rfl (by decide) rfl rfl Tryd.call58 (args_ok rfl) rfl (by intro j x v hx hv; match j, hx, hv with | 0, hx, hv => cases hx; cases hv; exact .inl ⟨rfl, rfl⟩ | _ + 1, hx, hv => cases hx) (rnumS_any (r2.getD 0 []) (by first | assumption | exact getD_le (by assumption) _) M) ?_
                rintro _ _ ⟨rfl, rfl⟩
                refine AOps.read trivial rfl (by decide) (Reader.fieldL rfl ⟨_, _, Tryd.underlying34, rfl, rfl, rfl, sizeOf_3⟩ (by decide) rfl) ?_
                refine AOps.storeL trivial rfl rfl rfl rfl sizeOf_3 (.inl ⟨rfl, rfl⟩) rfl (v := .lit (.int .i64 (numS (r2.getD 0 [])))) rfl (all_flat rfl) rfl (Nat.le_of_ble_eq_true rfl) ?_
                refine AOps.nil ?_
                refine AWp.region ?_
                refine AOps.read trivial rfl (by decide) (Reader.move (.inl rfl) (ok_const rfl) (v := .list false 9 (r2.map AV.str)) rfl) ?_
                refine AOps.read trivial rfl (by decide) (Reader.piece (xs := (r2.map AV.str)) (i := 1) (j := r2.length) rfl Tryd.underlying23 sizeOf_9 rfl ⟨_, _, rfl, rfl⟩ (by rw [List.length_map]; rfl) (by omega) (by rw [List.length_map]; omega) (ys := ((r2.drop 1).map AV.str)) (by rw [List.take_of_length_le (by simp), List.map_drop])) ?_
                refine AOps.read trivial rfl (by decide) (Reader.move (.inr rfl) (ok_const rfl) (v := .list false 9 ((r2.drop 1).map AV.str)) rfl) ?_
                refine AOps.nil ?_
                exact ⟨_, _, _, rfl, .inr (.inl ⟨by assumption, by assumption, by omega, rfl, rfl, rfl⟩)⟩
            · skip
              have h21' : ¬ (c = 9 ∨ c = 14 ∨ c = 16) := (of_decide_eq_false (hz5.symm.trans h21))
              clear h21
              refine AWp.skip ?_
              exact ⟨_, _, _, rfl, .inr (.inr ⟨by assumption, by assumption, rfl, rfl, rfl⟩)⟩
        rintro _ ⟨sg, n2, r3, rfl, h97⟩
        have hn2 := rr_n2 hc16 h54 h63 h97
        refine AWp.seq (AWp.region ?_)
        refine AOps.read trivial rfl (by decide) (Reader.move (.inl rfl) (ok_const rfl) (v := .lit (.int .i64 (numS ((splitC 32 t).getD 0 [])))) rfl) ?_
        refine AOps.read trivial rfl (by decide) (Reader.loadL rfl Tryd.underlying34 sizeOf_34 rfl rfl (v := .agg [.lit (.int .i64 (c : Int)), .str id, .lit (.int .i64 sg), .lit (.int .i64 n2)]) rfl rfl) ?_
        refine AOps.call (args := [.lit (.int .i64 (numS ((splitC 32 t).getD 0 []))), .agg [.lit (.int .i64 (c : Int)), .str id, .lit (.int .i64 sg), .lit (.int .i64 n2)]]) trivial rfl (by decide) rfl rfl Tryd.call23 (args_ok rfl) rfl (by intro j x v hx hv; match j, hx, hv with | 0, hx, hv => cases hx; cases hv; exact .inl ⟨rfl, rfl⟩ | 1, hx, hv => cases hx; cases hv; exact .inl ⟨rfl, rfl⟩ | _ + 2, hx, hv => cases hx) (rline_any (numS ((splitC 32 t).getD 0 [])) (⟨(c : Int), id, sg, n2⟩ : Ev) hidl hn2 M) ?_
        rintro _ _ ⟨⟨x, rfl, hx⟩, rfl⟩
        refine AOps.read trivial rfl (by decide) (Reader.move (.inl rfl) (ok_const rfl) (v := .tuple [.str x, .lit (.bool (decide (HasLine (numS ((splitC 32 t).getD 0 [])) (⟨(c : Int), id, sg, n2⟩ : Ev))))]) rfl) ?_
        refine AOps.read trivial rfl (by decide) (Reader.extract (v := .str x) rfl rfl rfl rfl) ?_
        refine AOps.read trivial rfl (by decide) (Reader.extract (v := .lit (.bool (decide (HasLine (numS ((splitC 32 t).getD 0 [])) (⟨(c : Int), id, sg, n2⟩ : Ev))))) rfl rfl rfl rfl) ?_
        refine AOps.read trivial rfl (by decide) (Reader.move (.inr rfl) (ok_const rfl) (v := .str x) rfl) ?_
        refine AOps.read trivial rfl (by decide) (Reader.move (.inr rfl) (ok_const rfl) (v := .lit (.bool (decide (HasLine (numS ((splitC 32 t).getD 0 [])) (⟨(c : Int), id, sg, n2⟩ : Ev))))) rfl) ?_
        refine AOps.nil ?_
        refine AWp.seq ?_
        refine AWp.regionJ [150, 0, 3, 5, 6, 7, 25, 8, 54, 63, 97, 9, 10, 11] [3, 6] (fun z => ⟨(150, .lit (.bool z)) :: [(0, .str t), (3, .lptr 3 0), (5, .list true 9 ((splitC 32 t).map AV.str)), (6, .lptr 6 0), (7, .lit (.int .i64 (i : Int))), (25, .lit (.bool (decide ((i : Int) ≤ 16)))), (8, .lit (.int .i64 (numS ((splitC 32 t).getD 0 [])))), (54, .lit (.bool (bif ((c : Int) != 6) then (bif ((c : Int) != 7) then ((c : Int) != 16) else false) else false))), (63, .lit (.bool ((c : Int) == 3))), (97, .lit (.bool (bif ((c : Int) == 3) then (bif (n1 == 3) then true else (bif (decide ((c : Int) ≥ 5)) then (decide ((c : Int) ≤ 7)) else false)) else (bif (decide ((c : Int) ≥ 5)) then (decide ((c : Int) ≤ 7)) else false)))), (9, .list false 9 (r3.map AV.str)), (10, .str x), (11, .lit (.bool (decide (HasLine (numS ((splitC 32 t).getD 0 [])) (⟨(c : Int), id, sg, n2⟩ : Ev)))))], [(3, [.lit (.int .i64 0), .str [], .lit (.int .i64 0), .lit (.int .i64 0)]), (6, [.lit (.int .i64 (c : Int)), .str id, .lit (.int .i64 sg), .lit (.int .i64 n2)])], M⟩) (z := bif (!(decide (HasLine (numS ((splitC 32 t).getD 0 [])) (⟨(c : Int), id, sg, n2⟩ : Ev)))) then true else (bif (!(x == t)) then true else (decide ((r3.length : Int) > 0)))) ?_ ?_
        · skip
          refine AOps.read trivial rfl (by decide) (Reader.move (.inl rfl) (ok_const rfl) (v := .lit (.bool (decide (HasLine (numS ((splitC 32 t).getD 0 [])) (⟨(c : Int), id, sg, n2⟩ : Ev))))) rfl) ?_
          refine AOps.read trivial rfl (by decide) (Reader.not (b := decide (HasLine (numS ((splitC 32 t).getD 0 [])) (⟨(c : Int), id, sg, n2⟩ : Ev))) rfl rfl) ?_
          refine AOps.read trivial rfl (by decide) (Reader.move (.inl rfl) (ok_const rfl) (v := .lit (.bool (!(decide (HasLine (numS ((splitC 32 t).getD 0 [])) (⟨(c : Int), id, sg, n2⟩ : Ev)))))) rfl) ?_
          refine AOps.splitJ (t := 141) (b := !(decide (HasLine (numS ((splitC 32 t).getD 0 [])) (⟨(c : Int), id, sg, n2⟩ : Ev)))) (x := true) (y := (bif (!(x == t)) then true else (decide ((r3.length : Int) > 0)))) rfl (fun h23 => ?_) (fun h23 => ?_)
          · skip
            have h23' : ¬ HasLine (numS ((splitC 32 t).getD 0 [])) (⟨(c : Int), id, sg, n2⟩ : Ev) := (by simpa using (bnot_t h23))
            clear h23
            refine AOps.skip ⟨2, false, 141, _, rfl, rfl, rfl, by simp⟩ rfl (by decide) ?_
            refine AOps.skip ⟨2, false, 141, _, rfl, rfl, rfl, by simp⟩ rfl (by decide) ?_
            refine AOps.skip ⟨2, false, 141, _, rfl, rfl, rfl, by simp⟩ rfl (by decide) ?_
            refine AOps.read trivial rfl (by decide) (Reader.pick rfl (b := true) rfl (ok_const rfl) (ok_const rfl) (v := .lit (.bool true)) rfl) ?_
            refine AOps.read trivial rfl (by decide) (Reader.move (.inl rfl) (ok_const rfl) (v := .lit (.bool true)) rfl) ?_
            refine AOps.skip ⟨7, false, 146, _, rfl, rfl, rfl, by simp⟩ rfl (by decide) ?_
            refine AOps.skip ⟨7, false, 146, _, rfl, rfl, rfl, by simp⟩ rfl (by decide) ?_
            refine AOps.skip ⟨7, false, 146, _, rfl, rfl, rfl, by simp⟩ rfl (by decide) ?_
            refine AOps.read trivial rfl (by decide) (Reader.pick rfl (b := true) rfl (ok_const rfl) (ok_const rfl) (v := .lit (.bool true)) rfl) ?_
            exact AOps.nil rfl
          · skip
            have h23' : HasLine (numS ((splitC 32 t).getD 0 [])) (⟨(c : Int), id, sg, n2⟩ : Ev) := (by simpa using (bnot_f h23))
            clear h23
            refine AOps.read ⟨141, rfl, rfl⟩ rfl (by decide) (Reader.move (.inl rfl) (ok_const rfl) (v := .str x) rfl) ?_
            refine AOps.read ⟨141, rfl, rfl⟩ rfl (by decide) (Reader.move (.inl rfl) (ok_const rfl) (v := .str t) rfl) ?_
            refine AOps.read ⟨141, rfl, rfl⟩ rfl (by decide) (Reader.strs rfl rfl rfl (r := !(x == t)) rfl) ?_
            refine AOps.read trivial rfl (by decide) (Reader.pick rfl (b := false) rfl (ok_const rfl) (ok_const rfl) (v := .lit (.bool (!(x == t)))) rfl) ?_
            refine AOps.read trivial rfl (by decide) (Reader.move (.inl rfl) (ok_const rfl) (v := .lit (.bool (!(x == t)))) rfl) ?_
            refine AOps.splitJ (t := 146) (b := !(x == t)) (x := true) (y := (decide ((r3.length : Int) > 0))) rfl (fun h24 => ?_) (fun h24 => ?_)
            · skip
              have h24' : ¬ (x = t) := (beq_eq_false_iff_ne.1 (bnot_t h24))
              clear h24
              refine AOps.skip ⟨7, false, 146, _, rfl, rfl, rfl, by simp⟩ rfl (by decide) ?_
              refine AOps.skip ⟨7, false, 146, _, rfl, rfl, rfl, by simp⟩ rfl (by decide) ?_
              refine AOps.skip ⟨7, false, 146, _, rfl, rfl, rfl, by simp⟩ rfl (by decide) ?_
              refine AOps.read trivial rfl (by decide) (Reader.pick rfl (b := true) rfl (ok_const rfl) (ok_const rfl) (v := .lit (.bool true)) rfl) ?_
              exact AOps.nil rfl
            · skip
              have h24' : x = t := (eq_of_beq (bnot_f h24))
              clear h24
              refine AOps.read ⟨146, rfl, rfl⟩ rfl (by decide) (Reader.move (.inl rfl) (ok_const rfl) (v := .list false 9 (r3.map AV.str)) rfl) ?_
              refine AOps.read ⟨146, rfl, rfl⟩ rfl (by decide) (Reader.len' (xs := r3.map AV.str) rfl rfl rfl rfl Tryd.underlying23 rfl (m := r3.length) (by simp)) ?_
              refine AOps.read ⟨146, rfl, rfl⟩ rfl (by decide) (Reader.int rfl rfl rfl (r := .bool (decide ((r3.length : Int) > 0))) rfl) ?_
              refine AOps.read trivial rfl (by decide) (Reader.pick rfl (b := false) rfl (ok_const rfl) (ok_const rfl) (v := .lit (.bool (decide ((r3.length : Int) > 0)))) rfl) ?_
              exact AOps.nil rfl
        refine AWp.cond (b := bif (!(decide (HasLine (numS ((splitC 32 t).getD 0 [])) (⟨(c : Int), id, sg, n2⟩ : Ev)))) then true else (bif (!(x == t)) then true else (decide ((r3.length : Int) > 0)))) rfl (fun h25 => ?_) (fun h25 => ?_)
        · skip
          have h25' : ¬ (HasLine (numS ((splitC 32 t).getD 0 [])) (⟨(c : Int), id, sg, n2⟩ : Ev) ∧ x = t ∧ r3.length = 0) := (r34_t h25)
          clear h25
          refine AWp.seq (AWp.region ?_)
          refine AOps.read trivial rfl (by decide) (Reader.build (xs := []) (Es := []) (places := places_34) rfl Tryd.underlying34 (by refine ⟨rfl, fun j p x hp hx => ?_⟩; match j, hp, hx with | _ + 0, hp, hx => cases hp) zero_34 rfl places_34_ok (cs := [.lit (.int .i64 0), .str [], .lit (.int .i64 0), .lit (.int .i64 0)]) rfl) ?_
          refine AOps.read trivial rfl (by decide) (Reader.move (.inr rfl) (ok_const rfl) (v := .lit (.int .i64 0)) rfl) ?_
          refine AOps.storeL trivial rfl rfl rfl rfl sizeOf_34 (.inl ⟨rfl, rfl⟩) rfl (v := .agg [.lit (.int .i64 0), .str [], .lit (.int .i64 0), .lit (.int .i64 0)]) rfl (all_flat rfl) rfl (Nat.le_of_ble_eq_true rfl) ?_
          refine AOps.read trivial rfl (by decide) (Reader.move (.inr rfl) (ok_const rfl) (v := .lit (.bool false)) rfl) ?_
          refine AOps.nil ?_
          refine AWp.ret ?_
          exact ⟨.inl rfl, _, ResOf.tmpCellTmp 2 (.lit (.int .i64 0)) rfl (.inl rfl) 3 3 0 4 34 _ _ (.agg [.lit (.int .i64 0), .str [], .lit (.int .i64 0), .lit (.int .i64 0)]) rfl rfl Tryd.underlying34 sizeOf_34 rfl (Eq.refl true) 4 (.lit (.bool false)) rfl rfl (by decide), ⟨rr_no (by first | assumption | exact okl_len (by assumption) | exact rr_B hkc h54 (by omega) (by omega) | exact rr_C hkc h54 h63 (by assumption) (by omega) | exact rr_D hkc h54 h63 (by assumption) (by omega) | exact rr_E hc16 hkc h54 h63 h97 hx (by assumption)), rfl⟩⟩
        · skip
          have h25' : HasLine (numS ((splitC 32 t).getD 0 [])) (⟨(c : Int), id, sg, n2⟩ : Ev) ∧ x = t ∧ r3.length = 0 := (r34_f h25)
          clear h25
          refine AWp.skip ?_
          refine AWp.seq (AWp.anyR [150, 0, 3, 5, 6, 7, 25, 8, 54, 63, 97, 9, 10, 11, 2, 4] [3, 6] (⟨[(150, .lit (.bool (bif (!(decide (HasLine (numS ((splitC 32 t).getD 0 [])) (⟨(c : Int), id, sg, n2⟩ : Ev)))) then true else (bif (!(x == t)) then true else (decide ((r3.length : Int) > 0)))))), (0, .str t), (3, .lptr 3 0), (5, .list true 9 ((splitC 32 t).map AV.str)), (6, .lptr 6 0), (7, .lit (.int .i64 (i : Int))), (25, .lit (.bool (decide ((i : Int) ≤ 16)))), (8, .lit (.int .i64 (numS ((splitC 32 t).getD 0 [])))), (54, .lit (.bool (bif ((c : Int) != 6) then (bif ((c : Int) != 7) then ((c : Int) != 16) else false) else false))), (63, .lit (.bool ((c : Int) == 3))), (97, .lit (.bool (bif ((c : Int) == 3) then (bif (n1 == 3) then true else (bif (decide ((c : Int) ≥ 5)) then (decide ((c : Int) ≤ 7)) else false)) else (bif (decide ((c : Int) ≥ 5)) then (decide ((c : Int) ≤ 7)) else false)))), (9, .list false 9 (r3.map AV.str)), (10, .str x), (11, .lit (.bool (decide (HasLine (numS ((splitC 32 t).getD 0 [])) (⟨(c : Int), id, sg, n2⟩ : Ev))))), (2, .lit (.int .i64 (numS ((splitC 32 t).getD 0 [])))), (4, .lit (.bool true))], [(3, [.lit (.int .i64 (c : Int)), .str id, .lit (.int .i64 sg), .lit (.int .i64 n2)]), (6, [.lit (.int .i64 (c : Int)), .str id, .lit (.int .i64 sg), .lit (.int .i64 n2)])], M⟩) (by kernel_rfl) ?_ ?_)
          · skip
            skip
            refine SAny.take 0 rfl (by kernel_rfl) (by kernel_rfl) (by kernel_rfl) trivial rfl (by decide) (PReader.move (.inl rfl) (ok_const rfl) (v := .lit (.int .i64 (numS ((splitC 32 t).getD 0 [])))) rfl) ?_
            refine SAny.take 2 rfl (by kernel_rfl) (by kernel_rfl) (by kernel_rfl) trivial rfl (by decide) (PReader.move (.inr rfl) (ok_const rfl) (v := .lit (.int .i64 (numS ((splitC 32 t).getD 0 [])))) rfl) ?_
            refine SAny.step [1] (by kernel_rfl) (by decide) ?_
            intro iq hq; simp only [List.mem_cons, List.mem_nil_iff, or_false] at hq
            rcases hq with rfl
            · refine ⟨_, rfl, ?_⟩
              refine AOps.read trivial rfl (by decide) (Reader.loadL rfl Tryd.underlying34 sizeOf_34 rfl rfl (v := .agg [.lit (.int .i64 (c : Int)), .str id, .lit (.int .i64 sg), .lit (.int .i64 n2)]) rfl rfl) ?_
              refine AOps.nil ?_
              refine SAny.step [3] (by kernel_rfl) (by decide) ?_
              intro iq hq; simp only [List.mem_cons, List.mem_nil_iff, or_false] at hq
              rcases hq with rfl
              · refine ⟨_, rfl, ?_⟩
                refine AOps.storeL trivial rfl rfl rfl rfl sizeOf_34 (.inl ⟨rfl, rfl⟩) rfl (v := .agg [.lit (.int .i64 (c : Int)), .str id, .lit (.int .i64 sg), .lit (.int .i64 n2)]) rfl (all_flat rfl) rfl (Nat.le_of_ble_eq_true rfl) ?_
                refine AOps.nil ?_
                refine SAny.take 4 rfl (by kernel_rfl) (by kernel_rfl) (by kernel_rfl) trivial rfl (by decide) (PReader.move (.inr rfl) (ok_const rfl) (v := .lit (.bool true)) rfl) ?_
                exact SAny.done (by kernel_rfl) rfl
          refine AWp.ret ?_
          exact ⟨.inl rfl, _, ResOf.tmpCellTmp 2 (.lit (.int .i64 (numS ((splitC 32 t).getD 0 [])))) rfl (.inl rfl) 3 3 0 4 34 _ _ (.agg [.lit (.int .i64 (c : Int)), .str id, .lit (.int .i64 sg), .lit (.int .i64 n2)]) rfl rfl Tryd.underlying34 sizeOf_34 rfl (Eq.refl true) 4 (.lit (.bool true)) rfl rfl (by decide), ⟨rr_yes (rr_F hc16 h54 h63 h97 hx (by assumption)), rfl⟩⟩

end Go.Proofs.YtlpihekflkjkfaaDoor
