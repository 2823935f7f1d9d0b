/- Walks over abstract values, printed by my program av.py. -/
import Derived.Test.YtlpihekflkjkfaaDoorTh1
namespace Go.Proofs.YtlpihekflkjkfaaDoor
open Go.RowKit

theorem tnum_0 {t : List UInt8} {z : Int} (hz : Lib.atoiAll t = .ok z) (h : ¬ Lib.itoa z = t) : 0 = numT t := by unfold numT; rw [hz]; simp only; rw [if_neg h]
theorem tnum_z {t : List UInt8} {z : Int} (hz : Lib.atoiAll t = .ok z) (h : Lib.itoa z = t) : z = numT t := by unfold numT; rw [hz]; simp only; rw [if_pos h]
theorem tnum_n {t : List UInt8} (hz : ∀ z, Lib.atoiAll t ≠ .ok z) : 0 = numT t := by
  unfold numT
  split
  · rename_i n h; exact absurd h (hz n)
  · rfl
theorem trim_len (v : List UInt8) : (Lib.trimSuffix v [37]).length ≤ v.length := by
  unfold Lib.trimSuffix; split
  · rw [List.length_take]; omega
  · exact Nat.le_refl _
theorem thr_of {t : List UInt8} {so su : Bool} (h1 : sfOf t = so) (h2 : Lib.hasSuffix (vlOf t) [37] = su) (hs : 0 ≤ sigOf (wdOf t)) :
    thrOf numT t = ⟨((sigOf (wdOf t)).toNat : Int), bif su then numT (Lib.trimSuffix (vlOf t) [37]) else 0, bif su then 0 else ((qv (vlOf t) : Nat) : Int), sfOf t, bif so then numT (grOf t) else 0⟩ := by
  have e : ((sigOf (wdOf t)).toNat : Int) = sigOf (wdOf t) := by omega
  unfold thrOf pctOf amtOf
  rw [h1, h2, e]
  cases so <;> cases su <;> first | rfl | (simp only [if_true, cond_true]; unfold Lib.trimSuffix; rw [h2]; rfl) | (simp; unfold Lib.trimSuffix; rw [h2]; rfl)
theorem okt_no {t : List UInt8} {th : Thr} (hth : 0 ≤ sigOf (wdOf t) → thrOf numT t = th) (h : (bif !(t.contains 60) then true else (bif !(decide (sigOf (wdOf t) ≥ 0)) then true else !(decide (RightT th)))) = true) : ¬ OkT t := by
  rintro ⟨h1, h2⟩
  have h3 : 0 ≤ sigOf (wdOf t) := h2.1
  rw [hth h3] at h2
  rw [h1, decide_eq_true (show sigOf (wdOf t) ≥ 0 from h3), decide_eq_true h2] at h
  cases h
theorem okt_yes {t : List UInt8} {th : Thr} (hth : 0 ≤ sigOf (wdOf t) → thrOf numT t = th) (h : (bif !(t.contains 60) then true else (bif !(decide (sigOf (wdOf t) ≥ 0)) then true else !(decide (RightT th)))) = false) : OkT t := by
  cases h1 : t.contains 60 with
  | false => rw [h1] at h; cases h
  | true =>
    rw [h1] at h
    by_cases h3 : sigOf (wdOf t) ≥ 0
    · rw [decide_eq_true h3] at h
      by_cases h2 : RightT th
      · exact ⟨h1, by rw [hth h3]; exact h2⟩
      · rw [decide_eq_false h2] at h; cases h
    · rw [decide_eq_false h3] at h; cases h
theorem th_no {t : List UInt8} (h : ¬ OkT t) : readT t = t0 ∧ errT t = 2 := ⟨by unfold readT; rw [if_neg h], by unfold errT; rw [if_neg h]⟩
theorem th_ok {t : List UInt8} (h : OkT t) : readT t = thrOf numT t ∧ errT t = 0 := ⟨by unfold readT; rw [if_pos h], by unfold errT; rw [if_pos h]⟩
theorem okt_sig {t : List UInt8} (h : OkT t) : 0 ≤ sigOf (wdOf t) := h.2.1

set_option maxRecDepth 20000 in
theorem tnum_ok (t : List UInt8) (hl : t.length ≤ 4294967280) (nz : Int) (hz : Lib.atoiAll t = .ok nz) (M : Nat → Option (List AV)) : ACall Tryd.prog 63 [.str t] M (fun r M' => r = .lit (.int .i64 (numT t)) ∧ M = M') := by
  have hzb := Lib.atoiAll_bounds hz
  refine ACall.of Tryd.func63 rfl (n := 19) rfl rfl rfl ?_
  refine AWp.seq (AWp.region ?_)
  refine AOps.read trivial rfl (by decide) (Reader.move (.inr rfl) (ok_const rfl) (v := .lit (.int .i64 0)) rfl) ?_
  refine AOps.nil ?_
  refine AWp.seq (AWp.region ?_)
  refine AOps.read trivial rfl (by decide) (Reader.move (.inl rfl) (ok_const rfl) (v := .str t) rfl) ?_
  refine AOps.call (args := [.str t]) trivial rfl (by decide) rfl rfl Tryd.call84 (args_ok rfl) rfl (by intro j x v hx hv; match j, hx, hv with | 0, hx, hv => cases hx; cases hv; exact .inl ⟨rfl, rfl⟩ | _ + 1, hx, hv => cases hx) (atoi_ok t hl nz hz M) ?_
  rintro _ _ ⟨rfl, rfl⟩
  refine AOps.read trivial rfl (by decide) (Reader.move (.inl rfl) (ok_const rfl) (v := .tuple [.lit (.int .i64 nz), .lit .nilIface]) rfl) ?_
  refine AOps.read trivial rfl (by decide) (Reader.extract (v := .lit (.int .i64 nz)) rfl rfl rfl rfl) ?_
  refine AOps.read trivial rfl (by decide) (Reader.extract (v := .lit .nilIface) rfl rfl rfl rfl) ?_
  refine AOps.read trivial rfl (by decide) (Reader.move (.inr rfl) (ok_const rfl) (v := .lit (.int .i64 nz)) rfl) ?_
  refine AOps.read trivial rfl (by decide) (Reader.move (.inr rfl) (ok_const rfl) (v := .lit .nilIface) rfl) ?_
  refine AOps.nil ?_
  refine AWp.seq ?_
  refine AWp.regionJ [17, 0, 2, 3, 4] [] (fun z => ⟨(17, .lit (.bool z)) :: [(0, .str t), (2, .lit (.int .i64 0)), (3, .lit (.int .i64 nz)), (4, .lit .nilIface)], [], M⟩) (z := !((Lib.itoa nz) == t)) ?_ ?_
  · skip
    refine AOps.read trivial rfl (by decide) (Reader.move (.inl rfl) (ok_const rfl) (v := .lit .nilIface) rfl) ?_
    refine AOps.read trivial rfl (by decide) (Reader.ifNil rfl Tryd.underlying116 (v := .nilIface) rfl (.inl ⟨rfl, rfl⟩) (.inr ⟨rfl, rfl⟩)) ?_
    refine AOps.read trivial rfl (by decide) (Reader.move (.inl rfl) (ok_const rfl) (v := .lit (.bool false)) rfl) ?_
    refine AOps.read ⟨12, rfl, rfl⟩ rfl (by decide) (Reader.move (.inl rfl) (ok_const rfl) (v := .lit (.int .i64 nz)) rfl) ?_
    refine AOps.call (args := [.lit (.int .i64 nz)]) ⟨12, rfl, rfl⟩ rfl (by decide) rfl rfl Tryd.call44 (args_ok rfl) rfl (by intro j x v hx hv; match j, hx, hv with | 0, hx, hv => cases hx; cases hv; exact .inl ⟨rfl, rfl⟩ | _ + 1, hx, hv => cases hx) (itoa_int nz (by omega) (by omega) M) ?_
    rintro _ _ ⟨rfl, rfl⟩
    refine AOps.read ⟨12, rfl, rfl⟩ rfl (by decide) (Reader.move (.inl rfl) (ok_const rfl) (v := .str t) rfl) ?_
    refine AOps.read ⟨12, rfl, rfl⟩ rfl (by decide) (Reader.strs rfl rfl rfl (r := !((Lib.itoa nz) == t)) rfl) ?_
    refine AOps.read trivial rfl (by decide) (Reader.pick rfl (b := false) rfl (ok_const rfl) (ok_const rfl) (v := .lit (.bool (!((Lib.itoa nz) == t)))) rfl) ?_
    exact AOps.nil rfl
  refine AWp.cond (b := !((Lib.itoa nz) == t)) rfl (fun h1 => ?_) (fun h1 => ?_)
  · skip
    have h1' : ¬ Lib.itoa nz = t := (beq_eq_false_iff_ne.1 (bnot_t h1))
    clear h1
    refine AWp.seq (AWp.region ?_)
    refine AOps.read trivial rfl (by decide) (Reader.move (.inr rfl) (ok_const rfl) (v := .lit (.int .i64 0)) rfl) ?_
    refine AOps.nil ?_
    refine AWp.ret ?_
    exact ⟨.inl rfl, _, ResOf.one 2 (.lit (.int .i64 0)) rfl rfl, ⟨congrArg (fun x : Int => AV.lit (.int .i64 x)) (tnum_0 hz (by assumption)), rfl⟩⟩
  · skip
    have h1' : Lib.itoa nz = t := (eq_of_beq (bnot_f h1))
    clear h1
    refine AWp.skip ?_
    refine AWp.seq (AWp.region ?_)
    refine AOps.read trivial rfl (by decide) (Reader.move (.inl rfl) (ok_const rfl) (v := .lit (.int .i64 nz)) rfl) ?_
    refine AOps.read trivial rfl (by decide) (Reader.move (.inr rfl) (ok_const rfl) (v := .lit (.int .i64 nz)) rfl) ?_
    refine AOps.nil ?_
    refine AWp.ret ?_
    exact ⟨.inl rfl, _, ResOf.one 2 (.lit (.int .i64 nz)) rfl rfl, ⟨congrArg (fun x : Int => AV.lit (.int .i64 x)) (tnum_z hz (by assumption)), rfl⟩⟩

set_option maxRecDepth 20000 in
theorem tnum_bad (t : List UInt8) (hl : t.length ≤ 4294967280) (hz : ∀ z, Lib.atoiAll t ≠ .ok z) (M : Nat → Option (List AV)) : ACall Tryd.prog 63 [.str t] M (fun r M' => r = .lit (.int .i64 (numT t)) ∧ M = M') := by
  refine ACall.of Tryd.func63 rfl (n := 19) rfl rfl rfl ?_
  refine AWp.seq (AWp.region ?_)
  refine AOps.read trivial rfl (by decide) (Reader.move (.inr rfl) (ok_const rfl) (v := .lit (.int .i64 0)) rfl) ?_
  refine AOps.nil ?_
  refine AWp.seq (AWp.region ?_)
  refine AOps.read trivial rfl (by decide) (Reader.move (.inl rfl) (ok_const rfl) (v := .str t) rfl) ?_
  refine AOps.call (args := [.str t]) trivial rfl (by decide) rfl rfl Tryd.call84 (args_ok rfl) rfl (by intro j x v hx hv; match j, hx, hv with | 0, hx, hv => cases hx; cases hv; exact .inl ⟨rfl, rfl⟩ | _ + 1, hx, hv => cases hx) (atoi_bad t hl hz M) ?_
  rintro _ _ ⟨⟨nz, te, pe, rfl⟩, rfl⟩
  refine AOps.read trivial rfl (by decide) (Reader.move (.inl rfl) (ok_const rfl) (v := .tuple [.lit (.int .i64 nz), .lit (.iface te pe)]) rfl) ?_
  refine AOps.read trivial rfl (by decide) (Reader.extract (v := .lit (.int .i64 nz)) rfl rfl rfl rfl) ?_
  refine AOps.read trivial rfl (by decide) (Reader.extract (v := .lit (.iface te pe)) rfl rfl rfl rfl) ?_
  refine AOps.read trivial rfl (by decide) (Reader.move (.inr rfl) (ok_const rfl) (v := .lit (.int .i64 nz)) rfl) ?_
  refine AOps.read trivial rfl (by decide) (Reader.move (.inr rfl) (ok_const rfl) (v := .lit (.iface te pe)) rfl) ?_
  refine AOps.nil ?_
  refine AWp.seq ?_
  refine AWp.regionJ [17, 0, 2, 3, 4] [] (fun z => ⟨(17, .lit (.bool z)) :: [(0, .str t), (2, .lit (.int .i64 0)), (3, .lit (.int .i64 nz)), (4, .lit (.iface te pe))], [], M⟩) (z := true) ?_ ?_
  · skip
    refine AOps.read trivial rfl (by decide) (Reader.move (.inl rfl) (ok_const rfl) (v := .lit (.iface te pe)) rfl) ?_
    refine AOps.read trivial rfl (by decide) (Reader.ifNil rfl Tryd.underlying116 (v := (.iface te pe)) rfl (.inr ⟨⟨_, _, rfl⟩, rfl⟩) (.inr ⟨rfl, rfl⟩)) ?_
    refine AOps.read trivial rfl (by decide) (Reader.move (.inl rfl) (ok_const rfl) (v := .lit (.bool true)) rfl) ?_
    refine AOps.skip ⟨2, false, 12, _, rfl, rfl, rfl, by simp⟩ rfl (by decide) ?_
    refine AOps.skip ⟨2, false, 12, _, rfl, rfl, rfl, by simp⟩ rfl (by decide) ?_
    refine AOps.skip ⟨2, false, 12, _, rfl, rfl, rfl, by simp⟩ rfl (by decide) ?_
    refine AOps.skip ⟨2, false, 12, _, rfl, rfl, rfl, by simp⟩ rfl (by decide) ?_
    refine AOps.read trivial rfl (by decide) (Reader.pick rfl (b := true) rfl (ok_const rfl) (ok_const rfl) (v := .lit (.bool true)) rfl) ?_
    exact AOps.nil rfl
  refine AWp.cond (b := true) rfl (fun hx => ?_) (fun hx => by cases hx)
  refine AWp.seq (AWp.region ?_)
  refine AOps.read trivial rfl (by decide) (Reader.move (.inr rfl) (ok_const rfl) (v := .lit (.int .i64 0)) rfl) ?_
  refine AOps.nil ?_
  refine AWp.ret ?_
  exact ⟨.inl rfl, _, ResOf.one 2 (.lit (.int .i64 0)) rfl rfl, ⟨congrArg (fun x : Int => AV.lit (.int .i64 x)) (tnum_n hz), rfl⟩⟩

theorem tnum_any (t : List UInt8) (hl : t.length ≤ 4294967280) (M : Nat → Option (List AV)) : ACall Tryd.prog 63 [.str t] M (fun r M' => r = .lit (.int .i64 (numT t)) ∧ M = M') := by
  by_cases h : ∃ z, Lib.atoiAll t = .ok z
  · obtain ⟨z, hz⟩ := h
    exact tnum_ok t hl z hz M
  · exact tnum_bad t hl (fun z e => h ⟨z, e⟩) M

set_option maxRecDepth 20000 in
theorem TRead_any (t : List UInt8) (hl : t.length ≤ 4294967280) (M : Nat → Option (List AV)) : ACall Tryd.prog 33 [.str t] M (fun r M' => r = .tuple [encT (readT t), .lit (.int .i64 (errT t))] ∧ M = M') := by
  have hc1 := cutA_len 60 t
  have hc2 := cutA_len 58 (cutA 60 t).2.1
  have hc3 := trim_len (cutA 58 (cutA 60 t).2.1).1
  refine ACall.of Tryd.func33 rfl (n := 68) rfl rfl rfl ?_
  refine AWp.seq (AWp.region ?_)
  refine AOps.alloc (Es := []) trivial rfl (by decide) rfl (noL rfl) rfl zero_65 rfl (cells := [.lit (.int .i64 0), .lit (.int .i64 0), .lit (.int .i64 0), .lit (.bool false), .lit (.int .i64 0)]) rfl (all_scalar rfl) (all_flat rfl) ?_
  refine AOps.read trivial rfl (by decide) (Reader.move (.inr rfl) (ok_const rfl) (v := .lit (.int .i64 0)) rfl) ?_
  refine AOps.nil ?_
  refine AWp.seq (AWp.region ?_)
  refine AOps.alloc (Es := []) trivial rfl (by decide) rfl (noL rfl) rfl zero_65 rfl (cells := [.lit (.int .i64 0), .lit (.int .i64 0), .lit (.int .i64 0), .lit (.bool false), .lit (.int .i64 0)]) rfl (all_scalar rfl) (all_flat rfl) ?_
  refine AOps.nil ?_
  refine AWp.seq (AWp.region ?_)
  refine AOps.read trivial rfl (by decide) (Reader.move (.inl rfl) (ok_const rfl) (v := .str t) rfl) ?_
  refine AOps.call (args := [.str t, .str [60]]) trivial rfl (by decide) rfl rfl Tryd.call62 (args_ok rfl) rfl (by intro j x v hx hv; match j, hx, hv with | 0, hx, hv => cases hx; cases hv; exact .inl ⟨rfl, rfl⟩ | 1, hx, hv => cases hx; cases hv; exact .inl ⟨rfl, rfl⟩ | _ + 2, hx, hv => cases hx) (cut_any 60 t (by omega) M) ?_
  rintro _ _ ⟨rfl, rfl⟩
  refine AOps.read trivial rfl (by decide) (Reader.move (.inl rfl) (ok_const rfl) (v := .tuple [.str ((cutA 60 t).1), .str ((cutA 60 t).2.1), .lit (.bool (t.contains 60))]) rfl) ?_
  refine AOps.read trivial rfl (by decide) (Reader.extract (v := .str ((cutA 60 t).1)) rfl rfl rfl rfl) ?_
  refine AOps.read trivial rfl (by decide) (Reader.extract (v := .str ((cutA 60 t).2.1)) rfl rfl rfl rfl) ?_
  refine AOps.read trivial rfl (by decide) (Reader.extract (v := .lit (.bool (t.contains 60))) rfl rfl rfl rfl) ?_
  refine AOps.read trivial rfl (by decide) (Reader.move (.inr rfl) (ok_const rfl) (v := .str ((cutA 60 t).1)) rfl) ?_
  refine AOps.read trivial rfl (by decide) (Reader.move (.inr rfl) (ok_const rfl) (v := .str ((cutA 60 t).2.1)) rfl) ?_
  refine AOps.read trivial rfl (by decide) (Reader.move (.inr rfl) (ok_const rfl) (v := .lit (.bool (t.contains 60))) rfl) ?_
  refine AOps.nil ?_
  refine AWp.seq (AWp.region ?_)
  refine AOps.read trivial rfl (by decide) (Reader.move (.inl rfl) (ok_const rfl) (v := .str ((cutA 60 t).1)) rfl) ?_
  refine AOps.call (args := [.str ((cutA 60 t).1)]) trivial rfl (by decide) rfl rfl Tryd.call35 (args_ok rfl) rfl (by intro j x v hx hv; match j, hx, hv with | 0, hx, hv => cases hx; cases hv; exact .inl ⟨rfl, rfl⟩ | _ + 1, hx, hv => cases hx) (Signal_any ((cutA 60 t).1) M) ?_
  rintro _ _ ⟨rfl, rfl⟩
  refine AOps.read trivial rfl (by decide) (Reader.move (.inl rfl) (ok_const rfl) (v := .tuple [.lit (.int .i64 (((sigOf ((cutA 60 t).1)).toNat : Nat) : Int)), .lit (.bool (decide (sigOf ((cutA 60 t).1) ≥ 0)))]) rfl) ?_
  refine AOps.read trivial rfl (by decide) (Reader.extract (v := .lit (.int .i64 (((sigOf ((cutA 60 t).1)).toNat : Nat) : Int))) rfl rfl rfl rfl) ?_
  refine AOps.read trivial rfl (by decide) (Reader.extract (v := .lit (.bool (decide (sigOf ((cutA 60 t).1) ≥ 0)))) rfl rfl rfl rfl) ?_
  refine AOps.read trivial rfl (by decide) (Reader.move (.inr rfl) (ok_const rfl) (v := .lit (.int .i64 (((sigOf ((cutA 60 t).1)).toNat : Nat) : Int))) rfl) ?_
  refine AOps.read trivial rfl (by decide) (Reader.move (.inr rfl) (ok_const rfl) (v := .lit (.bool (decide (sigOf ((cutA 60 t).1) ≥ 0)))) rfl) ?_
  refine AOps.nil ?_
  refine AWp.seq (AWp.region ?_)
  refine AOps.read trivial rfl (by decide) (Reader.move (.inl rfl) (ok_const rfl) (v := .str ((cutA 60 t).2.1)) rfl) ?_
  refine AOps.call (args := [.str ((cutA 60 t).2.1), .str [58]]) trivial rfl (by decide) rfl rfl Tryd.call62 (args_ok rfl) rfl (by intro j x v hx hv; match j, hx, hv with | 0, hx, hv => cases hx; cases hv; exact .inl ⟨rfl, rfl⟩ | 1, hx, hv => cases hx; cases hv; exact .inl ⟨rfl, rfl⟩ | _ + 2, hx, hv => cases hx) (cut_any 58 ((cutA 60 t).2.1) (by omega) M) ?_
  rintro _ _ ⟨rfl, rfl⟩
  refine AOps.read trivial rfl (by decide) (Reader.move (.inl rfl) (ok_const rfl) (v := .tuple [.str ((cutA 58 ((cutA 60 t).2.1)).1), .str ((cutA 58 ((cutA 60 t).2.1)).2.1), .lit (.bool ((cutA 58 (cutA 60 t).2.1).2.2))]) rfl) ?_
  refine AOps.read trivial rfl (by decide) (Reader.extract (v := .str ((cutA 58 ((cutA 60 t).2.1)).1)) rfl rfl rfl rfl) ?_
  refine AOps.read trivial rfl (by decide) (Reader.extract (v := .str ((cutA 58 ((cutA 60 t).2.1)).2.1)) rfl rfl rfl rfl) ?_
  refine AOps.read trivial rfl (by decide) (Reader.extract (v := .lit (.bool ((cutA 58 (cutA 60 t).2.1).2.2))) rfl rfl rfl rfl) ?_
  refine AOps.read trivial rfl (by decide) (Reader.move (.inr rfl) (ok_const rfl) (v := .str ((cutA 58 ((cutA 60 t).2.1)).1)) rfl) ?_
  refine AOps.read trivial rfl (by decide) (Reader.move (.inr rfl) (ok_const rfl) (v := .str ((cutA 58 ((cutA 60 t).2.1)).2.1)) rfl) ?_
  refine AOps.read trivial rfl (by decide) (Reader.move (.inr rfl) (ok_const rfl) (v := .lit (.bool ((cutA 58 (cutA 60 t).2.1).2.2))) rfl) ?_
  refine AOps.nil ?_
  refine AWp.seq (AWp.region ?_)
  refine AOps.read trivial rfl (by decide) (Reader.move (.inl rfl) (ok_const rfl) (v := .lit (.int .i64 (((sigOf ((cutA 60 t).1)).toNat : Nat) : Int))) rfl) ?_
  refine AOps.read trivial rfl (by decide) (Reader.move (.inl rfl) (ok_const rfl) (v := .lit (.bool ((cutA 58 (cutA 60 t).2.1).2.2))) rfl) ?_
  refine AOps.read trivial rfl (by decide) (Reader.fieldL rfl ⟨_, _, Tryd.underlying65, rfl, rfl, rfl, sizeOf_3⟩ (by decide) rfl) ?_
  refine AOps.storeL trivial rfl rfl rfl rfl sizeOf_3 (.inl ⟨rfl, rfl⟩) rfl (v := .lit (.int .i64 (((sigOf ((cutA 60 t).1)).toNat : Nat) : Int))) rfl (all_flat rfl) rfl (Nat.le_of_ble_eq_true rfl) ?_
  refine AOps.read trivial rfl (by decide) (Reader.fieldL rfl ⟨_, _, Tryd.underlying65, rfl, rfl, rfl, sizeOf_4⟩ (by decide) rfl) ?_
  refine AOps.storeL trivial rfl rfl rfl rfl sizeOf_4 (.inl ⟨rfl, rfl⟩) rfl (v := .lit (.bool ((cutA 58 (cutA 60 t).2.1).2.2))) rfl (all_flat rfl) rfl (Nat.le_of_ble_eq_true rfl) ?_
  refine AOps.nil ?_
  refine AWp.seq ?_
  refine AWp.seq (AWp.region ?_)
  refine AOps.read trivial rfl (by decide) (Reader.move (.inl rfl) (ok_const rfl) (v := .lit (.bool ((cutA 58 (cutA 60 t).2.1).2.2))) rfl) ?_
  refine AOps.nil ?_
  refine AWp.cond (b := (cutA 58 (cutA 60 t).2.1).2.2) rfl (fun h1 => ?_) (fun h1 => ?_)
  · skip
    have h1' : sfOf t = true := h1
    clear h1
    refine AWp.region ?_
    refine AOps.read trivial rfl (by decide) (Reader.move (.inl rfl) (ok_const rfl) (v := .str ((cutA 58 ((cutA 60 t).2.1)).2.1)) rfl) ?_
    refine AOps.call (args := [.str ((cutA 58 ((cutA 60 t).2.1)).2.1)]) trivial rfl (by decide) rfl rfl Tryd.call63 (args_ok rfl) rfl (by intro j x v hx hv; match j, hx, hv with | 0, hx, hv => cases hx; cases hv; exact .inl ⟨rfl, rfl⟩ | _ + 1, hx, hv => cases hx) (tnum_any ((cutA 58 ((cutA 60 t).2.1)).2.1) (by first | omega | (simp only [List.length_append, List.length_cons, List.length_nil]; omega)) M) ?_
    rintro _ _ ⟨rfl, rfl⟩
    refine AOps.read trivial rfl (by decide) (Reader.fieldL rfl ⟨_, _, Tryd.underlying65, rfl, rfl, rfl, sizeOf_3⟩ (by decide) rfl) ?_
    refine AOps.storeL trivial rfl rfl rfl rfl sizeOf_3 (.inl ⟨rfl, rfl⟩) rfl (v := .lit (.int .i64 (numT ((cutA 58 ((cutA 60 t).2.1)).2.1)))) rfl (all_flat rfl) rfl (Nat.le_of_ble_eq_true rfl) ?_
    refine AOps.nil ?_
    refine AWp.seq ?_
    refine AWp.seq (AWp.region ?_)
    refine AOps.read trivial rfl (by decide) (Reader.move (.inl rfl) (ok_const rfl) (v := .str ((cutA 58 ((cutA 60 t).2.1)).1)) rfl) ?_
    refine AOps.call (args := [.str ((cutA 58 ((cutA 60 t).2.1)).1), .str [37]]) trivial rfl (by decide) rfl rfl Tryd.call64 (args_ok rfl) rfl (by intro j x v hx hv; match j, hx, hv with | 0, hx, hv => cases hx; cases hv; exact .inl ⟨rfl, rfl⟩ | 1, hx, hv => cases hx; cases hv; exact .inl ⟨rfl, rfl⟩ | _ + 2, hx, hv => cases hx) (suf_any [37] ((cutA 58 ((cutA 60 t).2.1)).1) (by omega) M) ?_
    rintro _ _ ⟨rfl, rfl⟩
    refine AOps.read trivial rfl (by decide) (Reader.move (.inl rfl) (ok_const rfl) (v := .tuple [.str (Lib.trimSuffix (cutA 58 (cutA 60 t).2.1).1 [37]), .lit (.bool (Lib.hasSuffix (cutA 58 (cutA 60 t).2.1).1 [37]))]) rfl) ?_
    refine AOps.read trivial rfl (by decide) (Reader.extract (v := .str (Lib.trimSuffix (cutA 58 (cutA 60 t).2.1).1 [37])) rfl rfl rfl rfl) ?_
    refine AOps.read trivial rfl (by decide) (Reader.extract (v := .lit (.bool (Lib.hasSuffix (cutA 58 (cutA 60 t).2.1).1 [37]))) rfl rfl rfl rfl) ?_
    refine AOps.read trivial rfl (by decide) (Reader.move (.inr rfl) (ok_const rfl) (v := .str (Lib.trimSuffix (cutA 58 (cutA 60 t).2.1).1 [37])) rfl) ?_
    refine AOps.read trivial rfl (by decide) (Reader.move (.inr rfl) (ok_const rfl) (v := .lit (.bool (Lib.hasSuffix (cutA 58 (cutA 60 t).2.1).1 [37]))) rfl) ?_
    refine AOps.nil ?_
    refine AWp.seq (AWp.region ?_)
    refine AOps.read trivial rfl (by decide) (Reader.move (.inl rfl) (ok_const rfl) (v := .lit (.bool (Lib.hasSuffix (cutA 58 (cutA 60 t).2.1).1 [37]))) rfl) ?_
    refine AOps.nil ?_
    refine AWp.cond (b := Lib.hasSuffix (cutA 58 (cutA 60 t).2.1).1 [37]) rfl (fun h2 => ?_) (fun h2 => ?_)
    · skip
      have h2' : Lib.hasSuffix (vlOf t) [37] = true := h2
      clear h2
      refine AWp.region ?_
      refine AOps.read trivial rfl (by decide) (Reader.move (.inl rfl) (ok_const rfl) (v := .str (Lib.trimSuffix (cutA 58 (cutA 60 t).2.1).1 [37])) rfl) ?_
      refine AOps.call (args := [.str (Lib.trimSuffix (cutA 58 (cutA 60 t).2.1).1 [37])]) trivial rfl (by decide) rfl rfl Tryd.call63 (args_ok rfl) rfl (by intro j x v hx hv; match j, hx, hv with | 0, hx, hv => cases hx; cases hv; exact .inl ⟨rfl, rfl⟩ | _ + 1, hx, hv => cases hx) (tnum_any (Lib.trimSuffix (cutA 58 (cutA 60 t).2.1).1 [37]) (by first | omega | (simp only [List.length_append, List.length_cons, List.length_nil]; omega)) M) ?_
      rintro _ _ ⟨rfl, rfl⟩
      refine AOps.read trivial rfl (by decide) (Reader.fieldL rfl ⟨_, _, Tryd.underlying65, rfl, rfl, rfl, sizeOf_3⟩ (by decide) rfl) ?_
      refine AOps.storeL trivial rfl rfl rfl rfl sizeOf_3 (.inl ⟨rfl, rfl⟩) rfl (v := .lit (.int .i64 (numT (Lib.trimSuffix (cutA 58 (cutA 60 t).2.1).1 [37])))) rfl (all_flat rfl) rfl (Nat.le_of_ble_eq_true rfl) ?_
      refine AOps.nil ?_
      refine AWp.seq ?_
      refine AWp.regionJ [65, 0, 2, 3, 4, 5, 6, 7, 8, 9, 10, 11, 12, 36, 13, 14, 45] [2, 4] (fun z => ⟨(65, .lit (.bool z)) :: [(0, .str t), (2, .lptr 2 0), (3, .lit (.int .i64 0)), (4, .lptr 4 0), (5, .str ((cutA 60 t).1)), (6, .str ((cutA 60 t).2.1)), (7, .lit (.bool (t.contains 60))), (8, .lit (.int .i64 (((sigOf ((cutA 60 t).1)).toNat : Nat) : Int))), (9, .lit (.bool (decide (sigOf ((cutA 60 t).1) ≥ 0)))), (10, .str ((cutA 58 ((cutA 60 t).2.1)).1)), (11, .str ((cutA 58 ((cutA 60 t).2.1)).2.1)), (12, .lit (.bool ((cutA 58 (cutA 60 t).2.1).2.2))), (36, .lit (.bool ((cutA 58 (cutA 60 t).2.1).2.2))), (13, .str (Lib.trimSuffix (cutA 58 (cutA 60 t).2.1).1 [37])), (14, .lit (.bool (Lib.hasSuffix (cutA 58 (cutA 60 t).2.1).1 [37]))), (45, .lit (.bool (Lib.hasSuffix (cutA 58 (cutA 60 t).2.1).1 [37])))], [(2, [.lit (.int .i64 0), .lit (.int .i64 0), .lit (.int .i64 0), .lit (.bool false), .lit (.int .i64 0)]), (4, [.lit (.int .i64 (((sigOf ((cutA 60 t).1)).toNat : Nat) : Int)), .lit (.int .i64 (numT (Lib.trimSuffix (cutA 58 (cutA 60 t).2.1).1 [37]))), .lit (.int .i64 0), .lit (.bool ((cutA 58 (cutA 60 t).2.1).2.2)), .lit (.int .i64 (numT ((cutA 58 ((cutA 60 t).2.1)).2.1)))])], M⟩) (z := bif (!(t.contains 60)) then true else (bif (!(decide (sigOf ((cutA 60 t).1) ≥ 0))) then true else (!(decide (RightT ⟨(((sigOf ((cutA 60 t).1)).toNat : Nat) : Int), numT (Lib.trimSuffix (cutA 58 (cutA 60 t).2.1).1 [37]), 0, (cutA 58 (cutA 60 t).2.1).2.2, numT ((cutA 58 ((cutA 60 t).2.1)).2.1)⟩))))) ?_ ?_
      · skip
        refine AOps.read trivial rfl (by decide) (Reader.move (.inl rfl) (ok_const rfl) (v := .lit (.bool (t.contains 60))) rfl) ?_
        refine AOps.read trivial rfl (by decide) (Reader.not (b := t.contains 60) rfl rfl) ?_
        refine AOps.read trivial rfl (by decide) (Reader.move (.inl rfl) (ok_const rfl) (v := .lit (.bool (!(t.contains 60)))) rfl) ?_
        refine AOps.splitJ (t := 57) (b := !(t.contains 60)) (x := true) (y := (bif (!(decide (sigOf ((cutA 60 t).1) ≥ 0))) then true else (!(decide (RightT ⟨(((sigOf ((cutA 60 t).1)).toNat : Nat) : Int), numT (Lib.trimSuffix (cutA 58 (cutA 60 t).2.1).1 [37]), 0, (cutA 58 (cutA 60 t).2.1).2.2, numT ((cutA 58 ((cutA 60 t).2.1)).2.1)⟩))))) rfl (fun h3 => ?_) (fun h3 => ?_)
        · skip
          refine AOps.skip ⟨2, false, 57, _, rfl, rfl, rfl, by simp⟩ rfl (by decide) ?_
          refine AOps.skip ⟨2, false, 57, _, rfl, rfl, rfl, by simp⟩ rfl (by decide) ?_
          refine AOps.read trivial rfl (by decide) (Reader.pick rfl (b := true) rfl (ok_const rfl) (ok_const rfl) (v := .lit (.bool true)) rfl) ?_
          refine AOps.read trivial rfl (by decide) (Reader.move (.inl rfl) (ok_const rfl) (v := .lit (.bool true)) rfl) ?_
          refine AOps.skip ⟨6, false, 61, _, rfl, rfl, rfl, by simp⟩ rfl (by decide) ?_
          refine AOps.skip ⟨6, false, 61, _, rfl, rfl, rfl, by simp⟩ rfl (by decide) ?_
          refine AOps.skip ⟨6, false, 61, _, rfl, rfl, rfl, by simp⟩ rfl (by decide) ?_
          refine AOps.read trivial rfl (by decide) (Reader.pick rfl (b := true) rfl (ok_const rfl) (ok_const rfl) (v := .lit (.bool true)) rfl) ?_
          exact AOps.nil rfl
        · skip
          refine AOps.read ⟨57, rfl, rfl⟩ rfl (by decide) (Reader.move (.inl rfl) (ok_const rfl) (v := .lit (.bool (decide (sigOf ((cutA 60 t).1) ≥ 0)))) rfl) ?_
          refine AOps.read ⟨57, rfl, rfl⟩ rfl (by decide) (Reader.not (b := decide (sigOf ((cutA 60 t).1) ≥ 0)) rfl rfl) ?_
          refine AOps.read trivial rfl (by decide) (Reader.pick rfl (b := false) rfl (ok_const rfl) (ok_const rfl) (v := .lit (.bool (!(decide (sigOf ((cutA 60 t).1) ≥ 0))))) rfl) ?_
          refine AOps.read trivial rfl (by decide) (Reader.move (.inl rfl) (ok_const rfl) (v := .lit (.bool (!(decide (sigOf ((cutA 60 t).1) ≥ 0))))) rfl) ?_
          refine AOps.splitJ (t := 61) (b := !(decide (sigOf ((cutA 60 t).1) ≥ 0))) (x := true) (y := (!(decide (RightT ⟨(((sigOf ((cutA 60 t).1)).toNat : Nat) : Int), numT (Lib.trimSuffix (cutA 58 (cutA 60 t).2.1).1 [37]), 0, (cutA 58 (cutA 60 t).2.1).2.2, numT ((cutA 58 ((cutA 60 t).2.1)).2.1)⟩)))) rfl (fun h4 => ?_) (fun h4 => ?_)
          · skip
            refine AOps.skip ⟨6, false, 61, _, rfl, rfl, rfl, by simp⟩ rfl (by decide) ?_
            refine AOps.skip ⟨6, false, 61, _, rfl, rfl, rfl, by simp⟩ rfl (by decide) ?_
            refine AOps.skip ⟨6, false, 61, _, rfl, rfl, rfl, by simp⟩ rfl (by decide) ?_
            refine AOps.read trivial rfl (by decide) (Reader.pick rfl (b := true) rfl (ok_const rfl) (ok_const rfl) (v := .lit (.bool true)) rfl) ?_
            exact AOps.nil rfl
          · skip
            refine AOps.read ⟨61, rfl, rfl⟩ rfl (by decide) (Reader.loadL rfl Tryd.underlying65 sizeOf_65 rfl rfl (v := .agg [.lit (.int .i64 (((sigOf ((cutA 60 t).1)).toNat : Nat) : Int)), .lit (.int .i64 (numT (Lib.trimSuffix (cutA 58 (cutA 60 t).2.1).1 [37]))), .lit (.int .i64 0), .lit (.bool ((cutA 58 (cutA 60 t).2.1).2.2)), .lit (.int .i64 (numT ((cutA 58 ((cutA 60 t).2.1)).2.1)))]) rfl rfl) ?_
            refine AOps.call (args := [.agg [.lit (.int .i64 (((sigOf ((cutA 60 t).1)).toNat : Nat) : Int)), .lit (.int .i64 (numT (Lib.trimSuffix (cutA 58 (cutA 60 t).2.1).1 [37]))), .lit (.int .i64 0), .lit (.bool ((cutA 58 (cutA 60 t).2.1).2.2)), .lit (.int .i64 (numT ((cutA 58 ((cutA 60 t).2.1)).2.1)))]]) ⟨61, rfl, rfl⟩ rfl (by decide) rfl rfl Tryd.call36 (args_ok rfl) rfl (by intro j x v hx hv; match j, hx, hv with | 0, hx, hv => cases hx; cases hv; exact .inl ⟨rfl, rfl⟩ | _ + 1, hx, hv => cases hx) (Right_any ⟨(((sigOf ((cutA 60 t).1)).toNat : Nat) : Int), numT (Lib.trimSuffix (cutA 58 (cutA 60 t).2.1).1 [37]), 0, (cutA 58 (cutA 60 t).2.1).2.2, numT ((cutA 58 ((cutA 60 t).2.1)).2.1)⟩ M) ?_
            rintro _ _ ⟨rfl, rfl⟩
            refine AOps.read ⟨61, rfl, rfl⟩ rfl (by decide) (Reader.not (b := decide (RightT ⟨(((sigOf ((cutA 60 t).1)).toNat : Nat) : Int), numT (Lib.trimSuffix (cutA 58 (cutA 60 t).2.1).1 [37]), 0, (cutA 58 (cutA 60 t).2.1).2.2, numT ((cutA 58 ((cutA 60 t).2.1)).2.1)⟩)) rfl rfl) ?_
            refine AOps.read trivial rfl (by decide) (Reader.pick rfl (b := false) rfl (ok_const rfl) (ok_const rfl) (v := .lit (.bool (!(decide (RightT ⟨(((sigOf ((cutA 60 t).1)).toNat : Nat) : Int), numT (Lib.trimSuffix (cutA 58 (cutA 60 t).2.1).1 [37]), 0, (cutA 58 (cutA 60 t).2.1).2.2, numT ((cutA 58 ((cutA 60 t).2.1)).2.1)⟩))))) rfl) ?_
            exact AOps.nil rfl
      have hth := thr_of (t := t) (by assumption) (by assumption)
      refine AWp.cond (b := bif (!(t.contains 60)) then true else (bif (!(decide (sigOf ((cutA 60 t).1) ≥ 0))) then true else (!(decide (RightT ⟨(((sigOf ((cutA 60 t).1)).toNat : Nat) : Int), numT (Lib.trimSuffix (cutA 58 (cutA 60 t).2.1).1 [37]), 0, (cutA 58 (cutA 60 t).2.1).2.2, numT ((cutA 58 ((cutA 60 t).2.1)).2.1)⟩))))) rfl (fun h5 => ?_) (fun h5 => ?_)
      · skip
        have h5' : ¬ OkT t := (okt_no hth h5)
        clear h5
        refine AWp.seq (AWp.region ?_)
        refine AOps.read trivial rfl (by decide) (Reader.build (xs := []) (Es := []) (places := places_65) rfl Tryd.underlying65 (by refine ⟨rfl, fun j p x hp hx => ?_⟩; match j, hp, hx with | _ + 0, hp, hx => cases hp) zero_65 rfl places_65_ok (cs := [.lit (.int .i64 0), .lit (.int .i64 0), .lit (.int .i64 0), .lit (.bool false), .lit (.int .i64 0)]) rfl) ?_
        refine AOps.storeL trivial rfl rfl rfl rfl sizeOf_65 (.inl ⟨rfl, rfl⟩) rfl (v := .agg [.lit (.int .i64 0), .lit (.int .i64 0), .lit (.int .i64 0), .lit (.bool false), .lit (.int .i64 0)]) rfl (all_flat rfl) rfl (Nat.le_of_ble_eq_true rfl) ?_
        refine AOps.read trivial rfl (by decide) (Reader.move (.inr rfl) (ok_const rfl) (v := .lit (.int .i64 2)) rfl) ?_
        refine AOps.nil ?_
        refine AWp.ret ?_
        exact ⟨.inl rfl, _, ResOf.cellTmp 2 2 0 5 65 _ _ (.agg [.lit (.int .i64 0), .lit (.int .i64 0), .lit (.int .i64 0), .lit (.bool false), .lit (.int .i64 0)]) rfl rfl Tryd.underlying65 sizeOf_65 rfl (Eq.refl true) 3 (.lit (.int .i64 2)) rfl rfl, ⟨by rw [(th_no (by assumption)).1, (th_no (by assumption)).2]; rfl, rfl⟩⟩
      · skip
        have h5' : OkT t := (okt_yes hth h5)
        clear h5
        refine AWp.skip ?_
        refine AWp.seq (AWp.region ?_)
        refine AOps.read trivial rfl (by decide) (Reader.loadL rfl Tryd.underlying65 sizeOf_65 rfl rfl (v := .agg [.lit (.int .i64 (((sigOf ((cutA 60 t).1)).toNat : Nat) : Int)), .lit (.int .i64 (numT (Lib.trimSuffix (cutA 58 (cutA 60 t).2.1).1 [37]))), .lit (.int .i64 0), .lit (.bool ((cutA 58 (cutA 60 t).2.1).2.2)), .lit (.int .i64 (numT ((cutA 58 ((cutA 60 t).2.1)).2.1)))]) rfl rfl) ?_
        refine AOps.storeL trivial rfl rfl rfl rfl sizeOf_65 (.inl ⟨rfl, rfl⟩) rfl (v := .agg [.lit (.int .i64 (((sigOf ((cutA 60 t).1)).toNat : Nat) : Int)), .lit (.int .i64 (numT (Lib.trimSuffix (cutA 58 (cutA 60 t).2.1).1 [37]))), .lit (.int .i64 0), .lit (.bool ((cutA 58 (cutA 60 t).2.1).2.2)), .lit (.int .i64 (numT ((cutA 58 ((cutA 60 t).2.1)).2.1)))]) rfl (all_flat rfl) rfl (Nat.le_of_ble_eq_true rfl) ?_
        refine AOps.read trivial rfl (by decide) (Reader.move (.inr rfl) (ok_const rfl) (v := .lit (.int .i64 0)) rfl) ?_
        refine AOps.nil ?_
        refine AWp.ret ?_
        exact ⟨.inl rfl, _, ResOf.cellTmp 2 2 0 5 65 _ _ (.agg [.lit (.int .i64 (((sigOf ((cutA 60 t).1)).toNat : Nat) : Int)), .lit (.int .i64 (numT (Lib.trimSuffix (cutA 58 (cutA 60 t).2.1).1 [37]))), .lit (.int .i64 0), .lit (.bool ((cutA 58 (cutA 60 t).2.1).2.2)), .lit (.int .i64 (numT ((cutA 58 ((cutA 60 t).2.1)).2.1)))]) rfl rfl Tryd.underlying65 sizeOf_65 rfl (Eq.refl true) 3 (.lit (.int .i64 0)) rfl rfl, ⟨by rw [(th_ok (by assumption)).1, (th_ok (by assumption)).2, hth (okt_sig (by assumption))]; rfl, rfl⟩⟩
    · skip
      have h2' : Lib.hasSuffix (vlOf t) [37] = false := h2
      clear h2
      refine AWp.region ?_
      refine AOps.read trivial rfl (by decide) (Reader.move (.inl rfl) (ok_const rfl) (v := .str ((cutA 58 ((cutA 60 t).2.1)).1)) rfl) ?_
      refine AOps.call (args := [.str ((cutA 58 ((cutA 60 t).2.1)).1)]) trivial rfl (by decide) rfl rfl Tryd.call20 (args_ok rfl) rfl (by intro j x v hx hv; match j, hx, hv with | 0, hx, hv => cases hx; cases hv; exact .inl ⟨rfl, rfl⟩ | _ + 1, hx, hv => cases hx) (Read_any ((cutA 58 ((cutA 60 t).2.1)).1) (by first | assumption | omega | (simp only [List.length_append, List.length_cons, List.length_nil]; omega)) M) ?_
      rintro _ _ ⟨rfl, rfl⟩
      refine AOps.read trivial rfl (by decide) (Reader.move (.inl rfl) (ok_const rfl) (v := .tuple [.lit (.int .i64 ((qv ((cutA 58 ((cutA 60 t).2.1)).1) : Nat) : Int)), .lit (.int .i64 (qe ((cutA 58 ((cutA 60 t).2.1)).1)))]) rfl) ?_
      refine AOps.read trivial rfl (by decide) (Reader.extract (v := .lit (.int .i64 ((qv ((cutA 58 ((cutA 60 t).2.1)).1) : Nat) : Int))) rfl rfl rfl rfl) ?_
      refine AOps.read trivial rfl (by decide) (Reader.extract (v := .lit (.int .i64 (qe ((cutA 58 ((cutA 60 t).2.1)).1)))) rfl rfl rfl rfl) ?_
      refine AOps.read trivial rfl (by decide) (Reader.fieldL rfl ⟨_, _, Tryd.underlying65, rfl, rfl, rfl, sizeOf_3⟩ (by decide) rfl) ?_
      refine AOps.storeL trivial rfl rfl rfl rfl sizeOf_3 (.inl ⟨rfl, rfl⟩) rfl (v := .lit (.int .i64 ((qv ((cutA 58 ((cutA 60 t).2.1)).1) : Nat) : Int))) rfl (all_flat rfl) rfl (Nat.le_of_ble_eq_true rfl) ?_
      refine AOps.nil ?_
      refine AWp.seq ?_
      refine AWp.regionJ [65, 0, 2, 3, 4, 5, 6, 7, 8, 9, 10, 11, 12, 36, 13, 14, 45] [2, 4] (fun z => ⟨(65, .lit (.bool z)) :: [(0, .str t), (2, .lptr 2 0), (3, .lit (.int .i64 0)), (4, .lptr 4 0), (5, .str ((cutA 60 t).1)), (6, .str ((cutA 60 t).2.1)), (7, .lit (.bool (t.contains 60))), (8, .lit (.int .i64 (((sigOf ((cutA 60 t).1)).toNat : Nat) : Int))), (9, .lit (.bool (decide (sigOf ((cutA 60 t).1) ≥ 0)))), (10, .str ((cutA 58 ((cutA 60 t).2.1)).1)), (11, .str ((cutA 58 ((cutA 60 t).2.1)).2.1)), (12, .lit (.bool ((cutA 58 (cutA 60 t).2.1).2.2))), (36, .lit (.bool ((cutA 58 (cutA 60 t).2.1).2.2))), (13, .str (Lib.trimSuffix (cutA 58 (cutA 60 t).2.1).1 [37])), (14, .lit (.bool (Lib.hasSuffix (cutA 58 (cutA 60 t).2.1).1 [37]))), (45, .lit (.bool (Lib.hasSuffix (cutA 58 (cutA 60 t).2.1).1 [37])))], [(2, [.lit (.int .i64 0), .lit (.int .i64 0), .lit (.int .i64 0), .lit (.bool false), .lit (.int .i64 0)]), (4, [.lit (.int .i64 (((sigOf ((cutA 60 t).1)).toNat : Nat) : Int)), .lit (.int .i64 0), .lit (.int .i64 ((qv ((cutA 58 ((cutA 60 t).2.1)).1) : Nat) : Int)), .lit (.bool ((cutA 58 (cutA 60 t).2.1).2.2)), .lit (.int .i64 (numT ((cutA 58 ((cutA 60 t).2.1)).2.1)))])], M⟩) (z := bif (!(t.contains 60)) then true else (bif (!(decide (sigOf ((cutA 60 t).1) ≥ 0))) then true else (!(decide (RightT ⟨(((sigOf ((cutA 60 t).1)).toNat : Nat) : Int), 0, ((qv ((cutA 58 ((cutA 60 t).2.1)).1) : Nat) : Int), (cutA 58 (cutA 60 t).2.1).2.2, numT ((cutA 58 ((cutA 60 t).2.1)).2.1)⟩))))) ?_ ?_
      · skip
        refine AOps.read trivial rfl (by decide) (Reader.move (.inl rfl) (ok_const rfl) (v := .lit (.bool (t.contains 60))) rfl) ?_
        refine AOps.read trivial rfl (by decide) (Reader.not (b := t.contains 60) rfl rfl) ?_
        refine AOps.read trivial rfl (by decide) (Reader.move (.inl rfl) (ok_const rfl) (v := .lit (.bool (!(t.contains 60)))) rfl) ?_
        refine AOps.splitJ (t := 57) (b := !(t.contains 60)) (x := true) (y := (bif (!(decide (sigOf ((cutA 60 t).1) ≥ 0))) then true else (!(decide (RightT ⟨(((sigOf ((cutA 60 t).1)).toNat : Nat) : Int), 0, ((qv ((cutA 58 ((cutA 60 t).2.1)).1) : Nat) : Int), (cutA 58 (cutA 60 t).2.1).2.2, numT ((cutA 58 ((cutA 60 t).2.1)).2.1)⟩))))) rfl (fun h6 => ?_) (fun h6 => ?_)
        · skip
          refine AOps.skip ⟨2, false, 57, _, rfl, rfl, rfl, by simp⟩ rfl (by decide) ?_
          refine AOps.skip ⟨2, false, 57, _, rfl, rfl, rfl, by simp⟩ rfl (by decide) ?_
          refine AOps.read trivial rfl (by decide) (Reader.pick rfl (b := true) rfl (ok_const rfl) (ok_const rfl) (v := .lit (.bool true)) rfl) ?_
          refine AOps.read trivial rfl (by decide) (Reader.move (.inl rfl) (ok_const rfl) (v := .lit (.bool true)) rfl) ?_
          refine AOps.skip ⟨6, false, 61, _, rfl, rfl, rfl, by simp⟩ rfl (by decide) ?_
          refine AOps.skip ⟨6, false, 61, _, rfl, rfl, rfl, by simp⟩ rfl (by decide) ?_
          refine AOps.skip ⟨6, false, 61, _, rfl, rfl, rfl, by simp⟩ rfl (by decide) ?_
          refine AOps.read trivial rfl (by decide) (Reader.pick rfl (b := true) rfl (ok_const rfl) (ok_const rfl) (v := .lit (.bool true)) rfl) ?_
          exact AOps.nil rfl
        · skip
          refine AOps.read ⟨57, rfl, rfl⟩ rfl (by decide) (Reader.move (.inl rfl) (ok_const rfl) (v := .lit (.bool (decide (sigOf ((cutA 60 t).1) ≥ 0)))) rfl) ?_
          refine AOps.read ⟨57, rfl, rfl⟩ rfl (by decide) (Reader.not (b := decide (sigOf ((cutA 60 t).1) ≥ 0)) rfl rfl) ?_
          refine AOps.read trivial rfl (by decide) (Reader.pick rfl (b := false) rfl (ok_const rfl) (ok_const rfl) (v := .lit (.bool (!(decide (sigOf ((cutA 60 t).1) ≥ 0))))) rfl) ?_
          refine AOps.read trivial rfl (by decide) (Reader.move (.inl rfl) (ok_const rfl) (v := .lit (.bool (!(decide (sigOf ((cutA 60 t).1) ≥ 0))))) rfl) ?_
          refine AOps.splitJ (t := 61) (b := !(decide (sigOf ((cutA 60 t).1) ≥ 0))) (x := true) (y := (!(decide (RightT ⟨(((sigOf ((cutA 60 t).1)).toNat : Nat) : Int), 0, ((qv ((cutA 58 ((cutA 60 t).2.1)).1) : Nat) : Int), (cutA 58 (cutA 60 t).2.1).2.2, numT ((cutA 58 ((cutA 60 t).2.1)).2.1)⟩)))) rfl (fun h7 => ?_) (fun h7 => ?_)
          · skip
            refine AOps.skip ⟨6, false, 61, _, rfl, rfl, rfl, by simp⟩ rfl (by decide) ?_
            refine AOps.skip ⟨6, false, 61, _, rfl, rfl, rfl, by simp⟩ rfl (by decide) ?_
            refine AOps.skip ⟨6, false, 61, _, rfl, rfl, rfl, by simp⟩ rfl (by decide) ?_
            refine AOps.read trivial rfl (by decide) (Reader.pick rfl (b := true) rfl (ok_const rfl) (ok_const rfl) (v := .lit (.bool true)) rfl) ?_
            exact AOps.nil rfl
          · skip
            refine AOps.read ⟨61, rfl, rfl⟩ rfl (by decide) (Reader.loadL rfl Tryd.underlying65 sizeOf_65 rfl rfl (v := .agg [.lit (.int .i64 (((sigOf ((cutA 60 t).1)).toNat : Nat) : Int)), .lit (.int .i64 0), .lit (.int .i64 ((qv ((cutA 58 ((cutA 60 t).2.1)).1) : Nat) : Int)), .lit (.bool ((cutA 58 (cutA 60 t).2.1).2.2)), .lit (.int .i64 (numT ((cutA 58 ((cutA 60 t).2.1)).2.1)))]) rfl rfl) ?_
            refine AOps.call (args := [.agg [.lit (.int .i64 (((sigOf ((cutA 60 t).1)).toNat : Nat) : Int)), .lit (.int .i64 0), .lit (.int .i64 ((qv ((cutA 58 ((cutA 60 t).2.1)).1) : Nat) : Int)), .lit (.bool ((cutA 58 (cutA 60 t).2.1).2.2)), .lit (.int .i64 (numT ((cutA 58 ((cutA 60 t).2.1)).2.1)))]]) ⟨61, rfl, rfl⟩ rfl (by decide) rfl rfl Tryd.call36 (args_ok rfl) rfl (by intro j x v hx hv; match j, hx, hv with | 0, hx, hv => cases hx; cases hv; exact .inl ⟨rfl, rfl⟩ | _ + 1, hx, hv => cases hx) (Right_any ⟨(((sigOf ((cutA 60 t).1)).toNat : Nat) : Int), 0, ((qv ((cutA 58 ((cutA 60 t).2.1)).1) : Nat) : Int), (cutA 58 (cutA 60 t).2.1).2.2, numT ((cutA 58 ((cutA 60 t).2.1)).2.1)⟩ M) ?_
            rintro _ _ ⟨rfl, rfl⟩
            refine AOps.read ⟨61, rfl, rfl⟩ rfl (by decide) (Reader.not (b := decide (RightT ⟨(((sigOf ((cutA 60 t).1)).toNat : Nat) : Int), 0, ((qv ((cutA 58 ((cutA 60 t).2.1)).1) : Nat) : Int), (cutA 58 (cutA 60 t).2.1).2.2, numT ((cutA 58 ((cutA 60 t).2.1)).2.1)⟩)) rfl rfl) ?_
            refine AOps.read trivial rfl (by decide) (Reader.pick rfl (b := false) rfl (ok_const rfl) (ok_const rfl) (v := .lit (.bool (!(decide (RightT ⟨(((sigOf ((cutA 60 t).1)).toNat : Nat) : Int), 0, ((qv ((cutA 58 ((cutA 60 t).2.1)).1) : Nat) : Int), (cutA 58 (cutA 60 t).2.1).2.2, numT ((cutA 58 ((cutA 60 t).2.1)).2.1)⟩))))) rfl) ?_
            exact AOps.nil rfl
      have hth := thr_of (t := t) (by assumption) (by assumption)
      refine AWp.cond (b := bif (!(t.contains 60)) then true else (bif (!(decide (sigOf ((cutA 60 t).1) ≥ 0))) then true else (!(decide (RightT ⟨(((sigOf ((cutA 60 t).1)).toNat : Nat) : Int), 0, ((qv ((cutA 58 ((cutA 60 t).2.1)).1) : Nat) : Int), (cutA 58 (cutA 60 t).2.1).2.2, numT ((cutA 58 ((cutA 60 t).2.1)).2.1)⟩))))) rfl (fun h8 => ?_) (fun h8 => ?_)
      · skip
        have h8' : ¬ OkT t := (okt_no hth h8)
        clear h8
        refine AWp.seq (AWp.region ?_)
        refine AOps.read trivial rfl (by decide) (Reader.build (xs := []) (Es := []) (places := places_65) rfl Tryd.underlying65 (by refine ⟨rfl, fun j p x hp hx => ?_⟩; match j, hp, hx with | _ + 0, hp, hx => cases hp) zero_65 rfl places_65_ok (cs := [.lit (.int .i64 0), .lit (.int .i64 0), .lit (.int .i64 0), .lit (.bool false), .lit (.int .i64 0)]) rfl) ?_
        refine AOps.storeL trivial rfl rfl rfl rfl sizeOf_65 (.inl ⟨rfl, rfl⟩) rfl (v := .agg [.lit (.int .i64 0), .lit (.int .i64 0), .lit (.int .i64 0), .lit (.bool false), .lit (.int .i64 0)]) rfl (all_flat rfl) rfl (Nat.le_of_ble_eq_true rfl) ?_
        refine AOps.read trivial rfl (by decide) (Reader.move (.inr rfl) (ok_const rfl) (v := .lit (.int .i64 2)) rfl) ?_
        refine AOps.nil ?_
        refine AWp.ret ?_
        exact ⟨.inl rfl, _, ResOf.cellTmp 2 2 0 5 65 _ _ (.agg [.lit (.int .i64 0), .lit (.int .i64 0), .lit (.int .i64 0), .lit (.bool false), .lit (.int .i64 0)]) rfl rfl Tryd.underlying65 sizeOf_65 rfl (Eq.refl true) 3 (.lit (.int .i64 2)) rfl rfl, ⟨by rw [(th_no (by assumption)).1, (th_no (by assumption)).2]; rfl, rfl⟩⟩
      · skip
        have h8' : OkT t := (okt_yes hth h8)
        clear h8
        refine AWp.skip ?_
        refine AWp.seq (AWp.region ?_)
        refine AOps.read trivial rfl (by decide) (Reader.loadL rfl Tryd.underlying65 sizeOf_65 rfl rfl (v := .agg [.lit (.int .i64 (((sigOf ((cutA 60 t).1)).toNat : Nat) : Int)), .lit (.int .i64 0), .lit (.int .i64 ((qv ((cutA 58 ((cutA 60 t).2.1)).1) : Nat) : Int)), .lit (.bool ((cutA 58 (cutA 60 t).2.1).2.2)), .lit (.int .i64 (numT ((cutA 58 ((cutA 60 t).2.1)).2.1)))]) rfl rfl) ?_
        refine AOps.storeL trivial rfl rfl rfl rfl sizeOf_65 (.inl ⟨rfl, rfl⟩) rfl (v := .agg [.lit (.int .i64 (((sigOf ((cutA 60 t).1)).toNat : Nat) : Int)), .lit (.int .i64 0), .lit (.int .i64 ((qv ((cutA 58 ((cutA 60 t).2.1)).1) : Nat) : Int)), .lit (.bool ((cutA 58 (cutA 60 t).2.1).2.2)), .lit (.int .i64 (numT ((cutA 58 ((cutA 60 t).2.1)).2.1)))]) rfl (all_flat rfl) rfl (Nat.le_of_ble_eq_true rfl) ?_
        refine AOps.read trivial rfl (by decide) (Reader.move (.inr rfl) (ok_const rfl) (v := .lit (.int .i64 0)) rfl) ?_
        refine AOps.nil ?_
        refine AWp.ret ?_
        exact ⟨.inl rfl, _, ResOf.cellTmp 2 2 0 5 65 _ _ (.agg [.lit (.int .i64 (((sigOf ((cutA 60 t).1)).toNat : Nat) : Int)), .lit (.int .i64 0), .lit (.int .i64 ((qv ((cutA 58 ((cutA 60 t).2.1)).1) : Nat) : Int)), .lit (.bool ((cutA 58 (cutA 60 t).2.1).2.2)), .lit (.int .i64 (numT ((cutA 58 ((cutA 60 t).2.1)).2.1)))]) rfl rfl Tryd.underlying65 sizeOf_65 rfl (Eq.refl true) 3 (.lit (.int .i64 0)) rfl rfl, ⟨by rw [(th_ok (by assumption)).1, (th_ok (by assumption)).2, hth (okt_sig (by assumption))]; rfl, rfl⟩⟩
  · skip
    have h1' : sfOf t = false := h1
    clear h1
    refine AWp.skip ?_
    refine AWp.seq ?_
    refine AWp.seq (AWp.region ?_)
    refine AOps.read trivial rfl (by decide) (Reader.move (.inl rfl) (ok_const rfl) (v := .str ((cutA 58 ((cutA 60 t).2.1)).1)) rfl) ?_
    refine AOps.call (args := [.str ((cutA 58 ((cutA 60 t).2.1)).1), .str [37]]) trivial rfl (by decide) rfl rfl Tryd.call64 (args_ok rfl) rfl (by intro j x v hx hv; match j, hx, hv with | 0, hx, hv => cases hx; cases hv; exact .inl ⟨rfl, rfl⟩ | 1, hx, hv => cases hx; cases hv; exact .inl ⟨rfl, rfl⟩ | _ + 2, hx, hv => cases hx) (suf_any [37] ((cutA 58 ((cutA 60 t).2.1)).1) (by omega) M) ?_
    rintro _ _ ⟨rfl, rfl⟩
    refine AOps.read trivial rfl (by decide) (Reader.move (.inl rfl) (ok_const rfl) (v := .tuple [.str (Lib.trimSuffix (cutA 58 (cutA 60 t).2.1).1 [37]), .lit (.bool (Lib.hasSuffix (cutA 58 (cutA 60 t).2.1).1 [37]))]) rfl) ?_
    refine AOps.read trivial rfl (by decide) (Reader.extract (v := .str (Lib.trimSuffix (cutA 58 (cutA 60 t).2.1).1 [37])) rfl rfl rfl rfl) ?_
    refine AOps.read trivial rfl (by decide) (Reader.extract (v := .lit (.bool (Lib.hasSuffix (cutA 58 (cutA 60 t).2.1).1 [37]))) rfl rfl rfl rfl) ?_
    refine AOps.read trivial rfl (by decide) (Reader.move (.inr rfl) (ok_const rfl) (v := .str (Lib.trimSuffix (cutA 58 (cutA 60 t).2.1).1 [37])) rfl) ?_
    refine AOps.read trivial rfl (by decide) (Reader.move (.inr rfl) (ok_const rfl) (v := .lit (.bool (Lib.hasSuffix (cutA 58 (cutA 60 t).2.1).1 [37]))) rfl) ?_
    refine AOps.nil ?_
    refine AWp.seq (AWp.region ?_)
    refine AOps.read trivial rfl (by decide) (Reader.move (.inl rfl) (ok_const rfl) (v := .lit (.bool (Lib.hasSuffix (cutA 58 (cutA 60 t).2.1).1 [37]))) rfl) ?_
    refine AOps.nil ?_
    refine AWp.cond (b := Lib.hasSuffix (cutA 58 (cutA 60 t).2.1).1 [37]) rfl (fun h9 => ?_) (fun h9 => ?_)
    · skip
      have h9' : Lib.hasSuffix (vlOf t) [37] = true := h9
      clear h9
      refine AWp.region ?_
      refine AOps.read trivial rfl (by decide) (Reader.move (.inl rfl) (ok_const rfl) (v := .str (Lib.trimSuffix (cutA 58 (cutA 60 t).2.1).1 [37])) rfl) ?_
      refine AOps.call (args := [.str (Lib.trimSuffix (cutA 58 (cutA 60 t).2.1).1 [37])]) trivial rfl (by decide) rfl rfl Tryd.call63 (args_ok rfl) rfl (by intro j x v hx hv; match j, hx, hv with | 0, hx, hv => cases hx; cases hv; exact .inl ⟨rfl, rfl⟩ | _ + 1, hx, hv => cases hx) (tnum_any (Lib.trimSuffix (cutA 58 (cutA 60 t).2.1).1 [37]) (by first | omega | (simp only [List.length_append, List.length_cons, List.length_nil]; omega)) M) ?_
      rintro _ _ ⟨rfl, rfl⟩
      refine AOps.read trivial rfl (by decide) (Reader.fieldL rfl ⟨_, _, Tryd.underlying65, rfl, rfl, rfl, sizeOf_3⟩ (by decide) rfl) ?_
      refine AOps.storeL trivial rfl rfl rfl rfl sizeOf_3 (.inl ⟨rfl, rfl⟩) rfl (v := .lit (.int .i64 (numT (Lib.trimSuffix (cutA 58 (cutA 60 t).2.1).1 [37])))) rfl (all_flat rfl) rfl (Nat.le_of_ble_eq_true rfl) ?_
      refine AOps.nil ?_
      refine AWp.seq ?_
      refine AWp.regionJ [65, 0, 2, 3, 4, 5, 6, 7, 8, 9, 10, 11, 12, 36, 13, 14, 45] [2, 4] (fun z => ⟨(65, .lit (.bool z)) :: [(0, .str t), (2, .lptr 2 0), (3, .lit (.int .i64 0)), (4, .lptr 4 0), (5, .str ((cutA 60 t).1)), (6, .str ((cutA 60 t).2.1)), (7, .lit (.bool (t.contains 60))), (8, .lit (.int .i64 (((sigOf ((cutA 60 t).1)).toNat : Nat) : Int))), (9, .lit (.bool (decide (sigOf ((cutA 60 t).1) ≥ 0)))), (10, .str ((cutA 58 ((cutA 60 t).2.1)).1)), (11, .str ((cutA 58 ((cutA 60 t).2.1)).2.1)), (12, .lit (.bool ((cutA 58 (cutA 60 t).2.1).2.2))), (36, .lit (.bool ((cutA 58 (cutA 60 t).2.1).2.2))), (13, .str (Lib.trimSuffix (cutA 58 (cutA 60 t).2.1).1 [37])), (14, .lit (.bool (Lib.hasSuffix (cutA 58 (cutA 60 t).2.1).1 [37]))), (45, .lit (.bool (Lib.hasSuffix (cutA 58 (cutA 60 t).2.1).1 [37])))], [(2, [.lit (.int .i64 0), .lit (.int .i64 0), .lit (.int .i64 0), .lit (.bool false), .lit (.int .i64 0)]), (4, [.lit (.int .i64 (((sigOf ((cutA 60 t).1)).toNat : Nat) : Int)), .lit (.int .i64 (numT (Lib.trimSuffix (cutA 58 (cutA 60 t).2.1).1 [37]))), .lit (.int .i64 0), .lit (.bool ((cutA 58 (cutA 60 t).2.1).2.2)), .lit (.int .i64 0)])], M⟩) (z := bif (!(t.contains 60)) then true else (bif (!(decide (sigOf ((cutA 60 t).1) ≥ 0))) then true else (!(decide (RightT ⟨(((sigOf ((cutA 60 t).1)).toNat : Nat) : Int), numT (Lib.trimSuffix (cutA 58 (cutA 60 t).2.1).1 [37]), 0, (cutA 58 (cutA 60 t).2.1).2.2, 0⟩))))) ?_ ?_
      · skip
        refine AOps.read trivial rfl (by decide) (Reader.move (.inl rfl) (ok_const rfl) (v := .lit (.bool (t.contains 60))) rfl) ?_
        refine AOps.read trivial rfl (by decide) (Reader.not (b := t.contains 60) rfl rfl) ?_
        refine AOps.read trivial rfl (by decide) (Reader.move (.inl rfl) (ok_const rfl) (v := .lit (.bool (!(t.contains 60)))) rfl) ?_
        refine AOps.splitJ (t := 57) (b := !(t.contains 60)) (x := true) (y := (bif (!(decide (sigOf ((cutA 60 t).1) ≥ 0))) then true else (!(decide (RightT ⟨(((sigOf ((cutA 60 t).1)).toNat : Nat) : Int), numT (Lib.trimSuffix (cutA 58 (cutA 60 t).2.1).1 [37]), 0, (cutA 58 (cutA 60 t).2.1).2.2, 0⟩))))) rfl (fun h10 => ?_) (fun h10 => ?_)
        · skip
          refine AOps.skip ⟨2, false, 57, _, rfl, rfl, rfl, by simp⟩ rfl (by decide) ?_
          refine AOps.skip ⟨2, false, 57, _, rfl, rfl, rfl, by simp⟩ rfl (by decide) ?_
          refine AOps.read trivial rfl (by decide) (Reader.pick rfl (b := true) rfl (ok_const rfl) (ok_const rfl) (v := .lit (.bool true)) rfl) ?_
          refine AOps.read trivial rfl (by decide) (Reader.move (.inl rfl) (ok_const rfl) (v := .lit (.bool true)) rfl) ?_
          refine AOps.skip ⟨6, false, 61, _, rfl, rfl, rfl, by simp⟩ rfl (by decide) ?_
          refine AOps.skip ⟨6, false, 61, _, rfl, rfl, rfl, by simp⟩ rfl (by decide) ?_
          refine AOps.skip ⟨6, false, 61, _, rfl, rfl, rfl, by simp⟩ rfl (by decide) ?_
          refine AOps.read trivial rfl (by decide) (Reader.pick rfl (b := true) rfl (ok_const rfl) (ok_const rfl) (v := .lit (.bool true)) rfl) ?_
          exact AOps.nil rfl
        · skip
          refine AOps.read ⟨57, rfl, rfl⟩ rfl (by decide) (Reader.move (.inl rfl) (ok_const rfl) (v := .lit (.bool (decide (sigOf ((cutA 60 t).1) ≥ 0)))) rfl) ?_
          refine AOps.read ⟨57, rfl, rfl⟩ rfl (by decide) (Reader.not (b := decide (sigOf ((cutA 60 t).1) ≥ 0)) rfl rfl) ?_
          refine AOps.read trivial rfl (by decide) (Reader.pick rfl (b := false) rfl (ok_const rfl) (ok_const rfl) (v := .lit (.bool (!(decide (sigOf ((cutA 60 t).1) ≥ 0))))) rfl) ?_
          refine AOps.read trivial rfl (by decide) (Reader.move (.inl rfl) (ok_const rfl) (v := .lit (.bool (!(decide (sigOf ((cutA 60 t).1) ≥ 0))))) rfl) ?_
          refine AOps.splitJ (t := 61) (b := !(decide (sigOf ((cutA 60 t).1) ≥ 0))) (x := true) (y := (!(decide (RightT ⟨(((sigOf ((cutA 60 t).1)).toNat : Nat) : Int), numT (Lib.trimSuffix (cutA 58 (cutA 60 t).2.1).1 [37]), 0, (cutA 58 (cutA 60 t).2.1).2.2, 0⟩)))) rfl (fun h11 => ?_) (fun h11 => ?_)
          · skip
            refine AOps.skip ⟨6, false, 61, _, rfl, rfl, rfl, by simp⟩ rfl (by decide) ?_
            refine AOps.skip ⟨6, false, 61, _, rfl, rfl, rfl, by simp⟩ rfl (by decide) ?_
            refine AOps.skip ⟨6, false, 61, _, rfl, rfl, rfl, by simp⟩ rfl (by decide) ?_
            refine AOps.read trivial rfl (by decide) (Reader.pick rfl (b := true) rfl (ok_const rfl) (ok_const rfl) (v := .lit (.bool true)) rfl) ?_
            exact AOps.nil rfl
          · skip
            refine AOps.read ⟨61, rfl, rfl⟩ rfl (by decide) (Reader.loadL rfl Tryd.underlying65 sizeOf_65 rfl rfl (v := .agg [.lit (.int .i64 (((sigOf ((cutA 60 t).1)).toNat : Nat) : Int)), .lit (.int .i64 (numT (Lib.trimSuffix (cutA 58 (cutA 60 t).2.1).1 [37]))), .lit (.int .i64 0), .lit (.bool ((cutA 58 (cutA 60 t).2.1).2.2)), .lit (.int .i64 0)]) rfl rfl) ?_
            refine AOps.call (args := [.agg [.lit (.int .i64 (((sigOf ((cutA 60 t).1)).toNat : Nat) : Int)), .lit (.int .i64 (numT (Lib.trimSuffix (cutA 58 (cutA 60 t).2.1).1 [37]))), .lit (.int .i64 0), .lit (.bool ((cutA 58 (cutA 60 t).2.1).2.2)), .lit (.int .i64 0)]]) ⟨61, rfl, rfl⟩ rfl (by decide) rfl rfl Tryd.call36 (args_ok rfl) rfl (by intro j x v hx hv; match j, hx, hv with | 0, hx, hv => cases hx; cases hv; exact .inl ⟨rfl, rfl⟩ | _ + 1, hx, hv => cases hx) (Right_any ⟨(((sigOf ((cutA 60 t).1)).toNat : Nat) : Int), numT (Lib.trimSuffix (cutA 58 (cutA 60 t).2.1).1 [37]), 0, (cutA 58 (cutA 60 t).2.1).2.2, 0⟩ M) ?_
            rintro _ _ ⟨rfl, rfl⟩
            refine AOps.read ⟨61, rfl, rfl⟩ rfl (by decide) (Reader.not (b := decide (RightT ⟨(((sigOf ((cutA 60 t).1)).toNat : Nat) : Int), numT (Lib.trimSuffix (cutA 58 (cutA 60 t).2.1).1 [37]), 0, (cutA 58 (cutA 60 t).2.1).2.2, 0⟩)) rfl rfl) ?_
            refine AOps.read trivial rfl (by decide) (Reader.pick rfl (b := false) rfl (ok_const rfl) (ok_const rfl) (v := .lit (.bool (!(decide (RightT ⟨(((sigOf ((cutA 60 t).1)).toNat : Nat) : Int), numT (Lib.trimSuffix (cutA 58 (cutA 60 t).2.1).1 [37]), 0, (cutA 58 (cutA 60 t).2.1).2.2, 0⟩))))) rfl) ?_
            exact AOps.nil rfl
      have hth := thr_of (t := t) (by assumption) (by assumption)
      refine AWp.cond (b := bif (!(t.contains 60)) then true else (bif (!(decide (sigOf ((cutA 60 t).1) ≥ 0))) then true else (!(decide (RightT ⟨(((sigOf ((cutA 60 t).1)).toNat : Nat) : Int), numT (Lib.trimSuffix (cutA 58 (cutA 60 t).2.1).1 [37]), 0, (cutA 58 (cutA 60 t).2.1).2.2, 0⟩))))) rfl (fun h12 => ?_) (fun h12 => ?_)
      · skip
        have h12' : ¬ OkT t := (okt_no hth h12)
        clear h12
        refine AWp.seq (AWp.region ?_)
        refine AOps.read trivial rfl (by decide) (Reader.build (xs := []) (Es := []) (places := places_65) rfl Tryd.underlying65 (by refine ⟨rfl, fun j p x hp hx => ?_⟩; match j, hp, hx with | _ + 0, hp, hx => cases hp) zero_65 rfl places_65_ok (cs := [.lit (.int .i64 0), .lit (.int .i64 0), .lit (.int .i64 0), .lit (.bool false), .lit (.int .i64 0)]) rfl) ?_
        refine AOps.storeL trivial rfl rfl rfl rfl sizeOf_65 (.inl ⟨rfl, rfl⟩) rfl (v := .agg [.lit (.int .i64 0), .lit (.int .i64 0), .lit (.int .i64 0), .lit (.bool false), .lit (.int .i64 0)]) rfl (all_flat rfl) rfl (Nat.le_of_ble_eq_true rfl) ?_
        refine AOps.read trivial rfl (by decide) (Reader.move (.inr rfl) (ok_const rfl) (v := .lit (.int .i64 2)) rfl) ?_
        refine AOps.nil ?_
        refine AWp.ret ?_
        exact ⟨.inl rfl, _, ResOf.cellTmp 2 2 0 5 65 _ _ (.agg [.lit (.int .i64 0), .lit (.int .i64 0), .lit (.int .i64 0), .lit (.bool false), .lit (.int .i64 0)]) rfl rfl Tryd.underlying65 sizeOf_65 rfl (Eq.refl true) 3 (.lit (.int .i64 2)) rfl rfl, ⟨by rw [(th_no (by assumption)).1, (th_no (by assumption)).2]; rfl, rfl⟩⟩
      · skip
        have h12' : OkT t := (okt_yes hth h12)
        clear h12
        refine AWp.skip ?_
        refine AWp.seq (AWp.region ?_)
        refine AOps.read trivial rfl (by decide) (Reader.loadL rfl Tryd.underlying65 sizeOf_65 rfl rfl (v := .agg [.lit (.int .i64 (((sigOf ((cutA 60 t).1)).toNat : Nat) : Int)), .lit (.int .i64 (numT (Lib.trimSuffix (cutA 58 (cutA 60 t).2.1).1 [37]))), .lit (.int .i64 0), .lit (.bool ((cutA 58 (cutA 60 t).2.1).2.2)), .lit (.int .i64 0)]) rfl rfl) ?_
        refine AOps.storeL trivial rfl rfl rfl rfl sizeOf_65 (.inl ⟨rfl, rfl⟩) rfl (v := .agg [.lit (.int .i64 (((sigOf ((cutA 60 t).1)).toNat : Nat) : Int)), .lit (.int .i64 (numT (Lib.trimSuffix (cutA 58 (cutA 60 t).2.1).1 [37]))), .lit (.int .i64 0), .lit (.bool ((cutA 58 (cutA 60 t).2.1).2.2)), .lit (.int .i64 0)]) rfl (all_flat rfl) rfl (Nat.le_of_ble_eq_true rfl) ?_
        refine AOps.read trivial rfl (by decide) (Reader.move (.inr rfl) (ok_const rfl) (v := .lit (.int .i64 0)) rfl) ?_
        refine AOps.nil ?_
        refine AWp.ret ?_
        exact ⟨.inl rfl, _, ResOf.cellTmp 2 2 0 5 65 _ _ (.agg [.lit (.int .i64 (((sigOf ((cutA 60 t).1)).toNat : Nat) : Int)), .lit (.int .i64 (numT (Lib.trimSuffix (cutA 58 (cutA 60 t).2.1).1 [37]))), .lit (.int .i64 0), .lit (.bool ((cutA 58 (cutA 60 t).2.1).2.2)), .lit (.int .i64 0)]) rfl rfl Tryd.underlying65 sizeOf_65 rfl (Eq.refl true) 3 (.lit (.int .i64 0)) rfl rfl, ⟨by rw [(th_ok (by assumption)).1, (th_ok (by assumption)).2, hth (okt_sig (by assumption))]; rfl, rfl⟩⟩
    · skip
      have h9' : Lib.hasSuffix (vlOf t) [37] = false := h9
      clear h9
      refine AWp.region ?_
      refine AOps.read trivial rfl (by decide) (Reader.move (.inl rfl) (ok_const rfl) (v := .str ((cutA 58 ((cutA 60 t).2.1)).1)) rfl) ?_
      refine AOps.call (args := [.str ((cutA 58 ((cutA 60 t).2.1)).1)]) trivial rfl (by decide) rfl rfl Tryd.call20 (args_ok rfl) rfl (by intro j x v hx hv; match j, hx, hv with | 0, hx, hv => cases hx; cases hv; exact .inl ⟨rfl, rfl⟩ | _ + 1, hx, hv => cases hx) (Read_any ((cutA 58 ((cutA 60 t).2.1)).1) (by first | assumption | omega | (simp only [List.length_append, List.length_cons, List.length_nil]; omega)) M) ?_
      rintro _ _ ⟨rfl, rfl⟩
      refine AOps.read trivial rfl (by decide) (Reader.move (.inl rfl) (ok_const rfl) (v := .tuple [.lit (.int .i64 ((qv ((cutA 58 ((cutA 60 t).2.1)).1) : Nat) : Int)), .lit (.int .i64 (qe ((cutA 58 ((cutA 60 t).2.1)).1)))]) rfl) ?_
      refine AOps.read trivial rfl (by decide) (Reader.extract (v := .lit (.int .i64 ((qv ((cutA 58 ((cutA 60 t).2.1)).1) : Nat) : Int))) rfl rfl rfl rfl) ?_
      refine AOps.read trivial rfl (by decide) (Reader.extract (v := .lit (.int .i64 (qe ((cutA 58 ((cutA 60 t).2.1)).1)))) rfl rfl rfl rfl) ?_
      refine AOps.read trivial rfl (by decide) (Reader.fieldL rfl ⟨_, _, Tryd.underlying65, rfl, rfl, rfl, sizeOf_3⟩ (by decide) rfl) ?_
      refine AOps.storeL trivial rfl rfl rfl rfl sizeOf_3 (.inl ⟨rfl, rfl⟩) rfl (v := .lit (.int .i64 ((qv ((cutA 58 ((cutA 60 t).2.1)).1) : Nat) : Int))) rfl (all_flat rfl) rfl (Nat.le_of_ble_eq_true rfl) ?_
      refine AOps.nil ?_
      refine AWp.seq ?_
      refine AWp.regionJ [65, 0, 2, 3, 4, 5, 6, 7, 8, 9, 10, 11, 12, 36, 13, 14, 45] [2, 4] (fun z => ⟨(65, .lit (.bool z)) :: [(0, .str t), (2, .lptr 2 0), (3, .lit (.int .i64 0)), (4, .lptr 4 0), (5, .str ((cutA 60 t).1)), (6, .str ((cutA 60 t).2.1)), (7, .lit (.bool (t.contains 60))), (8, .lit (.int .i64 (((sigOf ((cutA 60 t).1)).toNat : Nat) : Int))), (9, .lit (.bool (decide (sigOf ((cutA 60 t).1) ≥ 0)))), (10, .str ((cutA 58 ((cutA 60 t).2.1)).1)), (11, .str ((cutA 58 ((cutA 60 t).2.1)).2.1)), (12, .lit (.bool ((cutA 58 (cutA 60 t).2.1).2.2))), (36, .lit (.bool ((cutA 58 (cutA 60 t).2.1).2.2))), (13, .str (Lib.trimSuffix (cutA 58 (cutA 60 t).2.1).1 [37])), (14, .lit (.bool (Lib.hasSuffix (cutA 58 (cutA 60 t).2.1).1 [37]))), (45, .lit (.bool (Lib.hasSuffix (cutA 58 (cutA 60 t).2.1).1 [37])))], [(2, [.lit (.int .i64 0), .lit (.int .i64 0), .lit (.int .i64 0), .lit (.bool false), .lit (.int .i64 0)]), (4, [.lit (.int .i64 (((sigOf ((cutA 60 t).1)).toNat : Nat) : Int)), .lit (.int .i64 0), .lit (.int .i64 ((qv ((cutA 58 ((cutA 60 t).2.1)).1) : Nat) : Int)), .lit (.bool ((cutA 58 (cutA 60 t).2.1).2.2)), .lit (.int .i64 0)])], M⟩) (z := bif (!(t.contains 60)) then true else (bif (!(decide (sigOf ((cutA 60 t).1) ≥ 0))) then true else (!(decide (RightT ⟨(((sigOf ((cutA 60 t).1)).toNat : Nat) : Int), 0, ((qv ((cutA 58 ((cutA 60 t).2.1)).1) : Nat) : Int), (cutA 58 (cutA 60 t).2.1).2.2, 0⟩))))) ?_ ?_
      · skip
        refine AOps.read trivial rfl (by decide) (Reader.move (.inl rfl) (ok_const rfl) (v := .lit (.bool (t.contains 60))) rfl) ?_
        refine AOps.read trivial rfl (by decide) (Reader.not (b := t.contains 60) rfl rfl) ?_
        refine AOps.read trivial rfl (by decide) (Reader.move (.inl rfl) (ok_const rfl) (v := .lit (.bool (!(t.contains 60)))) rfl) ?_
        refine AOps.splitJ (t := 57) (b := !(t.contains 60)) (x := true) (y := (bif (!(decide (sigOf ((cutA 60 t).1) ≥ 0))) then true else (!(decide (RightT ⟨(((sigOf ((cutA 60 t).1)).toNat : Nat) : Int), 0, ((qv ((cutA 58 ((cutA 60 t).2.1)).1) : Nat) : Int), (cutA 58 (cutA 60 t).2.1).2.2, 0⟩))))) rfl (fun h13 => ?_) (fun h13 => ?_)
        · skip
          refine AOps.skip ⟨2, false, 57, _, rfl, rfl, rfl, by simp⟩ rfl (by decide) ?_
          refine AOps.skip ⟨2, false, 57, _, rfl, rfl, rfl, by simp⟩ rfl (by decide) ?_
          refine AOps.read trivial rfl (by decide) (Reader.pick rfl (b := true) rfl (ok_const rfl) (ok_const rfl) (v := .lit (.bool true)) rfl) ?_
          refine AOps.read trivial rfl (by decide) (Reader.move (.inl rfl) (ok_const rfl) (v := .lit (.bool true)) rfl) ?_
          refine AOps.skip ⟨6, false, 61, _, rfl, rfl, rfl, by simp⟩ rfl (by decide) ?_
          refine AOps.skip ⟨6, false, 61, _, rfl, rfl, rfl, by simp⟩ rfl (by decide) ?_
          refine AOps.skip ⟨6, false, 61, _, rfl, rfl, rfl, by simp⟩ rfl (by decide) ?_
          refine AOps.read trivial rfl (by decide) (Reader.pick rfl (b := true) rfl (ok_const rfl) (ok_const rfl) (v := .lit (.bool true)) rfl) ?_
          exact AOps.nil rfl
        · skip
          refine AOps.read ⟨57, rfl, rfl⟩ rfl (by decide) (Reader.move (.inl rfl) (ok_const rfl) (v := .lit (.bool (decide (sigOf ((cutA 60 t).1) ≥ 0)))) rfl) ?_
          refine AOps.read ⟨57, rfl, rfl⟩ rfl (by decide) (Reader.not (b := decide (sigOf ((cutA 60 t).1) ≥ 0)) rfl rfl) ?_
          refine AOps.read trivial rfl (by decide) (Reader.pick rfl (b := false) rfl (ok_const rfl) (ok_const rfl) (v := .lit (.bool (!(decide (sigOf ((cutA 60 t).1) ≥ 0))))) rfl) ?_
          refine AOps.read trivial rfl (by decide) (Reader.move (.inl rfl) (ok_const rfl) (v := .lit (.bool (!(decide (sigOf ((cutA 60 t).1) ≥ 0))))) rfl) ?_
          refine AOps.splitJ (t := 61) (b := !(decide (sigOf ((cutA 60 t).1) ≥ 0))) (x := true) (y := (!(decide (RightT ⟨(((sigOf ((cutA 60 t).1)).toNat : Nat) : Int), 0, ((qv ((cutA 58 ((cutA 60 t).2.1)).1) : Nat) : Int), (cutA 58 (cutA 60 t).2.1).2.2, 0⟩)))) rfl (fun h14 => ?_) (fun h14 => ?_)
          · skip
            refine AOps.skip ⟨6, false, 61, _, rfl, rfl, rfl, by simp⟩ rfl (by decide) ?_
            refine AOps.skip ⟨6, false, 61, _, rfl, rfl, rfl, by simp⟩ rfl (by decide) ?_
            refine AOps.skip ⟨6, false, 61, _, rfl, rfl, rfl, by simp⟩ rfl (by decide) ?_
            refine AOps.read trivial rfl (by decide) (Reader.pick rfl (b := true) rfl (ok_const rfl) (ok_const rfl) (v := .lit (.bool true)) rfl) ?_
            exact AOps.nil rfl
          · skip
            refine AOps.read ⟨61, rfl, rfl⟩ rfl (by decide) (Reader.loadL rfl Tryd.underlying65 sizeOf_65 rfl rfl (v := .agg [.lit (.int .i64 (((sigOf ((cutA 60 t).1)).toNat : Nat) : Int)), .lit (.int .i64 0), .lit (.int .i64 ((qv ((cutA 58 ((cutA 60 t).2.1)).1) : Nat) : Int)), .lit (.bool ((cutA 58 (cutA 60 t).2.1).2.2)), .lit (.int .i64 0)]) rfl rfl) ?_
            refine AOps.call (args := [.agg [.lit (.int .i64 (((sigOf ((cutA 60 t).1)).toNat : Nat) : Int)), .lit (.int .i64 0), .lit (.int .i64 ((qv ((cutA 58 ((cutA 60 t).2.1)).1) : Nat) : Int)), .lit (.bool ((cutA 58 (cutA 60 t).2.1).2.2)), .lit (.int .i64 0)]]) ⟨61, rfl, rfl⟩ rfl (by decide) rfl rfl Tryd.call36 (args_ok rfl) rfl (by intro j x v hx hv; match j, hx, hv with | 0, hx, hv => cases hx; cases hv; exact .inl ⟨rfl, rfl⟩ | _ + 1, hx, hv => cases hx) (Right_any ⟨(((sigOf ((cutA 60 t).1)).toNat : Nat) : Int), 0, ((qv ((cutA 58 ((cutA 60 t).2.1)).1) : Nat) : Int), (cutA 58 (cutA 60 t).2.1).2.2, 0⟩ M) ?_
            rintro _ _ ⟨rfl, rfl⟩
            refine AOps.read ⟨61, rfl, rfl⟩ rfl (by decide) (Reader.not (b := decide (RightT ⟨(((sigOf ((cutA 60 t).1)).toNat : Nat) : Int), 0, ((qv ((cutA 58 ((cutA 60 t).2.1)).1) : Nat) : Int), (cutA 58 (cutA 60 t).2.1).2.2, 0⟩)) rfl rfl) ?_
            refine AOps.read trivial rfl (by decide) (Reader.pick rfl (b := false) rfl (ok_const rfl) (ok_const rfl) (v := .lit (.bool (!(decide (RightT ⟨(((sigOf ((cutA 60 t).1)).toNat : Nat) : Int), 0, ((qv ((cutA 58 ((cutA 60 t).2.1)).1) : Nat) : Int), (cutA 58 (cutA 60 t).2.1).2.2, 0⟩))))) rfl) ?_
            exact AOps.nil rfl
      have hth := thr_of (t := t) (by assumption) (by assumption)
      refine AWp.cond (b := bif (!(t.contains 60)) then true else (bif (!(decide (sigOf ((cutA 60 t).1) ≥ 0))) then true else (!(decide (RightT ⟨(((sigOf ((cutA 60 t).1)).toNat : Nat) : Int), 0, ((qv ((cutA 58 ((cutA 60 t).2.1)).1) : Nat) : Int), (cutA 58 (cutA 60 t).2.1).2.2, 0⟩))))) rfl (fun h15 => ?_) (fun h15 => ?_)
      · skip
        have h15' : ¬ OkT t := (okt_no hth h15)
        clear h15
        refine AWp.seq (AWp.region ?_)
        refine AOps.read trivial rfl (by decide) (Reader.build (xs := []) (Es := []) (places := places_65) rfl Tryd.underlying65 (by refine ⟨rfl, fun j p x hp hx => ?_⟩; match j, hp, hx with | _ + 0, hp, hx => cases hp) zero_65 rfl places_65_ok (cs := [.lit (.int .i64 0), .lit (.int .i64 0), .lit (.int .i64 0), .lit (.bool false), .lit (.int .i64 0)]) rfl) ?_
        refine AOps.storeL trivial rfl rfl rfl rfl sizeOf_65 (.inl ⟨rfl, rfl⟩) rfl (v := .agg [.lit (.int .i64 0), .lit (.int .i64 0), .lit (.int .i64 0), .lit (.bool false), .lit (.int .i64 0)]) rfl (all_flat rfl) rfl (Nat.le_of_ble_eq_true rfl) ?_
        refine AOps.read trivial rfl (by decide) (Reader.move (.inr rfl) (ok_const rfl) (v := .lit (.int .i64 2)) rfl) ?_
        refine AOps.nil ?_
        refine AWp.ret ?_
        exact ⟨.inl rfl, _, ResOf.cellTmp 2 2 0 5 65 _ _ (.agg [.lit (.int .i64 0), .lit (.int .i64 0), .lit (.int .i64 0), .lit (.bool false), .lit (.int .i64 0)]) rfl rfl Tryd.underlying65 sizeOf_65 rfl (Eq.refl true) 3 (.lit (.int .i64 2)) rfl rfl, ⟨by rw [(th_no (by assumption)).1, (th_no (by assumption)).2]; rfl, rfl⟩⟩
      · skip
        have h15' : OkT t := (okt_yes hth h15)
        clear h15
        refine AWp.skip ?_
        refine AWp.seq (AWp.region ?_)
        refine AOps.read trivial rfl (by decide) (Reader.loadL rfl Tryd.underlying65 sizeOf_65 rfl rfl (v := .agg [.lit (.int .i64 (((sigOf ((cutA 60 t).1)).toNat : Nat) : Int)), .lit (.int .i64 0), .lit (.int .i64 ((qv ((cutA 58 ((cutA 60 t).2.1)).1) : Nat) : Int)), .lit (.bool ((cutA 58 (cutA 60 t).2.1).2.2)), .lit (.int .i64 0)]) rfl rfl) ?_
        refine AOps.storeL trivial rfl rfl rfl rfl sizeOf_65 (.inl ⟨rfl, rfl⟩) rfl (v := .agg [.lit (.int .i64 (((sigOf ((cutA 60 t).1)).toNat : Nat) : Int)), .lit (.int .i64 0), .lit (.int .i64 ((qv ((cutA 58 ((cutA 60 t).2.1)).1) : Nat) : Int)), .lit (.bool ((cutA 58 (cutA 60 t).2.1).2.2)), .lit (.int .i64 0)]) rfl (all_flat rfl) rfl (Nat.le_of_ble_eq_true rfl) ?_
        refine AOps.read trivial rfl (by decide) (Reader.move (.inr rfl) (ok_const rfl) (v := .lit (.int .i64 0)) rfl) ?_
        refine AOps.nil ?_
        refine AWp.ret ?_
        exact ⟨.inl rfl, _, ResOf.cellTmp 2 2 0 5 65 _ _ (.agg [.lit (.int .i64 (((sigOf ((cutA 60 t).1)).toNat : Nat) : Int)), .lit (.int .i64 0), .lit (.int .i64 ((qv ((cutA 58 ((cutA 60 t).2.1)).1) : Nat) : Int)), .lit (.bool ((cutA 58 (cutA 60 t).2.1).2.2)), .lit (.int .i64 0)]) rfl rfl Tryd.underlying65 sizeOf_65 rfl (Eq.refl true) 3 (.lit (.int .i64 0)) rfl rfl, ⟨by rw [(th_ok (by assumption)).1, (th_ok (by assumption)).2, hth (okt_sig (by assumption))]; rfl, rfl⟩⟩

end Go.Proofs.YtlpihekflkjkfaaDoor
