/- Th2, Th3, Th4, Th5, Bld, BldW, BldS. -/
import Derived.Test.YtmmfkpbkacfegaaGreatDoorM5
import Derived.Test.YtmmfkpbkacfegaaGreatDoorM3
import Derived.Test.YtmmfkpbkacfegaaGreatDoorM2
import Derived.Test.YtmmfkpbkacfegaaGreatDoorProg
import Derived.Shelf.RegionOpenPlain
import Derived.Lib.UnsafeStr
import Derived.Lib.Builder
import Derived.Lib.Walk
import Derived.WalkKit
import Derived.Deep.MidRow
namespace Go.Proofs.YtmmfkpbkacfegaaGreatDoor
section
open Go.RowKit

theorem tnum_0 {t : List UInt8} {z : Int} (hz : Lib.atoiAll t = .ok z) (h : ¬ Lib.itoa z = t) : 0 = numT t := by unfold numT; rw [hz]; simp only; rw [if_neg h]
theorem tnum_z {t : List UInt8} {z : Int} (hz : Lib.atoiAll t = .ok z) (h : Lib.itoa z = t) : z = numT t := by unfold numT; rw [hz]; simp only; rw [if_pos h]
theorem tnum_n {t : List UInt8} (hz : ∀ z, Lib.atoiAll t ≠ .ok z) : 0 = numT t := by
  unfold numT
  split
  · rename_i n h; exact absurd h (hz n)
  · rfl
theorem trim_len (v : List UInt8) : (Lib.trimSuffix v [37]).length ≤ v.length := by
  unfold Lib.trimSuffix; split
  · rw [List.length_take]; omega
  · exact Nat.le_refl _
theorem thr_of {t : List UInt8} {so su : Bool} (h1 : sfOf t = so) (h2 : Lib.hasSuffix (vlOf t) [37] = su) (hs : 0 ≤ sigOf (wdOf t)) :
    thrOf numT t = ⟨((sigOf (wdOf t)).toNat : Int), bif su then numT (Lib.trimSuffix (vlOf t) [37]) else 0, bif su then 0 else ((qv (vlOf t) : Nat) : Int), sfOf t, bif so then numT (grOf t) else 0⟩ := by
  have e : ((sigOf (wdOf t)).toNat : Int) = sigOf (wdOf t) := by omega
  unfold thrOf pctOf amtOf
  rw [h1, h2, e]
  cases so <;> cases su <;> first | rfl | (simp only [if_true, cond_true]; unfold Lib.trimSuffix; rw [h2]; rfl) | (simp; unfold Lib.trimSuffix; rw [h2]; rfl)
theorem okt_no {t : List UInt8} {th : Thr} (hth : 0 ≤ sigOf (wdOf t) → thrOf numT t = th) (h : (bif !(t.contains 60) then true else (bif !(decide (sigOf (wdOf t) ≥ 0)) then true else !(decide (RightT th)))) = true) : ¬ OkT t := by
  rintro ⟨h1, h2⟩
  have h3 : 0 ≤ sigOf (wdOf t) := h2.1
  rw [hth h3] at h2
  rw [h1, decide_eq_true (show sigOf (wdOf t) ≥ 0 from h3), decide_eq_true h2] at h
  cases h
theorem okt_yes {t : List UInt8} {th : Thr} (hth : 0 ≤ sigOf (wdOf t) → thrOf numT t = th) (h : (bif !(t.contains 60) then true else (bif !(decide (sigOf (wdOf t) ≥ 0)) then true else !(decide (RightT th)))) = false) : OkT t := by
  cases h1 : t.contains 60 with
  | false => rw [h1] at h; cases h
  | true =>
    rw [h1] at h
    by_cases h3 : sigOf (wdOf t) ≥ 0
    · rw [decide_eq_true h3] at h
      by_cases h2 : RightT th
      · exact ⟨h1, by rw [hth h3]; exact h2⟩
      · rw [decide_eq_false h2] at h; cases h
    · rw [decide_eq_false h3] at h; cases h
theorem th_no {t : List UInt8} (h : ¬ OkT t) : readT t = t0 ∧ errT t = 2 := ⟨by unfold readT; rw [if_neg h], by unfold errT; rw [if_neg h]⟩
theorem th_ok {t : List UInt8} (h : OkT t) : readT t = thrOf numT t ∧ errT t = 0 := ⟨by unfold readT; rw [if_pos h], by unfold errT; rw [if_pos h]⟩
theorem okt_sig {t : List UInt8} (h : OkT t) : 0 ≤ sigOf (wdOf t) := h.2.1

set_option maxRecDepth 20000 in
theorem tnum_ok (t : List UInt8) (hl : t.length ≤ 4294967280) (nz : Int) (hz : Lib.atoiAll t = .ok nz) (M : Nat → Option (List AV)) : ACall Tryz.prog 64 [.str t] M (fun r M' => r = zI (numT t) ∧ M = M') := by
  have hzb := Lib.atoiAll_bounds hz
  refine ACall.of Tryz.func64 rfl (n := 19) rfl rfl rfl ?_
  refine zg ?_
  refine zM (zI 0) ?_
  refine zN ?_
  refine zg ?_
  refine zM (.str t) ?_
  refine zc [.str t] Tryz.call76 (atoi_ok t hl nz hz M) ?_
  rintro _ _ ⟨rfl, rfl⟩
  refine zM (.tuple [zI nz, .lit .nilIface]) ?_
  refine zr (zx (zI nz)) ?_
  refine zr (zx (.lit .nilIface)) ?_
  refine zM (zI nz) ?_
  refine zM (.lit .nilIface) ?_
  refine zN ?_
  refine AWp.seq ?_
  refine zj 17 [(0, .str t), (2, zI 0), (3, zI nz), (4, .lit .nilIface)] [] M (!((Lib.itoa nz) == t)) ?_ ?_
  · skip
    refine zM (.lit .nilIface) ?_
    refine zr (Reader.ifNil rfl Tryz.underlying90 (v := .nilIface) rfl (.inl ⟨rfl, rfl⟩) (.inr ⟨rfl, rfl⟩)) ?_
    refine zM (zB false) ?_
    refine zM (zI nz) ?_
    refine zc [zI nz] Tryz.call53 (itoa_int nz (by omega) (by omega) M) ?_
    rintro _ _ ⟨rfl, rfl⟩
    refine zM (.str t) ?_
    refine zr (zt (!((Lib.itoa nz) == t))) ?_
    refine zr (zp false (zB (!((Lib.itoa nz) == t)))) ?_
    exact AOps.nil rfl
  refine zC (b := !((Lib.itoa nz) == t)) rfl (fun h1 => ?_) (fun h1 => ?_)
  · skip
    have h1' : ¬ Lib.itoa nz = t := (beq_eq_false_iff_ne.1 (bnot_t h1))
    clear h1
    refine zg ?_
    refine zM (zI 0) ?_
    refine zN ?_
    refine AWp.ret ?_
    exact ⟨.inl rfl, _, ResOf.one 2 (zI 0) rfl rfl, ⟨congrArg (fun x : Int => AV.lit (.int .i64 x)) (tnum_0 hz (by assumption)), rfl⟩⟩
  · skip
    have h1' : Lib.itoa nz = t := (eq_of_beq (bnot_f h1))
    clear h1
    refine AWp.skip ?_
    refine zg ?_
    refine zM (zI nz) ?_
    refine zM (zI nz) ?_
    refine zN ?_
    refine AWp.ret ?_
    exact ⟨.inl rfl, _, ResOf.one 2 (zI nz) rfl rfl, ⟨congrArg (fun x : Int => AV.lit (.int .i64 x)) (tnum_z hz (by assumption)), rfl⟩⟩

set_option maxRecDepth 20000 in
theorem tnum_bad (t : List UInt8) (hl : t.length ≤ 4294967280) (hz : ∀ z, Lib.atoiAll t ≠ .ok z) (M : Nat → Option (List AV)) : ACall Tryz.prog 64 [.str t] M (fun r M' => r = zI (numT t) ∧ M = M') := by
  refine ACall.of Tryz.func64 rfl (n := 19) rfl rfl rfl ?_
  refine zg ?_
  refine zM (zI 0) ?_
  refine zN ?_
  refine zg ?_
  refine zM (.str t) ?_
  refine zc [.str t] Tryz.call76 (atoi_bad t hl hz M) ?_
  rintro _ _ ⟨⟨nz, te, pe, rfl⟩, rfl⟩
  refine zM (.tuple [zI nz, .lit (.iface te pe)]) ?_
  refine zr (zx (zI nz)) ?_
  refine zr (zx (.lit (.iface te pe))) ?_
  refine zM (zI nz) ?_
  refine zM (.lit (.iface te pe)) ?_
  refine zN ?_
  refine AWp.seq ?_
  refine zj 17 [(0, .str t), (2, zI 0), (3, zI nz), (4, .lit (.iface te pe))] [] M true ?_ ?_
  · skip
    refine zM (.lit (.iface te pe)) ?_
    refine zr (Reader.ifNil rfl Tryz.underlying90 (v := (.iface te pe)) rfl (.inr ⟨⟨_, _, rfl⟩, rfl⟩) (.inr ⟨rfl, rfl⟩)) ?_
    refine zM (zB true) ?_
    refine zs ?_
    refine zs ?_
    refine zs ?_
    refine zs ?_
    refine zr (zp true (zB true)) ?_
    exact AOps.nil rfl
  refine AWp.cond (b := true) rfl (fun hx => ?_) (fun hx => by cases hx)
  refine zg ?_
  refine zM (zI 0) ?_
  refine zN ?_
  refine AWp.ret ?_
  exact ⟨.inl rfl, _, ResOf.one 2 (zI 0) rfl rfl, ⟨congrArg (fun x : Int => AV.lit (.int .i64 x)) (tnum_n hz), rfl⟩⟩

theorem tnum_any (t : List UInt8) (hl : t.length ≤ 4294967280) (M : Nat → Option (List AV)) : ACall Tryz.prog 64 [.str t] M (fun r M' => r = zI (numT t) ∧ M = M') := by
  by_cases h : ∃ z, Lib.atoiAll t = .ok z
  · obtain ⟨z, hz⟩ := h
    exact tnum_ok t hl z hz M
  · exact tnum_bad t hl (fun z e => h ⟨z, e⟩) M

set_option maxRecDepth 20000 in
theorem TRead_any (t : List UInt8) (hl : t.length ≤ 4294967280) (M : Nat → Option (List AV)) : ACall Tryz.prog 44 [.str t] M (fun r M' => r = .tuple [encT (readT t), zI (errT t)] ∧ M = M') := by
  have hc1 := cutA_len 60 t
  have hc2 := cutA_len 58 (cutA 60 t).2.1
  have hc3 := trim_len (cutA 58 (cutA 60 t).2.1).1
  refine ACall.of Tryz.func44 rfl (n := 68) rfl rfl rfl ?_
  refine zg ?_
  refine zal [] zero_40 [zI 0, zI 0, zI 0, zB false, zI 0] ?_
  refine zM (zI 0) ?_
  refine zN ?_
  refine zg ?_
  refine zal [] zero_40 [zI 0, zI 0, zI 0, zB false, zI 0] ?_
  refine zN ?_
  refine zg ?_
  refine zM (.str t) ?_
  refine zc [.str t, .str [60]] Tryz.call62 (cut_any 60 t (by omega) M) ?_
  rintro _ _ ⟨rfl, rfl⟩
  refine zM (.tuple [.str ((cutA 60 t).1), .str ((cutA 60 t).2.1), zB (t.contains 60)]) ?_
  refine zr (zx (.str ((cutA 60 t).1))) ?_
  refine zr (zx (.str ((cutA 60 t).2.1))) ?_
  refine zr (zx (zB (t.contains 60))) ?_
  refine zM (.str ((cutA 60 t).1)) ?_
  refine zM (.str ((cutA 60 t).2.1)) ?_
  refine zM (zB (t.contains 60)) ?_
  refine zN ?_
  refine zg ?_
  refine zM (.str ((cutA 60 t).1)) ?_
  refine zc [.str ((cutA 60 t).1)] Tryz.call63 (Signal_any ((cutA 60 t).1) M) ?_
  rintro _ _ ⟨rfl, rfl⟩
  refine zM (.tuple [zI (((sigOf ((cutA 60 t).1)).toNat : Nat) : Int), zB (decide (sigOf ((cutA 60 t).1) ≥ 0))]) ?_
  refine zr (zx (zI (((sigOf ((cutA 60 t).1)).toNat : Nat) : Int))) ?_
  refine zr (zx (zB (decide (sigOf ((cutA 60 t).1) ≥ 0)))) ?_
  refine zM (zI (((sigOf ((cutA 60 t).1)).toNat : Nat) : Int)) ?_
  refine zM (zB (decide (sigOf ((cutA 60 t).1) ≥ 0))) ?_
  refine zN ?_
  refine zg ?_
  refine zM (.str ((cutA 60 t).2.1)) ?_
  refine zc [.str ((cutA 60 t).2.1), .str [58]] Tryz.call62 (cut_any 58 ((cutA 60 t).2.1) (by omega) M) ?_
  rintro _ _ ⟨rfl, rfl⟩
  refine zM (.tuple [.str ((cutA 58 ((cutA 60 t).2.1)).1), .str ((cutA 58 ((cutA 60 t).2.1)).2.1), zB ((cutA 58 (cutA 60 t).2.1).2.2)]) ?_
  refine zr (zx (.str ((cutA 58 ((cutA 60 t).2.1)).1))) ?_
  refine zr (zx (.str ((cutA 58 ((cutA 60 t).2.1)).2.1))) ?_
  refine zr (zx (zB ((cutA 58 (cutA 60 t).2.1).2.2))) ?_
  refine zM (.str ((cutA 58 ((cutA 60 t).2.1)).1)) ?_
  refine zM (.str ((cutA 58 ((cutA 60 t).2.1)).2.1)) ?_
  refine zM (zB ((cutA 58 (cutA 60 t).2.1).2.2)) ?_
  refine zN ?_
  refine zg ?_
  refine zM (zI (((sigOf ((cutA 60 t).1)).toNat : Nat) : Int)) ?_
  refine zM (zB ((cutA 58 (cutA 60 t).2.1).2.2)) ?_
  refine zr (zfL Tryz.underlying40 sizeOf_3) ?_
  refine zst sizeOf_3 (zI (((sigOf ((cutA 60 t).1)).toNat : Nat) : Int)) ?_
  refine zr (zfL Tryz.underlying40 sizeOf_4) ?_
  refine zst sizeOf_4 (zB ((cutA 58 (cutA 60 t).2.1).2.2)) ?_
  refine zN ?_
  refine AWp.seq ?_
  refine zg ?_
  refine zM (zB ((cutA 58 (cutA 60 t).2.1).2.2)) ?_
  refine zN ?_
  refine zC (b := (cutA 58 (cutA 60 t).2.1).2.2) rfl (fun h1 => ?_) (fun h1 => ?_)
  · skip
    have h1' : sfOf t = true := h1
    clear h1
    refine AWp.region ?_
    refine zM (.str ((cutA 58 ((cutA 60 t).2.1)).2.1)) ?_
    refine zc [.str ((cutA 58 ((cutA 60 t).2.1)).2.1)] Tryz.call64 (tnum_any ((cutA 58 ((cutA 60 t).2.1)).2.1) (by first | omega | (simp only [List.length_append, List.length_cons, List.length_nil]; omega)) M) ?_
    rintro _ _ ⟨rfl, rfl⟩
    refine zr (zfL Tryz.underlying40 sizeOf_3) ?_
    refine zst sizeOf_3 (zI (numT ((cutA 58 ((cutA 60 t).2.1)).2.1))) ?_
    refine zN ?_
    refine AWp.seq ?_
    refine zg ?_
    refine zM (.str ((cutA 58 ((cutA 60 t).2.1)).1)) ?_
    refine zc [.str ((cutA 58 ((cutA 60 t).2.1)).1), .str [37]] Tryz.call65 (suf_any [37] ((cutA 58 ((cutA 60 t).2.1)).1) (by omega) M) ?_
    rintro _ _ ⟨rfl, rfl⟩
    refine zM (.tuple [.str (Lib.trimSuffix (cutA 58 (cutA 60 t).2.1).1 [37]), zB (Lib.hasSuffix (cutA 58 (cutA 60 t).2.1).1 [37])]) ?_
    refine zr (zx (.str (Lib.trimSuffix (cutA 58 (cutA 60 t).2.1).1 [37]))) ?_
    refine zr (zx (zB (Lib.hasSuffix (cutA 58 (cutA 60 t).2.1).1 [37]))) ?_
    refine zM (.str (Lib.trimSuffix (cutA 58 (cutA 60 t).2.1).1 [37])) ?_
    refine zM (zB (Lib.hasSuffix (cutA 58 (cutA 60 t).2.1).1 [37])) ?_
    refine zN ?_
    refine zg ?_
    refine zM (zB (Lib.hasSuffix (cutA 58 (cutA 60 t).2.1).1 [37])) ?_
    refine zN ?_
    refine zC (b := Lib.hasSuffix (cutA 58 (cutA 60 t).2.1).1 [37]) rfl (fun h2 => ?_) (fun h2 => ?_)
    · skip
      have h2' : Lib.hasSuffix (vlOf t) [37] = true := h2
      clear h2
      refine AWp.region ?_
      refine zM (.str (Lib.trimSuffix (cutA 58 (cutA 60 t).2.1).1 [37])) ?_
      refine zc [.str (Lib.trimSuffix (cutA 58 (cutA 60 t).2.1).1 [37])] Tryz.call64 (tnum_any (Lib.trimSuffix (cutA 58 (cutA 60 t).2.1).1 [37]) (by first | omega | (simp only [List.length_append, List.length_cons, List.length_nil]; omega)) M) ?_
      rintro _ _ ⟨rfl, rfl⟩
      refine zr (zfL Tryz.underlying40 sizeOf_3) ?_
      refine zst sizeOf_3 (zI (numT (Lib.trimSuffix (cutA 58 (cutA 60 t).2.1).1 [37]))) ?_
      refine zN ?_
      refine AWp.seq ?_
      refine zj 65 [(0, .str t), (2, .lptr 2 0), (3, zI 0), (4, .lptr 4 0), (5, .str ((cutA 60 t).1)), (6, .str ((cutA 60 t).2.1)), (7, zB (t.contains 60)), (8, zI (((sigOf ((cutA 60 t).1)).toNat : Nat) : Int)), (9, zB (decide (sigOf ((cutA 60 t).1) ≥ 0))), (10, .str ((cutA 58 ((cutA 60 t).2.1)).1)), (11, .str ((cutA 58 ((cutA 60 t).2.1)).2.1)), (12, zB ((cutA 58 (cutA 60 t).2.1).2.2)), (36, zB ((cutA 58 (cutA 60 t).2.1).2.2)), (13, .str (Lib.trimSuffix (cutA 58 (cutA 60 t).2.1).1 [37])), (14, zB (Lib.hasSuffix (cutA 58 (cutA 60 t).2.1).1 [37])), (45, zB (Lib.hasSuffix (cutA 58 (cutA 60 t).2.1).1 [37]))] [(2, [zI 0, zI 0, zI 0, zB false, zI 0]), (4, [zI (((sigOf ((cutA 60 t).1)).toNat : Nat) : Int), zI (numT (Lib.trimSuffix (cutA 58 (cutA 60 t).2.1).1 [37])), zI 0, zB ((cutA 58 (cutA 60 t).2.1).2.2), zI (numT ((cutA 58 ((cutA 60 t).2.1)).2.1))])] M (bif (!(t.contains 60)) then true else (bif (!(decide (sigOf ((cutA 60 t).1) ≥ 0))) then true else (!(decide (RightT ⟨(((sigOf ((cutA 60 t).1)).toNat : Nat) : Int), numT (Lib.trimSuffix (cutA 58 (cutA 60 t).2.1).1 [37]), 0, (cutA 58 (cutA 60 t).2.1).2.2, numT ((cutA 58 ((cutA 60 t).2.1)).2.1)⟩))))) ?_ ?_
      · skip
        refine zM (zB (t.contains 60)) ?_
        refine zr (zn (t.contains 60)) ?_
        refine zM (zB (!(t.contains 60))) ?_
        refine AOps.splitJ (t := 57) (b := !(t.contains 60)) (x := true) (y := (bif (!(decide (sigOf ((cutA 60 t).1) ≥ 0))) then true else (!(decide (RightT ⟨(((sigOf ((cutA 60 t).1)).toNat : Nat) : Int), numT (Lib.trimSuffix (cutA 58 (cutA 60 t).2.1).1 [37]), 0, (cutA 58 (cutA 60 t).2.1).2.2, numT ((cutA 58 ((cutA 60 t).2.1)).2.1)⟩))))) rfl (fun h3 => ?_) (fun h3 => ?_)
        · skip
          refine zs ?_
          refine zs ?_
          refine zr (zp true (zB true)) ?_
          refine zM (zB true) ?_
          refine zs ?_
          refine zs ?_
          refine zs ?_
          refine zr (zp true (zB true)) ?_
          exact AOps.nil rfl
        · skip
          refine zM (zB (decide (sigOf ((cutA 60 t).1) ≥ 0))) ?_
          refine zr (zn (decide (sigOf ((cutA 60 t).1) ≥ 0))) ?_
          refine zr (zp false (zB (!(decide (sigOf ((cutA 60 t).1) ≥ 0))))) ?_
          refine zM (zB (!(decide (sigOf ((cutA 60 t).1) ≥ 0)))) ?_
          refine AOps.splitJ (t := 61) (b := !(decide (sigOf ((cutA 60 t).1) ≥ 0))) (x := true) (y := (!(decide (RightT ⟨(((sigOf ((cutA 60 t).1)).toNat : Nat) : Int), numT (Lib.trimSuffix (cutA 58 (cutA 60 t).2.1).1 [37]), 0, (cutA 58 (cutA 60 t).2.1).2.2, numT ((cutA 58 ((cutA 60 t).2.1)).2.1)⟩)))) rfl (fun h4 => ?_) (fun h4 => ?_)
          · skip
            refine zs ?_
            refine zs ?_
            refine zs ?_
            refine zr (zp true (zB true)) ?_
            exact AOps.nil rfl
          · skip
            refine zr (zlL (.agg [zI (((sigOf ((cutA 60 t).1)).toNat : Nat) : Int), zI (numT (Lib.trimSuffix (cutA 58 (cutA 60 t).2.1).1 [37])), zI 0, zB ((cutA 58 (cutA 60 t).2.1).2.2), zI (numT ((cutA 58 ((cutA 60 t).2.1)).2.1))]) Tryz.underlying40 sizeOf_40) ?_
            refine zc [.agg [zI (((sigOf ((cutA 60 t).1)).toNat : Nat) : Int), zI (numT (Lib.trimSuffix (cutA 58 (cutA 60 t).2.1).1 [37])), zI 0, zB ((cutA 58 (cutA 60 t).2.1).2.2), zI (numT ((cutA 58 ((cutA 60 t).2.1)).2.1))]] Tryz.call36 (Right_any ⟨(((sigOf ((cutA 60 t).1)).toNat : Nat) : Int), numT (Lib.trimSuffix (cutA 58 (cutA 60 t).2.1).1 [37]), 0, (cutA 58 (cutA 60 t).2.1).2.2, numT ((cutA 58 ((cutA 60 t).2.1)).2.1)⟩ M) ?_
            rintro _ _ ⟨rfl, rfl⟩
            refine zr (zn (decide (RightT ⟨(((sigOf ((cutA 60 t).1)).toNat : Nat) : Int), numT (Lib.trimSuffix (cutA 58 (cutA 60 t).2.1).1 [37]), 0, (cutA 58 (cutA 60 t).2.1).2.2, numT ((cutA 58 ((cutA 60 t).2.1)).2.1)⟩))) ?_
            refine zr (zp false (zB (!(decide (RightT ⟨(((sigOf ((cutA 60 t).1)).toNat : Nat) : Int), numT (Lib.trimSuffix (cutA 58 (cutA 60 t).2.1).1 [37]), 0, (cutA 58 (cutA 60 t).2.1).2.2, numT ((cutA 58 ((cutA 60 t).2.1)).2.1)⟩))))) ?_
            exact AOps.nil rfl
      have hth := thr_of (t := t) (by assumption) (by assumption)
      refine zC (b := bif (!(t.contains 60)) then true else (bif (!(decide (sigOf ((cutA 60 t).1) ≥ 0))) then true else (!(decide (RightT ⟨(((sigOf ((cutA 60 t).1)).toNat : Nat) : Int), numT (Lib.trimSuffix (cutA 58 (cutA 60 t).2.1).1 [37]), 0, (cutA 58 (cutA 60 t).2.1).2.2, numT ((cutA 58 ((cutA 60 t).2.1)).2.1)⟩))))) rfl (fun h5 => ?_) (fun h5 => ?_)
      · skip
        have h5' : ¬ OkT t := (okt_no hth h5)
        clear h5
        refine zg ?_
        refine zr (Reader.build (xs := []) (Es := []) (places := places_40) rfl Tryz.underlying40 (by refine ⟨rfl, fun j p x hp hx => ?_⟩; match j, hp, hx with | _ + 0, hp, hx => cases hp) zero_40 rfl places_40_ok (cs := [zI 0, zI 0, zI 0, zB false, zI 0]) rfl) ?_
        refine zst sizeOf_40 (.agg [zI 0, zI 0, zI 0, zB false, zI 0]) ?_
        refine zM (zI 2) ?_
        refine zN ?_
        refine AWp.ret ?_
        exact ⟨.inl rfl, _, ResOf.cellTmp 2 2 0 5 40 _ _ (.agg [zI 0, zI 0, zI 0, zB false, zI 0]) rfl rfl Tryz.underlying40 sizeOf_40 rfl (Eq.refl true) 3 (zI 2) rfl (.inl rfl), ⟨by rw [(th_no (by assumption)).1, (th_no (by assumption)).2]; rfl, rfl⟩⟩
      · skip
        have h5' : OkT t := (okt_yes hth h5)
        clear h5
        refine AWp.skip ?_
        refine zg ?_
        refine zr (zlL (.agg [zI (((sigOf ((cutA 60 t).1)).toNat : Nat) : Int), zI (numT (Lib.trimSuffix (cutA 58 (cutA 60 t).2.1).1 [37])), zI 0, zB ((cutA 58 (cutA 60 t).2.1).2.2), zI (numT ((cutA 58 ((cutA 60 t).2.1)).2.1))]) Tryz.underlying40 sizeOf_40) ?_
        refine zst sizeOf_40 (.agg [zI (((sigOf ((cutA 60 t).1)).toNat : Nat) : Int), zI (numT (Lib.trimSuffix (cutA 58 (cutA 60 t).2.1).1 [37])), zI 0, zB ((cutA 58 (cutA 60 t).2.1).2.2), zI (numT ((cutA 58 ((cutA 60 t).2.1)).2.1))]) ?_
        refine zM (zI 0) ?_
        refine zN ?_
        refine AWp.ret ?_
        exact ⟨.inl rfl, _, ResOf.cellTmp 2 2 0 5 40 _ _ (.agg [zI (((sigOf ((cutA 60 t).1)).toNat : Nat) : Int), zI (numT (Lib.trimSuffix (cutA 58 (cutA 60 t).2.1).1 [37])), zI 0, zB ((cutA 58 (cutA 60 t).2.1).2.2), zI (numT ((cutA 58 ((cutA 60 t).2.1)).2.1))]) rfl rfl Tryz.underlying40 sizeOf_40 rfl (Eq.refl true) 3 (zI 0) rfl (.inl rfl), ⟨by rw [(th_ok (by assumption)).1, (th_ok (by assumption)).2, hth (okt_sig (by assumption))]; rfl, rfl⟩⟩
    · skip
      have h2' : Lib.hasSuffix (vlOf t) [37] = false := h2
      clear h2
      refine AWp.region ?_
      refine zM (.str ((cutA 58 ((cutA 60 t).2.1)).1)) ?_
      refine zc [.str ((cutA 58 ((cutA 60 t).2.1)).1)] Tryz.call66 (Read_any ((cutA 58 ((cutA 60 t).2.1)).1) (by first | assumption | omega | (simp only [List.length_append, List.length_cons, List.length_nil]; omega)) M) ?_
      rintro _ _ ⟨rfl, rfl⟩
      refine zM (.tuple [zI ((qv ((cutA 58 ((cutA 60 t).2.1)).1) : Nat) : Int), zI (qe ((cutA 58 ((cutA 60 t).2.1)).1))]) ?_
      refine zr (zx (zI ((qv ((cutA 58 ((cutA 60 t).2.1)).1) : Nat) : Int))) ?_
      refine zr (zx (zI (qe ((cutA 58 ((cutA 60 t).2.1)).1)))) ?_
      refine zr (zfL Tryz.underlying40 sizeOf_3) ?_
      refine zst sizeOf_3 (zI ((qv ((cutA 58 ((cutA 60 t).2.1)).1) : Nat) : Int)) ?_
      refine zN ?_
      refine AWp.seq ?_
      refine zj 65 [(0, .str t), (2, .lptr 2 0), (3, zI 0), (4, .lptr 4 0), (5, .str ((cutA 60 t).1)), (6, .str ((cutA 60 t).2.1)), (7, zB (t.contains 60)), (8, zI (((sigOf ((cutA 60 t).1)).toNat : Nat) : Int)), (9, zB (decide (sigOf ((cutA 60 t).1) ≥ 0))), (10, .str ((cutA 58 ((cutA 60 t).2.1)).1)), (11, .str ((cutA 58 ((cutA 60 t).2.1)).2.1)), (12, zB ((cutA 58 (cutA 60 t).2.1).2.2)), (36, zB ((cutA 58 (cutA 60 t).2.1).2.2)), (13, .str (Lib.trimSuffix (cutA 58 (cutA 60 t).2.1).1 [37])), (14, zB (Lib.hasSuffix (cutA 58 (cutA 60 t).2.1).1 [37])), (45, zB (Lib.hasSuffix (cutA 58 (cutA 60 t).2.1).1 [37]))] [(2, [zI 0, zI 0, zI 0, zB false, zI 0]), (4, [zI (((sigOf ((cutA 60 t).1)).toNat : Nat) : Int), zI 0, zI ((qv ((cutA 58 ((cutA 60 t).2.1)).1) : Nat) : Int), zB ((cutA 58 (cutA 60 t).2.1).2.2), zI (numT ((cutA 58 ((cutA 60 t).2.1)).2.1))])] M (bif (!(t.contains 60)) then true else (bif (!(decide (sigOf ((cutA 60 t).1) ≥ 0))) then true else (!(decide (RightT ⟨(((sigOf ((cutA 60 t).1)).toNat : Nat) : Int), 0, ((qv ((cutA 58 ((cutA 60 t).2.1)).1) : Nat) : Int), (cutA 58 (cutA 60 t).2.1).2.2, numT ((cutA 58 ((cutA 60 t).2.1)).2.1)⟩))))) ?_ ?_
      · skip
        refine zM (zB (t.contains 60)) ?_
        refine zr (zn (t.contains 60)) ?_
        refine zM (zB (!(t.contains 60))) ?_
        refine AOps.splitJ (t := 57) (b := !(t.contains 60)) (x := true) (y := (bif (!(decide (sigOf ((cutA 60 t).1) ≥ 0))) then true else (!(decide (RightT ⟨(((sigOf ((cutA 60 t).1)).toNat : Nat) : Int), 0, ((qv ((cutA 58 ((cutA 60 t).2.1)).1) : Nat) : Int), (cutA 58 (cutA 60 t).2.1).2.2, numT ((cutA 58 ((cutA 60 t).2.1)).2.1)⟩))))) rfl (fun h6 => ?_) (fun h6 => ?_)
        · skip
          refine zs ?_
          refine zs ?_
          refine zr (zp true (zB true)) ?_
          refine zM (zB true) ?_
          refine zs ?_
          refine zs ?_
          refine zs ?_
          refine zr (zp true (zB true)) ?_
          exact AOps.nil rfl
        · skip
          refine zM (zB (decide (sigOf ((cutA 60 t).1) ≥ 0))) ?_
          refine zr (zn (decide (sigOf ((cutA 60 t).1) ≥ 0))) ?_
          refine zr (zp false (zB (!(decide (sigOf ((cutA 60 t).1) ≥ 0))))) ?_
          refine zM (zB (!(decide (sigOf ((cutA 60 t).1) ≥ 0)))) ?_
          refine AOps.splitJ (t := 61) (b := !(decide (sigOf ((cutA 60 t).1) ≥ 0))) (x := true) (y := (!(decide (RightT ⟨(((sigOf ((cutA 60 t).1)).toNat : Nat) : Int), 0, ((qv ((cutA 58 ((cutA 60 t).2.1)).1) : Nat) : Int), (cutA 58 (cutA 60 t).2.1).2.2, numT ((cutA 58 ((cutA 60 t).2.1)).2.1)⟩)))) rfl (fun h7 => ?_) (fun h7 => ?_)
          · skip
            refine zs ?_
            refine zs ?_
            refine zs ?_
            refine zr (zp true (zB true)) ?_
            exact AOps.nil rfl
          · skip
            refine zr (zlL (.agg [zI (((sigOf ((cutA 60 t).1)).toNat : Nat) : Int), zI 0, zI ((qv ((cutA 58 ((cutA 60 t).2.1)).1) : Nat) : Int), zB ((cutA 58 (cutA 60 t).2.1).2.2), zI (numT ((cutA 58 ((cutA 60 t).2.1)).2.1))]) Tryz.underlying40 sizeOf_40) ?_
            refine zc [.agg [zI (((sigOf ((cutA 60 t).1)).toNat : Nat) : Int), zI 0, zI ((qv ((cutA 58 ((cutA 60 t).2.1)).1) : Nat) : Int), zB ((cutA 58 (cutA 60 t).2.1).2.2), zI (numT ((cutA 58 ((cutA 60 t).2.1)).2.1))]] Tryz.call36 (Right_any ⟨(((sigOf ((cutA 60 t).1)).toNat : Nat) : Int), 0, ((qv ((cutA 58 ((cutA 60 t).2.1)).1) : Nat) : Int), (cutA 58 (cutA 60 t).2.1).2.2, numT ((cutA 58 ((cutA 60 t).2.1)).2.1)⟩ M) ?_
            rintro _ _ ⟨rfl, rfl⟩
            refine zr (zn (decide (RightT ⟨(((sigOf ((cutA 60 t).1)).toNat : Nat) : Int), 0, ((qv ((cutA 58 ((cutA 60 t).2.1)).1) : Nat) : Int), (cutA 58 (cutA 60 t).2.1).2.2, numT ((cutA 58 ((cutA 60 t).2.1)).2.1)⟩))) ?_
            refine zr (zp false (zB (!(decide (RightT ⟨(((sigOf ((cutA 60 t).1)).toNat : Nat) : Int), 0, ((qv ((cutA 58 ((cutA 60 t).2.1)).1) : Nat) : Int), (cutA 58 (cutA 60 t).2.1).2.2, numT ((cutA 58 ((cutA 60 t).2.1)).2.1)⟩))))) ?_
            exact AOps.nil rfl
      have hth := thr_of (t := t) (by assumption) (by assumption)
      refine zC (b := bif (!(t.contains 60)) then true else (bif (!(decide (sigOf ((cutA 60 t).1) ≥ 0))) then true else (!(decide (RightT ⟨(((sigOf ((cutA 60 t).1)).toNat : Nat) : Int), 0, ((qv ((cutA 58 ((cutA 60 t).2.1)).1) : Nat) : Int), (cutA 58 (cutA 60 t).2.1).2.2, numT ((cutA 58 ((cutA 60 t).2.1)).2.1)⟩))))) rfl (fun h8 => ?_) (fun h8 => ?_)
      · skip
        have h8' : ¬ OkT t := (okt_no hth h8)
        clear h8
        refine zg ?_
        refine zr (Reader.build (xs := []) (Es := []) (places := places_40) rfl Tryz.underlying40 (by refine ⟨rfl, fun j p x hp hx => ?_⟩; match j, hp, hx with | _ + 0, hp, hx => cases hp) zero_40 rfl places_40_ok (cs := [zI 0, zI 0, zI 0, zB false, zI 0]) rfl) ?_
        refine zst sizeOf_40 (.agg [zI 0, zI 0, zI 0, zB false, zI 0]) ?_
        refine zM (zI 2) ?_
        refine zN ?_
        refine AWp.ret ?_
        exact ⟨.inl rfl, _, ResOf.cellTmp 2 2 0 5 40 _ _ (.agg [zI 0, zI 0, zI 0, zB false, zI 0]) rfl rfl Tryz.underlying40 sizeOf_40 rfl (Eq.refl true) 3 (zI 2) rfl (.inl rfl), ⟨by rw [(th_no (by assumption)).1, (th_no (by assumption)).2]; rfl, rfl⟩⟩
      · skip
        have h8' : OkT t := (okt_yes hth h8)
        clear h8
        refine AWp.skip ?_
        refine zg ?_
        refine zr (zlL (.agg [zI (((sigOf ((cutA 60 t).1)).toNat : Nat) : Int), zI 0, zI ((qv ((cutA 58 ((cutA 60 t).2.1)).1) : Nat) : Int), zB ((cutA 58 (cutA 60 t).2.1).2.2), zI (numT ((cutA 58 ((cutA 60 t).2.1)).2.1))]) Tryz.underlying40 sizeOf_40) ?_
        refine zst sizeOf_40 (.agg [zI (((sigOf ((cutA 60 t).1)).toNat : Nat) : Int), zI 0, zI ((qv ((cutA 58 ((cutA 60 t).2.1)).1) : Nat) : Int), zB ((cutA 58 (cutA 60 t).2.1).2.2), zI (numT ((cutA 58 ((cutA 60 t).2.1)).2.1))]) ?_
        refine zM (zI 0) ?_
        refine zN ?_
        refine AWp.ret ?_
        exact ⟨.inl rfl, _, ResOf.cellTmp 2 2 0 5 40 _ _ (.agg [zI (((sigOf ((cutA 60 t).1)).toNat : Nat) : Int), zI 0, zI ((qv ((cutA 58 ((cutA 60 t).2.1)).1) : Nat) : Int), zB ((cutA 58 (cutA 60 t).2.1).2.2), zI (numT ((cutA 58 ((cutA 60 t).2.1)).2.1))]) rfl rfl Tryz.underlying40 sizeOf_40 rfl (Eq.refl true) 3 (zI 0) rfl (.inl rfl), ⟨by rw [(th_ok (by assumption)).1, (th_ok (by assumption)).2, hth (okt_sig (by assumption))]; rfl, rfl⟩⟩
  · skip
    have h1' : sfOf t = false := h1
    clear h1
    refine AWp.skip ?_
    refine AWp.seq ?_
    refine zg ?_
    refine zM (.str ((cutA 58 ((cutA 60 t).2.1)).1)) ?_
    refine zc [.str ((cutA 58 ((cutA 60 t).2.1)).1), .str [37]] Tryz.call65 (suf_any [37] ((cutA 58 ((cutA 60 t).2.1)).1) (by omega) M) ?_
    rintro _ _ ⟨rfl, rfl⟩
    refine zM (.tuple [.str (Lib.trimSuffix (cutA 58 (cutA 60 t).2.1).1 [37]), zB (Lib.hasSuffix (cutA 58 (cutA 60 t).2.1).1 [37])]) ?_
    refine zr (zx (.str (Lib.trimSuffix (cutA 58 (cutA 60 t).2.1).1 [37]))) ?_
    refine zr (zx (zB (Lib.hasSuffix (cutA 58 (cutA 60 t).2.1).1 [37]))) ?_
    refine zM (.str (Lib.trimSuffix (cutA 58 (cutA 60 t).2.1).1 [37])) ?_
    refine zM (zB (Lib.hasSuffix (cutA 58 (cutA 60 t).2.1).1 [37])) ?_
    refine zN ?_
    refine zg ?_
    refine zM (zB (Lib.hasSuffix (cutA 58 (cutA 60 t).2.1).1 [37])) ?_
    refine zN ?_
    refine zC (b := Lib.hasSuffix (cutA 58 (cutA 60 t).2.1).1 [37]) rfl (fun h9 => ?_) (fun h9 => ?_)
    · skip
      have h9' : Lib.hasSuffix (vlOf t) [37] = true := h9
      clear h9
      refine AWp.region ?_
      refine zM (.str (Lib.trimSuffix (cutA 58 (cutA 60 t).2.1).1 [37])) ?_
      refine zc [.str (Lib.trimSuffix (cutA 58 (cutA 60 t).2.1).1 [37])] Tryz.call64 (tnum_any (Lib.trimSuffix (cutA 58 (cutA 60 t).2.1).1 [37]) (by first | omega | (simp only [List.length_append, List.length_cons, List.length_nil]; omega)) M) ?_
      rintro _ _ ⟨rfl, rfl⟩
      refine zr (zfL Tryz.underlying40 sizeOf_3) ?_
      refine zst sizeOf_3 (zI (numT (Lib.trimSuffix (cutA 58 (cutA 60 t).2.1).1 [37]))) ?_
      refine zN ?_
      refine AWp.seq ?_
      refine zj 65 [(0, .str t), (2, .lptr 2 0), (3, zI 0), (4, .lptr 4 0), (5, .str ((cutA 60 t).1)), (6, .str ((cutA 60 t).2.1)), (7, zB (t.contains 60)), (8, zI (((sigOf ((cutA 60 t).1)).toNat : Nat) : Int)), (9, zB (decide (sigOf ((cutA 60 t).1) ≥ 0))), (10, .str ((cutA 58 ((cutA 60 t).2.1)).1)), (11, .str ((cutA 58 ((cutA 60 t).2.1)).2.1)), (12, zB ((cutA 58 (cutA 60 t).2.1).2.2)), (36, zB ((cutA 58 (cutA 60 t).2.1).2.2)), (13, .str (Lib.trimSuffix (cutA 58 (cutA 60 t).2.1).1 [37])), (14, zB (Lib.hasSuffix (cutA 58 (cutA 60 t).2.1).1 [37])), (45, zB (Lib.hasSuffix (cutA 58 (cutA 60 t).2.1).1 [37]))] [(2, [zI 0, zI 0, zI 0, zB false, zI 0]), (4, [zI (((sigOf ((cutA 60 t).1)).toNat : Nat) : Int), zI (numT (Lib.trimSuffix (cutA 58 (cutA 60 t).2.1).1 [37])), zI 0, zB ((cutA 58 (cutA 60 t).2.1).2.2), zI 0])] M (bif (!(t.contains 60)) then true else (bif (!(decide (sigOf ((cutA 60 t).1) ≥ 0))) then true else (!(decide (RightT ⟨(((sigOf ((cutA 60 t).1)).toNat : Nat) : Int), numT (Lib.trimSuffix (cutA 58 (cutA 60 t).2.1).1 [37]), 0, (cutA 58 (cutA 60 t).2.1).2.2, 0⟩))))) ?_ ?_
      · skip
        refine zM (zB (t.contains 60)) ?_
        refine zr (zn (t.contains 60)) ?_
        refine zM (zB (!(t.contains 60))) ?_
        refine AOps.splitJ (t := 57) (b := !(t.contains 60)) (x := true) (y := (bif (!(decide (sigOf ((cutA 60 t).1) ≥ 0))) then true else (!(decide (RightT ⟨(((sigOf ((cutA 60 t).1)).toNat : Nat) : Int), numT (Lib.trimSuffix (cutA 58 (cutA 60 t).2.1).1 [37]), 0, (cutA 58 (cutA 60 t).2.1).2.2, 0⟩))))) rfl (fun h10 => ?_) (fun h10 => ?_)
        · skip
          refine zs ?_
          refine zs ?_
          refine zr (zp true (zB true)) ?_
          refine zM (zB true) ?_
          refine zs ?_
          refine zs ?_
          refine zs ?_
          refine zr (zp true (zB true)) ?_
          exact AOps.nil rfl
        · skip
          refine zM (zB (decide (sigOf ((cutA 60 t).1) ≥ 0))) ?_
          refine zr (zn (decide (sigOf ((cutA 60 t).1) ≥ 0))) ?_
          refine zr (zp false (zB (!(decide (sigOf ((cutA 60 t).1) ≥ 0))))) ?_
          refine zM (zB (!(decide (sigOf ((cutA 60 t).1) ≥ 0)))) ?_
          refine AOps.splitJ (t := 61) (b := !(decide (sigOf ((cutA 60 t).1) ≥ 0))) (x := true) (y := (!(decide (RightT ⟨(((sigOf ((cutA 60 t).1)).toNat : Nat) : Int), numT (Lib.trimSuffix (cutA 58 (cutA 60 t).2.1).1 [37]), 0, (cutA 58 (cutA 60 t).2.1).2.2, 0⟩)))) rfl (fun h11 => ?_) (fun h11 => ?_)
          · skip
            refine zs ?_
            refine zs ?_
            refine zs ?_
            refine zr (zp true (zB true)) ?_
            exact AOps.nil rfl
          · skip
            refine zr (zlL (.agg [zI (((sigOf ((cutA 60 t).1)).toNat : Nat) : Int), zI (numT (Lib.trimSuffix (cutA 58 (cutA 60 t).2.1).1 [37])), zI 0, zB ((cutA 58 (cutA 60 t).2.1).2.2), zI 0]) Tryz.underlying40 sizeOf_40) ?_
            refine zc [.agg [zI (((sigOf ((cutA 60 t).1)).toNat : Nat) : Int), zI (numT (Lib.trimSuffix (cutA 58 (cutA 60 t).2.1).1 [37])), zI 0, zB ((cutA 58 (cutA 60 t).2.1).2.2), zI 0]] Tryz.call36 (Right_any ⟨(((sigOf ((cutA 60 t).1)).toNat : Nat) : Int), numT (Lib.trimSuffix (cutA 58 (cutA 60 t).2.1).1 [37]), 0, (cutA 58 (cutA 60 t).2.1).2.2, 0⟩ M) ?_
            rintro _ _ ⟨rfl, rfl⟩
            refine zr (zn (decide (RightT ⟨(((sigOf ((cutA 60 t).1)).toNat : Nat) : Int), numT (Lib.trimSuffix (cutA 58 (cutA 60 t).2.1).1 [37]), 0, (cutA 58 (cutA 60 t).2.1).2.2, 0⟩))) ?_
            refine zr (zp false (zB (!(decide (RightT ⟨(((sigOf ((cutA 60 t).1)).toNat : Nat) : Int), numT (Lib.trimSuffix (cutA 58 (cutA 60 t).2.1).1 [37]), 0, (cutA 58 (cutA 60 t).2.1).2.2, 0⟩))))) ?_
            exact AOps.nil rfl
      have hth := thr_of (t := t) (by assumption) (by assumption)
      refine zC (b := bif (!(t.contains 60)) then true else (bif (!(decide (sigOf ((cutA 60 t).1) ≥ 0))) then true else (!(decide (RightT ⟨(((sigOf ((cutA 60 t).1)).toNat : Nat) : Int), numT (Lib.trimSuffix (cutA 58 (cutA 60 t).2.1).1 [37]), 0, (cutA 58 (cutA 60 t).2.1).2.2, 0⟩))))) rfl (fun h12 => ?_) (fun h12 => ?_)
      · skip
        have h12' : ¬ OkT t := (okt_no hth h12)
        clear h12
        refine zg ?_
        refine zr (Reader.build (xs := []) (Es := []) (places := places_40) rfl Tryz.underlying40 (by refine ⟨rfl, fun j p x hp hx => ?_⟩; match j, hp, hx with | _ + 0, hp, hx => cases hp) zero_40 rfl places_40_ok (cs := [zI 0, zI 0, zI 0, zB false, zI 0]) rfl) ?_
        refine zst sizeOf_40 (.agg [zI 0, zI 0, zI 0, zB false, zI 0]) ?_
        refine zM (zI 2) ?_
        refine zN ?_
        refine AWp.ret ?_
        exact ⟨.inl rfl, _, ResOf.cellTmp 2 2 0 5 40 _ _ (.agg [zI 0, zI 0, zI 0, zB false, zI 0]) rfl rfl Tryz.underlying40 sizeOf_40 rfl (Eq.refl true) 3 (zI 2) rfl (.inl rfl), ⟨by rw [(th_no (by assumption)).1, (th_no (by assumption)).2]; rfl, rfl⟩⟩
      · skip
        have h12' : OkT t := (okt_yes hth h12)
        clear h12
        refine AWp.skip ?_
        refine zg ?_
        refine zr (zlL (.agg [zI (((sigOf ((cutA 60 t).1)).toNat : Nat) : Int), zI (numT (Lib.trimSuffix (cutA 58 (cutA 60 t).2.1).1 [37])), zI 0, zB ((cutA 58 (cutA 60 t).2.1).2.2), zI 0]) Tryz.underlying40 sizeOf_40) ?_
        refine zst sizeOf_40 (.agg [zI (((sigOf ((cutA 60 t).1)).toNat : Nat) : Int), zI (numT (Lib.trimSuffix (cutA 58 (cutA 60 t).2.1).1 [37])), zI 0, zB ((cutA 58 (cutA 60 t).2.1).2.2), zI 0]) ?_
        refine zM (zI 0) ?_
        refine zN ?_
        refine AWp.ret ?_
        exact ⟨.inl rfl, _, ResOf.cellTmp 2 2 0 5 40 _ _ (.agg [zI (((sigOf ((cutA 60 t).1)).toNat : Nat) : Int), zI (numT (Lib.trimSuffix (cutA 58 (cutA 60 t).2.1).1 [37])), zI 0, zB ((cutA 58 (cutA 60 t).2.1).2.2), zI 0]) rfl rfl Tryz.underlying40 sizeOf_40 rfl (Eq.refl true) 3 (zI 0) rfl (.inl rfl), ⟨by rw [(th_ok (by assumption)).1, (th_ok (by assumption)).2, hth (okt_sig (by assumption))]; rfl, rfl⟩⟩
    · skip
      have h9' : Lib.hasSuffix (vlOf t) [37] = false := h9
      clear h9
      refine AWp.region ?_
      refine zM (.str ((cutA 58 ((cutA 60 t).2.1)).1)) ?_
      refine zc [.str ((cutA 58 ((cutA 60 t).2.1)).1)] Tryz.call66 (Read_any ((cutA 58 ((cutA 60 t).2.1)).1) (by first | assumption | omega | (simp only [List.length_append, List.length_cons, List.length_nil]; omega)) M) ?_
      rintro _ _ ⟨rfl, rfl⟩
      refine zM (.tuple [zI ((qv ((cutA 58 ((cutA 60 t).2.1)).1) : Nat) : Int), zI (qe ((cutA 58 ((cutA 60 t).2.1)).1))]) ?_
      refine zr (zx (zI ((qv ((cutA 58 ((cutA 60 t).2.1)).1) : Nat) : Int))) ?_
      refine zr (zx (zI (qe ((cutA 58 ((cutA 60 t).2.1)).1)))) ?_
      refine zr (zfL Tryz.underlying40 sizeOf_3) ?_
      refine zst sizeOf_3 (zI ((qv ((cutA 58 ((cutA 60 t).2.1)).1) : Nat) : Int)) ?_
      refine zN ?_
      refine AWp.seq ?_
      refine zj 65 [(0, .str t), (2, .lptr 2 0), (3, zI 0), (4, .lptr 4 0), (5, .str ((cutA 60 t).1)), (6, .str ((cutA 60 t).2.1)), (7, zB (t.contains 60)), (8, zI (((sigOf ((cutA 60 t).1)).toNat : Nat) : Int)), (9, zB (decide (sigOf ((cutA 60 t).1) ≥ 0))), (10, .str ((cutA 58 ((cutA 60 t).2.1)).1)), (11, .str ((cutA 58 ((cutA 60 t).2.1)).2.1)), (12, zB ((cutA 58 (cutA 60 t).2.1).2.2)), (36, zB ((cutA 58 (cutA 60 t).2.1).2.2)), (13, .str (Lib.trimSuffix (cutA 58 (cutA 60 t).2.1).1 [37])), (14, zB (Lib.hasSuffix (cutA 58 (cutA 60 t).2.1).1 [37])), (45, zB (Lib.hasSuffix (cutA 58 (cutA 60 t).2.1).1 [37]))] [(2, [zI 0, zI 0, zI 0, zB false, zI 0]), (4, [zI (((sigOf ((cutA 60 t).1)).toNat : Nat) : Int), zI 0, zI ((qv ((cutA 58 ((cutA 60 t).2.1)).1) : Nat) : Int), zB ((cutA 58 (cutA 60 t).2.1).2.2), zI 0])] M (bif (!(t.contains 60)) then true else (bif (!(decide (sigOf ((cutA 60 t).1) ≥ 0))) then true else (!(decide (RightT ⟨(((sigOf ((cutA 60 t).1)).toNat : Nat) : Int), 0, ((qv ((cutA 58 ((cutA 60 t).2.1)).1) : Nat) : Int), (cutA 58 (cutA 60 t).2.1).2.2, 0⟩))))) ?_ ?_
      · skip
        refine zM (zB (t.contains 60)) ?_
        refine zr (zn (t.contains 60)) ?_
        refine zM (zB (!(t.contains 60))) ?_
        refine AOps.splitJ (t := 57) (b := !(t.contains 60)) (x := true) (y := (bif (!(decide (sigOf ((cutA 60 t).1) ≥ 0))) then true else (!(decide (RightT ⟨(((sigOf ((cutA 60 t).1)).toNat : Nat) : Int), 0, ((qv ((cutA 58 ((cutA 60 t).2.1)).1) : Nat) : Int), (cutA 58 (cutA 60 t).2.1).2.2, 0⟩))))) rfl (fun h13 => ?_) (fun h13 => ?_)
        · skip
          refine zs ?_
          refine zs ?_
          refine zr (zp true (zB true)) ?_
          refine zM (zB true) ?_
          refine zs ?_
          refine zs ?_
          refine zs ?_
          refine zr (zp true (zB true)) ?_
          exact AOps.nil rfl
        · skip
          refine zM (zB (decide (sigOf ((cutA 60 t).1) ≥ 0))) ?_
          refine zr (zn (decide (sigOf ((cutA 60 t).1) ≥ 0))) ?_
          refine zr (zp false (zB (!(decide (sigOf ((cutA 60 t).1) ≥ 0))))) ?_
          refine zM (zB (!(decide (sigOf ((cutA 60 t).1) ≥ 0)))) ?_
          refine AOps.splitJ (t := 61) (b := !(decide (sigOf ((cutA 60 t).1) ≥ 0))) (x := true) (y := (!(decide (RightT ⟨(((sigOf ((cutA 60 t).1)).toNat : Nat) : Int), 0, ((qv ((cutA 58 ((cutA 60 t).2.1)).1) : Nat) : Int), (cutA 58 (cutA 60 t).2.1).2.2, 0⟩)))) rfl (fun h14 => ?_) (fun h14 => ?_)
          · skip
            refine zs ?_
            refine zs ?_
            refine zs ?_
            refine zr (zp true (zB true)) ?_
            exact AOps.nil rfl
          · skip
            refine zr (zlL (.agg [zI (((sigOf ((cutA 60 t).1)).toNat : Nat) : Int), zI 0, zI ((qv ((cutA 58 ((cutA 60 t).2.1)).1) : Nat) : Int), zB ((cutA 58 (cutA 60 t).2.1).2.2), zI 0]) Tryz.underlying40 sizeOf_40) ?_
            refine zc [.agg [zI (((sigOf ((cutA 60 t).1)).toNat : Nat) : Int), zI 0, zI ((qv ((cutA 58 ((cutA 60 t).2.1)).1) : Nat) : Int), zB ((cutA 58 (cutA 60 t).2.1).2.2), zI 0]] Tryz.call36 (Right_any ⟨(((sigOf ((cutA 60 t).1)).toNat : Nat) : Int), 0, ((qv ((cutA 58 ((cutA 60 t).2.1)).1) : Nat) : Int), (cutA 58 (cutA 60 t).2.1).2.2, 0⟩ M) ?_
            rintro _ _ ⟨rfl, rfl⟩
            refine zr (zn (decide (RightT ⟨(((sigOf ((cutA 60 t).1)).toNat : Nat) : Int), 0, ((qv ((cutA 58 ((cutA 60 t).2.1)).1) : Nat) : Int), (cutA 58 (cutA 60 t).2.1).2.2, 0⟩))) ?_
            refine zr (zp false (zB (!(decide (RightT ⟨(((sigOf ((cutA 60 t).1)).toNat : Nat) : Int), 0, ((qv ((cutA 58 ((cutA 60 t).2.1)).1) : Nat) : Int), (cutA 58 (cutA 60 t).2.1).2.2, 0⟩))))) ?_
            exact AOps.nil rfl
      have hth := thr_of (t := t) (by assumption) (by assumption)
      refine zC (b := bif (!(t.contains 60)) then true else (bif (!(decide (sigOf ((cutA 60 t).1) ≥ 0))) then true else (!(decide (RightT ⟨(((sigOf ((cutA 60 t).1)).toNat : Nat) : Int), 0, ((qv ((cutA 58 ((cutA 60 t).2.1)).1) : Nat) : Int), (cutA 58 (cutA 60 t).2.1).2.2, 0⟩))))) rfl (fun h15 => ?_) (fun h15 => ?_)
      · skip
        have h15' : ¬ OkT t := (okt_no hth h15)
        clear h15
        refine zg ?_
        refine zr (Reader.build (xs := []) (Es := []) (places := places_40) rfl Tryz.underlying40 (by refine ⟨rfl, fun j p x hp hx => ?_⟩; match j, hp, hx with | _ + 0, hp, hx => cases hp) zero_40 rfl places_40_ok (cs := [zI 0, zI 0, zI 0, zB false, zI 0]) rfl) ?_
        refine zst sizeOf_40 (.agg [zI 0, zI 0, zI 0, zB false, zI 0]) ?_
        refine zM (zI 2) ?_
        refine zN ?_
        refine AWp.ret ?_
        exact ⟨.inl rfl, _, ResOf.cellTmp 2 2 0 5 40 _ _ (.agg [zI 0, zI 0, zI 0, zB false, zI 0]) rfl rfl Tryz.underlying40 sizeOf_40 rfl (Eq.refl true) 3 (zI 2) rfl (.inl rfl), ⟨by rw [(th_no (by assumption)).1, (th_no (by assumption)).2]; rfl, rfl⟩⟩
      · skip
        have h15' : OkT t := (okt_yes hth h15)
        clear h15
        refine AWp.skip ?_
        refine zg ?_
        refine zr (zlL (.agg [zI (((sigOf ((cutA 60 t).1)).toNat : Nat) : Int), zI 0, zI ((qv ((cutA 58 ((cutA 60 t).2.1)).1) : Nat) : Int), zB ((cutA 58 (cutA 60 t).2.1).2.2), zI 0]) Tryz.underlying40 sizeOf_40) ?_
        refine zst sizeOf_40 (.agg [zI (((sigOf ((cutA 60 t).1)).toNat : Nat) : Int), zI 0, zI ((qv ((cutA 58 ((cutA 60 t).2.1)).1) : Nat) : Int), zB ((cutA 58 (cutA 60 t).2.1).2.2), zI 0]) ?_
        refine zM (zI 0) ?_
        refine zN ?_
        refine AWp.ret ?_
        exact ⟨.inl rfl, _, ResOf.cellTmp 2 2 0 5 40 _ _ (.agg [zI (((sigOf ((cutA 60 t).1)).toNat : Nat) : Int), zI 0, zI ((qv ((cutA 58 ((cutA 60 t).2.1)).1) : Nat) : Int), zB ((cutA 58 (cutA 60 t).2.1).2.2), zI 0]) rfl rfl Tryz.underlying40 sizeOf_40 rfl (Eq.refl true) 3 (zI 0) rfl (.inl rfl), ⟨by rw [(th_ok (by assumption)).1, (th_ok (by assumption)).2, hth (okt_sig (by assumption))]; rfl, rfl⟩⟩
end
section
open Go.RowKit

theorem find_ne {t : List UInt8} {c : UInt8} {i : Nat} (hc : t.contains c = false) (hi : i < t.length) : ¬ (t.getD i 0).toNat = c.toNat := by
  intro e
  have e2 : t.getD i 0 = c := UInt8.toNat_inj.1 e
  rw [List.getD_eq_getElem?_getD, List.getElem?_eq_getElem hi] at e2
  have : c ∈ t := by rw [← e2]; exact List.getElem_mem hi
  rw [List.contains_eq_mem] at hc
  simp [this] at hc
theorem find_end {t : List UInt8} {c : UInt8} {i : Nat} (hc : t.contains c = true) (hi : i ≤ t.length) (hno : ∀ j, j < i → t.getD j 0 ≠ c) : i < t.length := by
  rcases Nat.lt_or_ge i t.length with h | h
  · exact h
  · have hm : c ∈ t := by simpa using hc
    obtain ⟨j, hj, e⟩ := List.mem_iff_getElem.1 hm
    have := hno j (by omega)
    rw [List.getD_eq_getElem?_getD, List.getElem?_eq_getElem hj] at this
    exact absurd e this
theorem find_at {t : List UInt8} {c : UInt8} {i : Nat} (hi : i < t.length) (hno : ∀ j, j < i → t.getD j 0 ≠ c) (he : (t.getD i 0).toNat = c.toNat) : i = (cutA c t).1.length := by
  have e2 : t.getD i 0 = c := UInt8.toNat_inj.1 he
  have := (tw_to (· != c) t i (by omega) (fun j hj => bne_iff_ne.2 (hno j hj)) (fun _ => by rw [e2]; simp)).1
  show i = (t.takeWhile (· != c)).length
  rw [this, List.length_take]; omega
/-- No number of up to four digits, by its length or a zero ahead. -/
def NumBad (s : List UInt8) : Prop := s = [] ∨ 4 < s.length ∨ (s.getD 0 0 = 48 ∧ 1 < s.length)
theorem nb_t {t : List UInt8} (h : (bif (t.length : Int) == 0 then true else (bif decide ((t.length : Int) > 4) then true else (bif ((t.getD 0 0).toNat : Int) == 48 then decide ((t.length : Int) > 1) else false))) = true) : NumBad t := by
  unfold NumBad
  by_cases h0 : (t.length : Int) = 0
  · exact .inl (List.length_eq_zero_iff.1 (by omega))
  · rw [beq_eq_false_iff_ne.2 h0, cond_false] at h
    by_cases h1 : (t.length : Int) > 4
    · exact .inr (.inl (by omega))
    · rw [decide_eq_false h1, cond_false] at h
      by_cases h2 : ((t.getD 0 0).toNat : Int) = 48
      · rw [beq_iff_eq.2 h2, cond_true] at h
        have := of_decide_eq_true h
        exact .inr (.inr ⟨UInt8.toNat_inj.1 (by show _ = 48; omega), by omega⟩)
      · rw [beq_eq_false_iff_ne.2 h2] at h; cases h
theorem nb_f {t : List UInt8} (h : (bif (t.length : Int) == 0 then true else (bif decide ((t.length : Int) > 4) then true else (bif ((t.getD 0 0).toNat : Int) == 48 then decide ((t.length : Int) > 1) else false))) = false) : ¬ NumBad t := by
  rintro (h0 | h1 | ⟨h2, h3⟩)
  · rw [h0] at h; cases h
  · rw [beq_eq_false_iff_ne.2 (show ¬ (t.length : Int) = 0 by omega), cond_false, decide_eq_true (show (t.length : Int) > 4 by omega)] at h; cases h
  · have e : (bif decide ((t.length : Int) > 4) then true else true) = true := by cases decide ((t.length : Int) > 4) <;> rfl
    rw [beq_eq_false_iff_ne.2 (show ¬ (t.length : Int) = 0 by omega), cond_false, h2, decide_eq_true (show (t.length : Int) > 1 by omega)] at h
    rw [show ((((48 : UInt8).toNat : Nat) : Int) == 48) = true from rfl, cond_true, e] at h
    cases h
theorem nb_len {t : List UInt8} (h : ¬ NumBad t) : 1 ≤ t.length ∧ t.length ≤ 4 := by
  unfold NumBad at h
  rcases Nat.eq_zero_or_pos t.length with h0 | h0
  · exact absurd (.inl (List.length_eq_zero_iff.1 h0)) h
  · rcases Nat.lt_or_ge 4 t.length with h1 | h1
    · exact absurd (.inr (.inl h1)) h
    · exact ⟨h0, h1⟩
theorem nd_t {c : UInt8} (h : (bif decide ((c.toNat : Int) < 48) then true else decide ((c.toNat : Int) > 57)) = true) : isD c = false := by
  rw [isD_iff]
  by_cases h1 : (c.toNat : Int) < 48
  · rw [decide_eq_false (show ¬ 48 ≤ c.toNat by omega)]; rfl
  · rw [decide_eq_false h1, cond_false] at h
    have := of_decide_eq_true h
    rw [decide_eq_false (show ¬ c.toNat ≤ 57 by omega), Bool.and_false]
theorem nd_f {c : UInt8} (h : (bif decide ((c.toNat : Int) < 48) then true else decide ((c.toNat : Int) > 57)) = false) : isD c = true ∧ 48 ≤ c.toNat ∧ c.toNat ≤ 57 := by
  by_cases h1 : (c.toNat : Int) < 48
  · rw [decide_eq_true h1] at h; cases h
  · rw [decide_eq_false h1, cond_false] at h
    have := of_decide_eq_false h
    refine ⟨?_, by omega, by omega⟩
    rw [isD_iff, decide_eq_true (show 48 ≤ c.toNat by omega), decide_eq_true (show c.toNat ≤ 57 by omega)]; rfl
theorem dec_le4 {t : List UInt8} {i : Nat} (h4 : t.length ≤ 4 ∧ i ≤ t.length) (hall : ∀ j, j < i → isD (t.getD j 0) = true) : decV (t.take i) ≤ 9999 := by
  have hd : ∀ c ∈ t.take i, isD c = true := by
    intro c hc
    obtain ⟨j, hj, rfl⟩ := List.mem_iff_getElem.1 hc
    rw [List.length_take] at hj
    have := hall j (by omega)
    rw [List.getD_eq_getElem?_getD, List.getElem?_eq_getElem (by omega)] at this
    rw [List.getElem_take]; exact this
  have h1 := decV_lt (t.take i) hd
  have h2 : (10 : Nat) ^ (t.take i).length ≤ 10 ^ 4 := Nat.pow_le_pow_right (by decide) (by rw [List.length_take]; omega)
  omega
theorem dec_step4 {t : List UInt8} {i : Nat} (hi : i < t.length) (hd : decV (t.take i) ≤ 9999) (h : isD (t.getD i 0) = true ∧ 48 ≤ (t.getD i 0).toNat ∧ (t.getD i 0).toNat ≤ 57) : 10 * decV (t.take i) + (t.getD i 0).toNat - 48 = decV (t.take (i + 1)) := by
  have := decV_step (l := t) hi
  rw [← this, satN_of (x := decV (t.take i) * 10) (by omega), satN_of (by omega)]; omega
theorem rnum_no {t : List UInt8} (h : NumBad t) : numR t = -1 := by unfold NumBad at h; unfold numR; rw [if_pos h]
theorem rnum_bad {t : List UInt8} {i : Nat} (hb : ¬ NumBad t) (hi : i < t.length) (h : isD (t.getD i 0) = false) : numR t = -1 := by
  unfold NumBad at hb
  unfold numR
  rw [if_neg hb, if_neg]
  intro hall
  have := List.all_eq_true.1 hall (t.getD i 0) (by rw [List.getD_eq_getElem?_getD, List.getElem?_eq_getElem hi]; exact List.getElem_mem hi)
  rw [h] at this; cases this
theorem rnum_ok {t : List UInt8} {i : Nat} (hb : ¬ NumBad t) (hall : ∀ j, j < i → isD (t.getD j 0) = true) (hi : t.length ≤ i) : numR t = ((decV (t.take i) : Nat) : Int) := by
  unfold NumBad at hb
  unfold numR
  rw [if_neg hb, if_pos, List.take_of_length_le hi]
  refine List.all_eq_true.2 fun c hc => ?_
  obtain ⟨j, hj, rfl⟩ := List.mem_iff_getElem.1 hc
  have := hall j (by omega)
  rw [List.getD_eq_getElem?_getD, List.getElem?_eq_getElem hj] at this
  exact this

set_option maxRecDepth 20000 in
theorem rWord_any (i : Int) (M : Nat → Option (List AV)) : ACall Tryz.prog 47 [zI i] M (fun r M' => r = .str (wordOf i) ∧ M = M') := by
  refine ACall.of Tryz.func47 rfl (n := 7) rfl rfl rfl ?_
  refine zg ?_
  refine zM (.str []) ?_
  refine zN ?_
  refine AWp.seq ?_
  refine zg ?_
  refine zM (zI i) ?_
  refine zr (zi (i == 0)) ?_
  refine zN ?_
  refine zC (b := i == 0) rfl (fun h1 => ?_) (fun h1 => ?_)
  · skip
    have h1' : i = 0 := (by have hh := eq_of_beq h1; omega)
    clear h1
    refine zg ?_
    refine zM (.str [109, 101, 109, 111, 114, 121]) ?_
    refine zN ?_
    refine AWp.ret ?_
    exact ⟨.inl rfl, _, ResOf.one 2 (.str [109, 101, 109, 111, 114, 121]) rfl rfl, ⟨congrArg AV.str (by unfold wordOf; first | (rw [if_pos (by assumption)]; rfl) | (rw [if_neg (by assumption), if_pos (by assumption)]; rfl) | (rw [if_neg (by assumption), if_neg (by assumption)]; rfl)), rfl⟩⟩
  · skip
    have h1' : ¬ (i = 0) := (by have hh := beq_eq_false_iff_ne.1 h1; omega)
    clear h1
    refine AWp.skip ?_
    refine AWp.seq ?_
    refine zg ?_
    refine zM (zI i) ?_
    refine zr (zi (i == 1)) ?_
    refine zN ?_
    refine zC (b := i == 1) rfl (fun h2 => ?_) (fun h2 => ?_)
    · skip
      have h2' : i = 1 := (by have hh := eq_of_beq h2; omega)
      clear h2
      refine zg ?_
      refine zM (.str [100, 105, 115, 107]) ?_
      refine zN ?_
      refine AWp.ret ?_
      exact ⟨.inl rfl, _, ResOf.one 2 (.str [100, 105, 115, 107]) rfl rfl, ⟨congrArg AV.str (by unfold wordOf; first | (rw [if_pos (by assumption)]; rfl) | (rw [if_neg (by assumption), if_pos (by assumption)]; rfl) | (rw [if_neg (by assumption), if_neg (by assumption)]; rfl)), rfl⟩⟩
    · skip
      have h2' : ¬ (i = 1) := (by have hh := beq_eq_false_iff_ne.1 h2; omega)
      clear h2
      refine AWp.skip ?_
      refine zg ?_
      refine zM (.str [112, 105, 100]) ?_
      refine zN ?_
      refine AWp.ret ?_
      exact ⟨.inl rfl, _, ResOf.one 2 (.str [112, 105, 100]) rfl rfl, ⟨congrArg AV.str (by unfold wordOf; first | (rw [if_pos (by assumption)]; rfl) | (rw [if_neg (by assumption), if_pos (by assumption)]; rfl) | (rw [if_neg (by assumption), if_neg (by assumption)]; rfl)), rfl⟩⟩

set_option maxRecDepth 20000 in
theorem find_no (t : List UInt8) (c : UInt8) (hl : t.length ≤ 4294967280) (hc : t.contains c = false) (M : Nat → Option (List AV)) : ACall Tryz.prog 46 [.str t, .lit (.int .u8 (c.toNat : Int))] M (fun r M' => r = zI (-1) ∧ M = M') := by
  refine ACall.of Tryz.func46 rfl (n := 18) rfl rfl rfl ?_
  refine zg ?_
  refine zM (zI 0) ?_
  refine zN ?_
  refine AWp.seq ?_
  refine zg ?_
  refine zM (zI 0) ?_
  refine zN ?_
  refine AWp.block ?_
  refine AWp.loopE [0, 1, 5] [] (fun m s => ∃ (i : Nat), m = t.length - i ∧ s = ⟨[(0, .str t), (1, .lit (.int .u8 (c.toNat : Int))), (5, zI (i : Int))], [], M⟩ ∧ (i ≤ t.length) ∧ (∀ j, j < i → t.getD j 0 ≠ c)) ?_ ?_
  · exact ⟨_, 0, rfl, rfl, Nat.zero_le _, fun j hj => by omega⟩
  · rintro _ _ ⟨i, rfl, rfl, hi, hno⟩
    refine AWp.seq ?_
    refine zg ?_
    refine zM (zI (i : Int)) ?_
    refine zM (.str t) ?_
    refine zr (zS t t.length Tryz.underlying9) ?_
    refine zr (zi (decide ((i : Int) < (t.length : Int)))) ?_
    refine zN ?_
    refine zC (b := decide ((i : Int) < (t.length : Int))) rfl (fun h1 => ?_) (fun h1 => ?_)
    · skip
      have h1' : i < t.length := (by have hh := of_decide_eq_true h1; omega)
      clear h1
      refine AWp.skip ?_
      refine AWp.seq ?_
      refine AWp.block ?_
      refine zg ?_
      refine zM (.str t) ?_
      refine zM (zI (i : Int)) ?_
      refine zr (Reader.byte (m := i) (c := t.getD i 0) rfl Tryz.underlying9 rfl rfl rfl (getD_some (by first | omega | (simp; omega)))) ?_
      refine zM (.lit (.int .u8 (c.toNat : Int))) ?_
      refine zr (zi (((t.getD i 0).toNat : Int) == (c.toNat : Int))) ?_
      refine zN ?_
      refine zC (b := ((t.getD i 0).toNat : Int) == (c.toNat : Int)) rfl (fun h2 => ?_) (fun h2 => ?_)
      · skip
        have h2' : ((t.getD i 0).toNat) = c.toNat := (by have hh := eq_of_beq h2; omega)
        clear h2
        refine zg ?_
        refine zM (zI (i : Int)) ?_
        refine zM (zI (i : Int)) ?_
        refine zN ?_
        refine AWp.ret ?_
        exact ⟨.inl rfl, _, ResOf.one 4 (zI (i : Int)) rfl rfl, ⟨absurd (by assumption) (find_ne hc (by omega)), rfl⟩⟩
      · skip
        have h2' : ¬ (((t.getD i 0).toNat) = c.toNat) := (by have hh := beq_eq_false_iff_ne.1 h2; omega)
        clear h2
        refine AWp.skip ?_
        refine AWp.region ?_
        refine zM (zI (i : Int)) ?_
        refine zr (zw ((i : Int) + 1) ((i + 1 : Nat) : Int)) ?_
        refine zM (zI ((i + 1 : Nat) : Int)) ?_
        refine zN ?_
        exact ⟨_, by omega, i + 1, rfl, rfl, by omega, nx_0 hno (fun e => (by assumption : ¬ (t.getD i 0).toNat = c.toNat) (by rw [e]))⟩
    · skip
      have h1' : ¬ (i < t.length) := (by have hh := of_decide_eq_false h1; omega)
      clear h1
      refine AWp.exit ?_
      refine zg ?_
      refine zM (zI (-1)) ?_
      refine zN ?_
      refine AWp.ret ?_
      exact ⟨.inl rfl, _, ResOf.one 4 (zI (-1)) rfl rfl, ⟨rfl, rfl⟩⟩

set_option maxRecDepth 20000 in
theorem find_yes (t : List UInt8) (c : UInt8) (hl : t.length ≤ 4294967280) (hc : t.contains c = true) (M : Nat → Option (List AV)) : ACall Tryz.prog 46 [.str t, .lit (.int .u8 (c.toNat : Int))] M (fun r M' => r = zI ((cutA c t).1.length : Int) ∧ M = M') := by
  refine ACall.of Tryz.func46 rfl (n := 18) rfl rfl rfl ?_
  refine zg ?_
  refine zM (zI 0) ?_
  refine zN ?_
  refine AWp.seq ?_
  refine zg ?_
  refine zM (zI 0) ?_
  refine zN ?_
  refine AWp.block ?_
  refine AWp.loopE [0, 1, 5] [] (fun m s => ∃ (i : Nat), m = t.length - i ∧ s = ⟨[(0, .str t), (1, .lit (.int .u8 (c.toNat : Int))), (5, zI (i : Int))], [], M⟩ ∧ (i ≤ t.length) ∧ (∀ j, j < i → t.getD j 0 ≠ c)) ?_ ?_
  · exact ⟨_, 0, rfl, rfl, Nat.zero_le _, fun j hj => by omega⟩
  · rintro _ _ ⟨i, rfl, rfl, hi, hno⟩
    refine AWp.seq ?_
    refine zg ?_
    refine zM (zI (i : Int)) ?_
    refine zM (.str t) ?_
    refine zr (zS t t.length Tryz.underlying9) ?_
    refine zr (zi (decide ((i : Int) < (t.length : Int)))) ?_
    refine zN ?_
    refine zC (b := decide ((i : Int) < (t.length : Int))) rfl (fun h1 => ?_) (fun h1 => ?_)
    · skip
      have h1' : i < t.length := (by have hh := of_decide_eq_true h1; omega)
      clear h1
      refine AWp.skip ?_
      refine AWp.seq ?_
      refine AWp.block ?_
      refine zg ?_
      refine zM (.str t) ?_
      refine zM (zI (i : Int)) ?_
      refine zr (Reader.byte (m := i) (c := t.getD i 0) rfl Tryz.underlying9 rfl rfl rfl (getD_some (by first | omega | (simp; omega)))) ?_
      refine zM (.lit (.int .u8 (c.toNat : Int))) ?_
      refine zr (zi (((t.getD i 0).toNat : Int) == (c.toNat : Int))) ?_
      refine zN ?_
      refine zC (b := ((t.getD i 0).toNat : Int) == (c.toNat : Int)) rfl (fun h2 => ?_) (fun h2 => ?_)
      · skip
        have h2' : ((t.getD i 0).toNat) = c.toNat := (by have hh := eq_of_beq h2; omega)
        clear h2
        refine zg ?_
        refine zM (zI (i : Int)) ?_
        refine zM (zI (i : Int)) ?_
        refine zN ?_
        refine AWp.ret ?_
        exact ⟨.inl rfl, _, ResOf.one 4 (zI (i : Int)) rfl rfl, ⟨congrArg (fun x : Nat => AV.lit (.int .i64 (x : Int))) (find_at (by omega) hno (by assumption)), rfl⟩⟩
      · skip
        have h2' : ¬ (((t.getD i 0).toNat) = c.toNat) := (by have hh := beq_eq_false_iff_ne.1 h2; omega)
        clear h2
        refine AWp.skip ?_
        refine AWp.region ?_
        refine zM (zI (i : Int)) ?_
        refine zr (zw ((i : Int) + 1) ((i + 1 : Nat) : Int)) ?_
        refine zM (zI ((i + 1 : Nat) : Int)) ?_
        refine zN ?_
        exact ⟨_, by omega, i + 1, rfl, rfl, by omega, nx_0 hno (fun e => (by assumption : ¬ (t.getD i 0).toNat = c.toNat) (by rw [e]))⟩
    · skip
      have h1' : ¬ (i < t.length) := (by have hh := of_decide_eq_false h1; omega)
      clear h1
      refine AWp.exit ?_
      refine zg ?_
      refine zM (zI (-1)) ?_
      refine zN ?_
      refine AWp.ret ?_
      exact ⟨.inl rfl, _, ResOf.one 4 (zI (-1)) rfl rfl, ⟨absurd (find_end hc hi hno) (by omega), rfl⟩⟩

set_option maxRecDepth 20000 in
theorem rnum_any (t : List UInt8) (hl : t.length ≤ 4294967280) (M : Nat → Option (List AV)) : ACall Tryz.prog 48 [.str t] M (fun r M' => r = zI (numR t) ∧ M = M') := by
  refine ACall.of Tryz.func48 rfl (n := 48) rfl rfl rfl ?_
  refine zg ?_
  refine zM (zI 0) ?_
  refine zN ?_
  refine AWp.seq ?_
  refine zj 22 [(0, .str t), (2, zI 0)] [] M (bif ((t.length : Int) == 0) then true else (bif (decide ((t.length : Int) > 4)) then true else (bif (((t.getD 0 0).toNat : Int) == 48) then (decide ((t.length : Int) > 1)) else false))) ?_ ?_
  · skip
    refine zM (.str t) ?_
    refine zr (zS t t.length Tryz.underlying9) ?_
    refine zr (zi ((t.length : Int) == 0)) ?_
    refine zM (zB ((t.length : Int) == 0)) ?_
    refine AOps.splitJ (t := 8) (b := (t.length : Int) == 0) (x := true) (y := (bif (decide ((t.length : Int) > 4)) then true else (bif (((t.getD 0 0).toNat : Int) == 48) then (decide ((t.length : Int) > 1)) else false))) rfl (fun h1 => ?_) (fun h1 => ?_)
    · skip
      have h1' : t.length = 0 := (by have hh := eq_of_beq h1; omega)
      clear h1
      refine zs ?_
      refine zs ?_
      refine zs ?_
      refine zr (zp true (zB true)) ?_
      refine zM (zB true) ?_
      refine zs ?_
      refine zs ?_
      refine zs ?_
      refine zs ?_
      refine zs ?_
      refine zs ?_
      refine zs ?_
      refine zs ?_
      refine zr (zp true (zB true)) ?_
      exact AOps.nil rfl
    · skip
      have h1' : ¬ (t.length = 0) := (by have hh := beq_eq_false_iff_ne.1 h1; omega)
      clear h1
      refine zM (.str t) ?_
      refine zr (zS t t.length Tryz.underlying9) ?_
      refine zr (zi (decide ((t.length : Int) > 4))) ?_
      refine zr (zp false (zB (decide ((t.length : Int) > 4)))) ?_
      refine zM (zB (decide ((t.length : Int) > 4))) ?_
      refine AOps.splitJ (t := 13) (b := decide ((t.length : Int) > 4)) (x := true) (y := (bif (((t.getD 0 0).toNat : Int) == 48) then (decide ((t.length : Int) > 1)) else false)) rfl (fun h2 => ?_) (fun h2 => ?_)
      · skip
        have h2' : t.length > 4 := (by have hh := of_decide_eq_true h2; omega)
        clear h2
        refine zs ?_
        refine zs ?_
        refine zs ?_
        refine zs ?_
        refine zs ?_
        refine zs ?_
        refine zs ?_
        refine zs ?_
        refine zr (zp true (zB true)) ?_
        exact AOps.nil rfl
      · skip
        have h2' : ¬ (t.length > 4) := (by have hh := of_decide_eq_false h2; omega)
        clear h2
        refine zM (.str t) ?_
        refine zr (Reader.byte (m := 0) (c := t.getD 0 0) rfl Tryz.underlying9 rfl rfl rfl (getD_some (by first | omega | (simp; omega)))) ?_
        refine zr (zi (((t.getD 0 0).toNat : Int) == 48)) ?_
        refine zM (zB (((t.getD 0 0).toNat : Int) == 48)) ?_
        refine AOps.splitJ (t := 17) (b := ((t.getD 0 0).toNat : Int) == 48) (x := (decide ((t.length : Int) > 1))) (y := false) rfl (fun h3 => ?_) (fun h3 => ?_)
        · skip
          have h3' : ((t.getD 0 0).toNat) = 48 := (by have hh := eq_of_beq h3; omega)
          clear h3
          refine zM (.str t) ?_
          refine zr (zS t t.length Tryz.underlying9) ?_
          refine zr (zi (decide ((t.length : Int) > 1))) ?_
          refine zr (zp true (zB (decide ((t.length : Int) > 1)))) ?_
          refine zr (zp false (zB (decide ((t.length : Int) > 1)))) ?_
          exact AOps.nil rfl
        · skip
          have h3' : ¬ (((t.getD 0 0).toNat) = 48) := (by have hh := beq_eq_false_iff_ne.1 h3; omega)
          clear h3
          refine zs ?_
          refine zs ?_
          refine zs ?_
          refine zr (zp false (zB false)) ?_
          refine zr (zp false (zB false)) ?_
          exact AOps.nil rfl
  refine zC (b := bif ((t.length : Int) == 0) then true else (bif (decide ((t.length : Int) > 4)) then true else (bif (((t.getD 0 0).toNat : Int) == 48) then (decide ((t.length : Int) > 1)) else false))) rfl (fun h4 => ?_) (fun h4 => ?_)
  · skip
    have h4' : NumBad t := (nb_t h4)
    clear h4
    refine zg ?_
    refine zM (zI (-1)) ?_
    refine zN ?_
    refine AWp.ret ?_
    exact ⟨.inl rfl, _, ResOf.one 2 (zI (-1)) rfl rfl, ⟨congrArg (fun x : Int => AV.lit (.int .i64 x)) (by first | exact (rnum_no (by assumption)).symm | exact (rnum_bad hb (by omega) (by assumption)).symm), rfl⟩⟩
  · skip
    have h4' : ¬ NumBad t := (nb_f h4)
    clear h4
    refine AWp.skip ?_
    refine zg ?_
    refine zM (zI 0) ?_
    refine zN ?_
    refine AWp.seq ?_
    refine zg ?_
    refine zM (zI 0) ?_
    refine zN ?_
    refine AWp.block ?_
    refine AWp.loopE [0, 3, 4] [] (fun m s => ∃ (i : Nat), m = t.length - i ∧ s = ⟨[(0, .str t), (3, zI ((decV (t.take i) : Nat) : Int)), (4, zI (i : Int))], [], M⟩ ∧ (i ≤ t.length) ∧ (¬ NumBad t) ∧ (∀ j, j < i → isD (t.getD j 0) = true)) ?_ ?_
    · exact ⟨_, 0, rfl, rfl, Nat.zero_le _, by assumption, fun j hj => by omega⟩
    · rintro _ _ ⟨i, rfl, rfl, hi, hb, hall⟩
      have h4 := nb_len hb
      have hdl := dec_le4 (i := i) (by omega) hall
      refine AWp.seq ?_
      refine zg ?_
      refine zM (zI (i : Int)) ?_
      refine zM (.str t) ?_
      refine zr (zS t t.length Tryz.underlying9) ?_
      refine zr (zi (decide ((i : Int) < (t.length : Int)))) ?_
      refine zN ?_
      refine zC (b := decide ((i : Int) < (t.length : Int))) rfl (fun h5 => ?_) (fun h5 => ?_)
      · skip
        have h5' : i < t.length := (by have hh := of_decide_eq_true h5; omega)
        clear h5
        refine AWp.skip ?_
        refine AWp.seq ?_
        refine AWp.block ?_
        refine AWp.seq ?_
        refine zj 38 [(0, .str t), (3, zI ((decV (t.take i) : Nat) : Int)), (4, zI (i : Int)), (26, zB (decide ((i : Int) < (t.length : Int))))] [] M (bif (decide (((t.getD i 0).toNat : Int) < 48)) then true else (decide (((t.getD i 0).toNat : Int) > 57))) ?_ ?_
        · skip
          refine zM (.str t) ?_
          refine zM (zI (i : Int)) ?_
          refine zr (Reader.byte (m := i) (c := t.getD i 0) rfl Tryz.underlying9 rfl rfl rfl (getD_some (by first | omega | (simp; omega)))) ?_
          refine zr (zi (decide (((t.getD i 0).toNat : Int) < 48))) ?_
          refine zM (zB (decide (((t.getD i 0).toNat : Int) < 48))) ?_
          refine AOps.splitJ (t := 33) (b := decide (((t.getD i 0).toNat : Int) < 48)) (x := true) (y := (decide (((t.getD i 0).toNat : Int) > 57))) rfl (fun h6 => ?_) (fun h6 => ?_)
          · skip
            have h6' : ((t.getD i 0).toNat) < 48 := (by have hh := of_decide_eq_true h6; omega)
            clear h6
            refine zs ?_
            refine zs ?_
            refine zs ?_
            refine zs ?_
            refine zr (zp true (zB true)) ?_
            exact AOps.nil rfl
          · skip
            have h6' : ¬ (((t.getD i 0).toNat) < 48) := (by have hh := of_decide_eq_false h6; omega)
            clear h6
            refine zM (.str t) ?_
            refine zM (zI (i : Int)) ?_
            refine zr (Reader.byte (m := i) (c := t.getD i 0) rfl Tryz.underlying9 rfl rfl rfl (getD_some (by first | omega | (simp; omega)))) ?_
            refine zr (zi (decide (((t.getD i 0).toNat : Int) > 57))) ?_
            refine zr (zp false (zB (decide (((t.getD i 0).toNat : Int) > 57)))) ?_
            exact AOps.nil rfl
        refine zC (b := bif (decide (((t.getD i 0).toNat : Int) < 48)) then true else (decide (((t.getD i 0).toNat : Int) > 57))) rfl (fun h7 => ?_) (fun h7 => ?_)
        · skip
          have h7' : isD (t.getD i 0) = false := (nd_t h7)
          clear h7
          refine zg ?_
          refine zM (zI (-1)) ?_
          refine zN ?_
          refine AWp.ret ?_
          exact ⟨.inl rfl, _, ResOf.one 2 (zI (-1)) rfl rfl, ⟨congrArg (fun x : Int => AV.lit (.int .i64 x)) (by first | exact (rnum_no (by assumption)).symm | exact (rnum_bad hb (by omega) (by assumption)).symm), rfl⟩⟩
        · skip
          have h7' : isD (t.getD i 0) = true ∧ 48 ≤ (t.getD i 0).toNat ∧ (t.getD i 0).toNat ≤ 57 := (nd_f h7)
          clear h7
          refine AWp.skip ?_
          refine AWp.region ?_
          refine zM (zI ((decV (t.take i) : Nat) : Int)) ?_
          refine zr (zw (10 * ((decV (t.take i) : Nat) : Int)) ((10 * (decV (t.take i)) : Nat) : Int)) ?_
          refine zM (.str t) ?_
          refine zM (zI (i : Int)) ?_
          refine zr (Reader.byte (m := i) (c := t.getD i 0) rfl Tryz.underlying9 rfl rfl rfl (getD_some (by first | omega | (simp; omega)))) ?_
          refine zr (Reader.conv rfl Tryz.underlying5 Tryz.underlying3 (by simp) rfl (c := ((t.getD i 0).toNat : Int)) (by first | exact IntWalk.i64_in _ (by omega) | exact IntWalk.i64_in _ (by constructor <;> omega) | (simp only [];omega))) ?_
          refine zr (zw (((10 * (decV (t.take i)) : Nat) : Int) + ((t.getD i 0).toNat : Int)) (((10 * (decV (t.take i))) + ((t.getD i 0).toNat) : Nat) : Int)) ?_
          refine zr (zu ((((10 * (decV (t.take i))) + ((t.getD i 0).toNat) : Nat) : Int) - 48) ((((10 * (decV (t.take i))) + ((t.getD i 0).toNat)) - 48 : Nat) : Int) (by rw [IntWalk.i64_in _ (by omega)]; omega)) ?_
          refine zM (zI ((((10 * (decV (t.take i))) + ((t.getD i 0).toNat)) - 48 : Nat) : Int)) ?_
          refine zN ?_
          refine AWp.region ?_
          refine zM (zI (i : Int)) ?_
          refine zr (zw ((i : Int) + 1) ((i + 1 : Nat) : Int)) ?_
          refine zM (zI ((i + 1 : Nat) : Int)) ?_
          refine zN ?_
          exact ⟨_, by omega, i + 1, rfl, (by rw [← dec_step4 (by omega) (by omega) (by assumption)]; rfl), by omega, hb, nx_0 hall (by have hx := (by assumption : isD (t.getD i 0) = true ∧ 48 ≤ (t.getD i 0).toNat ∧ (t.getD i 0).toNat ≤ 57); exact hx.1)⟩
      · skip
        have h5' : ¬ (i < t.length) := (by have hh := of_decide_eq_false h5; omega)
        clear h5
        refine AWp.exit ?_
        refine zg ?_
        refine zM (zI ((decV (t.take i) : Nat) : Int)) ?_
        refine zM (zI ((decV (t.take i) : Nat) : Int)) ?_
        refine zN ?_
        refine AWp.ret ?_
        exact ⟨.inl rfl, _, ResOf.one 2 (zI ((decV (t.take i) : Nat) : Int)) rfl rfl, ⟨congrArg (fun x : Int => AV.lit (.int .i64 x)) ((rnum_ok hb hall (by omega)).symm), rfl⟩⟩
end
section
open Go.RowKit

theorem rth_no {t : List UInt8} (h : ¬ OkT t) : readT t = t0 ∧ decide (OkT t) = false := ⟨(th_no h).1, decide_eq_false h⟩
def sgTo (w : List UInt8) (i : Nat) : Int := if i = 0 then -1 else if i = 1 then (if w = w0L then 0 else -1) else if i = 2 then (if w = w0L then 0 else if w = w1L then 1 else -1) else sigOf w
theorem sgTo_3 {w : List UInt8} {i : Nat} (h : i = 3) : sgTo w i = sigOf w := by subst h; rfl
theorem sgTo_hit {w : List UInt8} {i : Nat} (hi : i < 3) (h : wordOf (i : Int) = w) : sgTo w (i + 1) = (i : Int) := by
  subst h
  match i, hi with
  | 0, _ | 1, _ | 2, _ => decide
theorem sgTo_miss {w : List UInt8} {i : Nat} (hi : i < 3) (h : ¬ wordOf (i : Int) = w) : sgTo w (i + 1) = sgTo w i := by
  match i, hi with
  | 0, _ =>
    have h0 : ¬ w = w0L := fun e => h e.symm
    simp [sgTo, h0]
  | 1, _ =>
    have h0 : ¬ w = w1L := fun e => h e.symm
    simp [sgTo, h0]
  | 2, _ =>
    have h0 : ¬ w = w2L := fun e => h e.symm
    simp [sgTo, sigOf, h0]
theorem cut_take (c : UInt8) (t : List UInt8) : (t.take (cutA c t).1.length).drop 0 = (cutA c t).1 := by
  rw [List.drop_zero]
  show t.take (t.takeWhile (· != c)).length = t.takeWhile (· != c)
  exact (List.prefix_iff_eq_take.1 (List.takeWhile_prefix _)).symm
theorem cut_split {c : UInt8} {t : List UInt8} (h : t.contains c = true) : t = (cutA c t).1 ++ c :: (cutA c t).2.1 := by
  have e := (List.takeWhile_append_dropWhile (p := (· != c)) (l := t)).symm
  cases hd : t.dropWhile (· != c) with
  | nil =>
    rw [hd, List.append_nil] at e
    have hm : c ∈ t := by simpa using h
    rw [e] at hm
    have hall : ∀ (l : List UInt8), ∀ x ∈ l.takeWhile (· != c), (x != c) = true := by
      intro l
      induction l with
      | nil => intro x hx; cases hx
      | cons b r ih =>
        intro x hx
        rw [List.takeWhile_cons] at hx
        split at hx
        · rename_i hb
          rcases List.mem_cons.1 hx with rfl | hx
          · exact hb
          · exact ih x hx
        · cases hx
    have := hall t c hm
    simp at this
  | cons b r =>
    have hb : b = c := by
      have := List.head?_dropWhile_not (p := (· != c)) (l := t)
      rw [hd] at this
      simpa using this
    subst hb
    show t = t.takeWhile (· != b) ++ b :: (t.dropWhile (· != b)).drop 1
    rw [hd]
    show t = t.takeWhile (· != b) ++ b :: r
    rw [← hd]; exact e
theorem cut_lt {c : UInt8} {t : List UInt8} (h : t.contains c = true) : (cutA c t).1.length + 1 ≤ t.length := by
  have := congrArg List.length (cut_split h)
  rw [List.length_append, List.length_cons] at this
  omega
theorem cut_drop {c : UInt8} {t : List UInt8} (h : t.contains c = true) : (t.take t.length).drop ((cutA c t).1.length + 1) = (cutA c t).2.1 := by
  rw [List.take_length]
  have e := cut_split h
  generalize (cutA c t).1 = a at e ⊢
  generalize (cutA c t).2.1 = b at e ⊢
  rw [e, List.drop_append]
  simp
theorem cut_id {c : UInt8} {t : List UInt8} (h : t.contains c = false) : (cutA c t).1 = t := by
  have : ∀ x ∈ t, x ≠ c := by
    rintro x hx rfl
    rw [List.contains_eq_mem] at h
    simp [hx] at h
  rw [cutA_none this]
theorem suf_last {v : List UInt8} (h : 0 < v.length) : Lib.hasSuffix v [37] = (v.getD (v.length - 1) 0 == 37) := by
  have hne : v ≠ [] := by intro e; rw [e] at h; cases h
  have hl := List.dropLast_concat_getLast hne
  have e : v.getD (v.length - 1) 0 = v.getLast hne := by
    rw [List.getD_eq_getElem?_getD, List.getElem?_eq_getElem (by omega), List.getLast_eq_getElem]; rfl
  rw [e]
  conv => lhs; rw [← hl]
  exact suf_snoc _ _
theorem sufl_t {v : List UInt8} (h : (bif decide ((v.length : Int) > 0) then (((v.getD (v.length - 1) 0).toNat : Int) == 37) else false) = true) : Lib.hasSuffix v [37] = true := by
  by_cases h0 : (v.length : Int) > 0
  · rw [decide_eq_true h0, cond_true] at h
    rw [suf_last (by omega), beq_iff_eq]
    have := eq_of_beq h
    exact UInt8.toNat_inj.1 (by show _ = 37; omega)
  · rw [decide_eq_false h0] at h; cases h
theorem sufl_f {v : List UInt8} (h : (bif decide ((v.length : Int) > 0) then (((v.getD (v.length - 1) 0).toNat : Int) == 37) else false) = false) : Lib.hasSuffix v [37] = false := by
  by_cases h0 : (v.length : Int) > 0
  · rw [decide_eq_true h0, cond_true] at h
    rw [suf_last (by omega), beq_eq_false_iff_ne]
    intro e
    rw [e] at h
    cases h
  · rw [List.length_eq_zero_iff.1 (show v.length = 0 by omega)]; rfl
theorem suf_pos {v : List UInt8} (h : Lib.hasSuffix v [37] = true) : 0 < v.length := by
  rcases Nat.eq_zero_or_pos v.length with h0 | h0
  · rw [List.length_eq_zero_iff.1 h0] at h; cases h
  · exact h0
theorem suv {t X : List UInt8} {su : Bool} {p : Prop} (hv : vlOf t = X) (h : Lib.hasSuffix X [37] = su ∧ p) : Lib.hasSuffix (vlOf t) [37] = su := by rw [hv]; exact h.1
theorem qn_of {v : List UInt8} (h : (!(quantV v).isSome) = true) : quantV v = none := by
  cases hq : quantV v with
  | none => rfl
  | some n => rw [hq] at h; cases h
theorem thrR_of {t : List UInt8} {so su : Bool} (h1 : sfOf t = so) (h2 : Lib.hasSuffix (vlOf t) [37] = su) :
    thrOf numR t = ⟨sigOf (wdOf t), bif su then numR ((vlOf t).take ((vlOf t).length - 1)) else 0, bif su then 0 else ((qv (vlOf t) : Nat) : Int), so, bif so then numR (grOf t) else 0⟩ := by
  unfold thrOf pctOf amtOf
  rw [h1, h2]
  cases so <;> cases su <;> rfl
theorem rth_f {t : List UInt8} {i : Nat} {pc am gr : Int} {so : Bool} (hs3 : sgTo (wdOf t) i = sigOf (wdOf t)) (hq : thrOf numR t = ⟨sigOf (wdOf t), pc, am, so, gr⟩) (h : ¬ RightT ⟨sgTo (wdOf t) i, pc, am, so, gr⟩) : ¬ RightT (thrOf numR t) := by rw [hq, ← hs3]; exact h
theorem rth_t {t : List UInt8} {i : Nat} {pc am gr : Int} {so : Bool} (hs3 : sgTo (wdOf t) i = sigOf (wdOf t)) (hq : thrOf numR t = ⟨sigOf (wdOf t), pc, am, so, gr⟩) (h : RightT ⟨sgTo (wdOf t) i, pc, am, so, gr⟩) : RightT (thrOf numR t) := by rw [hq, ← hs3]; exact h

set_option maxRecDepth 20000 in
theorem rTRead_no (t : List UInt8) (hl : t.length ≤ 4294967280) (hc60 : t.contains 60 = false) (M : Nat → Option (List AV)) : ACall Tryz.prog 25 [.str t] M (fun r M' => r = .tuple [encT (readT t), zB (decide (OkT t))] ∧ M = M') := by
  have hc1 := cutA_len 60 t
  have hc2 := cutA_len 58 (cutA 60 t).2.1
  refine ACall.of Tryz.func25 rfl (n := 80) rfl rfl rfl ?_
  refine zg ?_
  refine zal [] zero_40 [zI 0, zI 0, zI 0, zB false, zI 0] ?_
  refine zM (zB false) ?_
  refine zN ?_
  refine zg ?_
  refine zr (Reader.build (xs := [(0, zI (-1))]) (Es := []) (places := places_40) rfl Tryz.underlying40 (by refine ⟨rfl, fun j p x hp hx => ?_⟩; match j, hp, hx with | 0, hp, hx => cases hp; cases hx; exact ⟨rfl, .inl ⟨rfl, rfl⟩, rfl, rfl⟩ | _ + 1, hp, hx => cases hp) zero_40 rfl places_40_ok (cs := [zI (-1), zI 0, zI 0, zB false, zI 0]) rfl) ?_
  refine zal [] zero_40 [zI 0, zI 0, zI 0, zB false, zI 0] ?_
  refine zst sizeOf_40 (.agg [zI (-1), zI 0, zI 0, zB false, zI 0]) ?_
  refine zN ?_
  refine zg ?_
  refine zM (.str t) ?_
  refine zc [.str t, .lit (.int .u8 60)] Tryz.call46 (find_no t 60 hl hc60 M) ?_
  rintro _ _ ⟨rfl, rfl⟩
  refine zM (zI (-1)) ?_
  refine zN ?_
  refine AWp.seq ?_
  refine zg ?_
  refine zM (zI (-1)) ?_
  refine zr (zi true) ?_
  refine zN ?_
  refine AWp.cond (b := true) rfl (fun hx => ?_) (fun hx => by cases hx)
  refine zg ?_
  refine zr (Reader.build (xs := []) (Es := []) (places := places_40) rfl Tryz.underlying40 (by refine ⟨rfl, fun j p x hp hx => ?_⟩; match j, hp, hx with | _ + 0, hp, hx => cases hp) zero_40 rfl places_40_ok (cs := [zI 0, zI 0, zI 0, zB false, zI 0]) rfl) ?_
  refine zst sizeOf_40 (.agg [zI 0, zI 0, zI 0, zB false, zI 0]) ?_
  refine zM (zB false) ?_
  refine zN ?_
  refine AWp.ret ?_
  exact ⟨.inl rfl, _, ResOf.cellTmp 2 2 0 5 40 _ _ (.agg [zI 0, zI 0, zI 0, zB false, zI 0]) rfl rfl Tryz.underlying40 sizeOf_40 rfl (Eq.refl true) 3 (zB false) rfl (.inl rfl), ⟨by rw [(rth_no (ref_no (.inl hc60)).1).1, (rth_no (ref_no (.inl hc60)).1).2]; rfl, rfl⟩⟩

set_option maxRecDepth 20000 in
theorem rTRead_soft (t : List UInt8) (hl : t.length ≤ 4294967280) (hc60 : t.contains 60 = true) (hc58 : (cutA 60 t).2.1.contains 58 = true) (M : Nat → Option (List AV)) : ACall Tryz.prog 25 [.str t] M (fun r M' => r = .tuple [encT (readT t), zB (decide (OkT t))] ∧ M = M') := by
  have hc1 := cutA_len 60 t
  have hc2 := cutA_len 58 (cutA 60 t).2.1
  have hk := cut_lt hc60
  have hk2 := cut_lt hc58
  refine ACall.of Tryz.func25 rfl (n := 80) rfl rfl rfl ?_
  refine zg ?_
  refine zal [] zero_40 [zI 0, zI 0, zI 0, zB false, zI 0] ?_
  refine zM (zB false) ?_
  refine zN ?_
  refine zg ?_
  refine zr (Reader.build (xs := [(0, zI (-1))]) (Es := []) (places := places_40) rfl Tryz.underlying40 (by refine ⟨rfl, fun j p x hp hx => ?_⟩; match j, hp, hx with | 0, hp, hx => cases hp; cases hx; exact ⟨rfl, .inl ⟨rfl, rfl⟩, rfl, rfl⟩ | _ + 1, hp, hx => cases hp) zero_40 rfl places_40_ok (cs := [zI (-1), zI 0, zI 0, zB false, zI 0]) rfl) ?_
  refine zal [] zero_40 [zI 0, zI 0, zI 0, zB false, zI 0] ?_
  refine zst sizeOf_40 (.agg [zI (-1), zI 0, zI 0, zB false, zI 0]) ?_
  refine zN ?_
  refine zg ?_
  refine zM (.str t) ?_
  refine zc [.str t, .lit (.int .u8 60)] Tryz.call46 (find_yes t 60 hl hc60 M) ?_
  rintro _ _ ⟨rfl, rfl⟩
  refine zM (zI (((cutA 60 t).1.length : Nat) : Int)) ?_
  refine zN ?_
  refine AWp.seq ?_
  refine zg ?_
  refine zM (zI (((cutA 60 t).1.length : Nat) : Int)) ?_
  refine zr (zi (decide ((((cutA 60 t).1.length : Nat) : Int) < 0))) ?_
  refine zN ?_
  refine zC (b := decide ((((cutA 60 t).1.length : Nat) : Int) < 0)) rfl (fun h1 => ?_) (fun h1 => ?_)
  · skip
    have h1' : ((cutA 60 t).1.length) < 0 := (by have hh := of_decide_eq_true h1; omega)
    clear h1
    exfalso; omega
  · skip
    have h1' : ¬ (((cutA 60 t).1.length) < 0) := (by have hh := of_decide_eq_false h1; omega)
    clear h1
    refine AWp.skip ?_
    refine AWp.seq ?_
    refine zg ?_
    refine zM (zI 0) ?_
    refine zN ?_
    refine AWp.block ?_
    refine AWp.loopE [0, 2, 4, 5, 6] [2, 4] (fun m s => ∃ (i : Nat), m = 3 - i ∧ s = ⟨[(0, .str t), (2, .lptr 2 0), (4, .lptr 4 0), (5, zI (((cutA 60 t).1.length : Nat) : Int)), (6, zI (i : Int))], [(2, [zI 0, zI 0, zI 0, zB false, zI 0]), (4, [zI (sgTo (cutA 60 t).1 i), zI 0, zI 0, zB false, zI 0])], M⟩ ∧ (i ≤ 3)) ?_ ?_
    · exact ⟨_, 0, rfl, rfl, by omega⟩
    · rintro _ _ ⟨i, rfl, rfl, hi⟩
      refine AWp.seq ?_
      refine zg ?_
      refine zM (zI (i : Int)) ?_
      refine zr (zi (decide ((i : Int) < 3))) ?_
      refine zN ?_
      refine zC (b := decide ((i : Int) < 3)) rfl (fun h2 => ?_) (fun h2 => ?_)
      · skip
        have h2' : i < 3 := (by have hh := of_decide_eq_true h2; omega)
        clear h2
        refine AWp.skip ?_
        refine AWp.seq ?_
        refine AWp.block ?_
        refine AWp.seq (AWp.drawnAll (by kernel_rfl) (by kernel_rfl) ?_)
        refine ze (zm (zI (i : Int))) ?_
        refine zcE [zI (i : Int)] (.str (wordOf (i : Int))) Tryz.call47 (rWord_any (i : Int) noM) ?_
        refine ze (zm (.str t)) ?_
        refine ze (zm (zI (((cutA 60 t).1.length : Nat) : Int))) ?_
        refine ze (Reader.sub (i := 0) (j := (cutA 60 t).1.length) rfl Tryz.underlying9 rfl rfl ⟨_, _, rfl, rfl⟩ (by first | omega | (simp; omega)) (by first | omega | (simp; omega)) (m := (cutA 60 t).1) (cut_take 60 t)) ?_
        refine ze (zt ((wordOf (i : Int)) == ((cutA 60 t).1))) ?_
        refine AOpsE.nil ?_
        refine zC (b := (wordOf (i : Int)) == ((cutA 60 t).1)) rfl (fun h3 => ?_) (fun h3 => ?_)
        · skip
          have h3' : (wordOf (i : Int)) = ((cutA 60 t).1) := (eq_of_beq h3)
          clear h3
          refine AWp.region ?_
          refine zM (zI (i : Int)) ?_
          refine zr (zfL Tryz.underlying40 sizeOf_3) ?_
          refine zst sizeOf_3 (zI (i : Int)) ?_
          refine zN ?_
          refine AWp.region ?_
          refine zM (zI (i : Int)) ?_
          refine zr (zw ((i : Int) + 1) ((i + 1 : Nat) : Int)) ?_
          refine zM (zI ((i + 1 : Nat) : Int)) ?_
          refine zN ?_
          first | exact ⟨_, by omega, i + 1, rfl, (by rw [sgTo_hit (by omega) (by assumption)]; rfl), by omega⟩ | exact ⟨_, by omega, i + 1, rfl, (by rw [sgTo_miss (by omega) (by assumption)]; rfl), by omega⟩
        · skip
          have h3' : ¬ ((wordOf (i : Int)) = ((cutA 60 t).1)) := (beq_eq_false_iff_ne.1 h3)
          clear h3
          refine AWp.skip ?_
          refine AWp.region ?_
          refine zM (zI (i : Int)) ?_
          refine zr (zw ((i : Int) + 1) ((i + 1 : Nat) : Int)) ?_
          refine zM (zI ((i + 1 : Nat) : Int)) ?_
          refine zN ?_
          first | exact ⟨_, by omega, i + 1, rfl, (by rw [sgTo_hit (by omega) (by assumption)]; rfl), by omega⟩ | exact ⟨_, by omega, i + 1, rfl, (by rw [sgTo_miss (by omega) (by assumption)]; rfl), by omega⟩
      · skip
        have h2' : ¬ (i < 3) := (by have hh := of_decide_eq_false h2; omega)
        clear h2
        refine AWp.exit ?_
        refine zg ?_
        refine zM (.str t) ?_
        refine zM (zI (((cutA 60 t).1.length : Nat) : Int)) ?_
        refine zr (zw ((((cutA 60 t).1.length : Nat) : Int) + 1) ((((cutA 60 t).1.length) + 1 : Nat) : Int)) ?_
        refine zr (Reader.sub (i := ((cutA 60 t).1.length) + 1) (j := t.length) rfl Tryz.underlying9 rfl ⟨_, _, rfl, rfl⟩ rfl (by first | omega | (simp; omega)) (by first | omega | (simp; omega)) (m := (cutA 60 t).2.1) (cut_drop hc60)) ?_
        refine zM (.str ((cutA 60 t).2.1)) ?_
        refine zN ?_
        refine zg ?_
        refine zM (.str ((cutA 60 t).2.1)) ?_
        refine zc [.str ((cutA 60 t).2.1), .lit (.int .u8 58)] Tryz.call46 (find_yes (cutA 60 t).2.1 58 (by omega) hc58 M) ?_
        rintro _ _ ⟨rfl, rfl⟩
        refine zM (zI (((cutA 58 (cutA 60 t).2.1).1.length : Nat) : Int)) ?_
        refine zN ?_
        refine AWp.seq ?_
        refine zg ?_
        refine zM (zI (((cutA 58 (cutA 60 t).2.1).1.length : Nat) : Int)) ?_
        refine zr (zi (decide ((((cutA 58 (cutA 60 t).2.1).1.length : Nat) : Int) ≥ 0))) ?_
        refine zN ?_
        refine zC (b := decide ((((cutA 58 (cutA 60 t).2.1).1.length : Nat) : Int) ≥ 0)) rfl (fun h4 => ?_) (fun h4 => ?_)
        · skip
          have h4' : ((cutA 58 (cutA 60 t).2.1).1.length) ≥ 0 := (by have hh := of_decide_eq_true h4; omega)
          clear h4
          refine zg ?_
          refine zr (zfL Tryz.underlying40 sizeOf_4) ?_
          refine zst sizeOf_4 (zB true) ?_
          refine zN ?_
          refine zg ?_
          refine zM (.str ((cutA 60 t).2.1)) ?_
          refine zM (zI (((cutA 58 (cutA 60 t).2.1).1.length : Nat) : Int)) ?_
          refine zr (zw ((((cutA 58 (cutA 60 t).2.1).1.length : Nat) : Int) + 1) ((((cutA 58 (cutA 60 t).2.1).1.length) + 1 : Nat) : Int)) ?_
          refine zr (Reader.sub (i := ((cutA 58 (cutA 60 t).2.1).1.length) + 1) (j := ((cutA 60 t).2.1).length) rfl Tryz.underlying9 rfl ⟨_, _, rfl, rfl⟩ rfl (by first | omega | (simp; omega)) (by first | omega | (simp; omega)) (m := (cutA 58 (cutA 60 t).2.1).2.1) (cut_drop hc58)) ?_
          refine zc [.str ((cutA 58 (cutA 60 t).2.1).2.1)] Tryz.call48 (rnum_any ((cutA 58 (cutA 60 t).2.1).2.1) (by first | omega | (simp only [List.length_take, List.length_drop]; omega)) M) ?_
          rintro _ _ ⟨rfl, rfl⟩
          refine zr (zfL Tryz.underlying40 sizeOf_3) ?_
          refine zst sizeOf_3 (zI (numR ((cutA 58 (cutA 60 t).2.1).2.1))) ?_
          refine zN ?_
          refine AWp.region ?_
          refine zM (.str ((cutA 60 t).2.1)) ?_
          refine zM (zI (((cutA 58 (cutA 60 t).2.1).1.length : Nat) : Int)) ?_
          refine zr (Reader.sub (i := 0) (j := (cutA 58 (cutA 60 t).2.1).1.length) rfl Tryz.underlying9 rfl rfl ⟨_, _, rfl, rfl⟩ (by first | omega | (simp; omega)) (by first | omega | (simp; omega)) (m := (cutA 58 (cutA 60 t).2.1).1) (cut_take 58 _)) ?_
          refine zM (.str ((cutA 58 (cutA 60 t).2.1).1)) ?_
          refine zN ?_
          refine AWp.seq ?_
          refine zj 57 [(0, .str t), (2, .lptr 2 0), (4, .lptr 4 0), (5, zI (((cutA 60 t).1.length : Nat) : Int)), (6, zI (i : Int)), (18, zB (decide ((i : Int) < 3))), (7, .str ((cutA 58 (cutA 60 t).2.1).1)), (8, zI (((cutA 58 (cutA 60 t).2.1).1.length : Nat) : Int)), (36, zB (decide ((((cutA 58 (cutA 60 t).2.1).1.length : Nat) : Int) ≥ 0)))] [(2, [zI 0, zI 0, zI 0, zB false, zI 0]), (4, [zI (sgTo (cutA 60 t).1 i), zI 0, zI 0, zB true, zI (numR ((cutA 58 (cutA 60 t).2.1).2.1))])] M (bif (decide (((((cutA 58 (cutA 60 t).2.1).1).length : Nat) : Int) > 0)) then (((((cutA 58 (cutA 60 t).2.1).1).getD ((((cutA 58 (cutA 60 t).2.1).1).length) - 1) 0).toNat : Int) == 37) else false) ?_ ?_
          · skip
            refine zM (.str ((cutA 58 (cutA 60 t).2.1).1)) ?_
            refine zr (zS ((cutA 58 (cutA 60 t).2.1).1) (((cutA 58 (cutA 60 t).2.1).1).length) Tryz.underlying9 (by first | rfl | simp)) ?_
            refine zr (zi (decide (((((cutA 58 (cutA 60 t).2.1).1).length : Nat) : Int) > 0))) ?_
            refine zM (zB (decide (((((cutA 58 (cutA 60 t).2.1).1).length : Nat) : Int) > 0))) ?_
            refine AOps.splitJ (t := 50) (b := decide (((((cutA 58 (cutA 60 t).2.1).1).length : Nat) : Int) > 0)) (x := (((((cutA 58 (cutA 60 t).2.1).1).getD ((((cutA 58 (cutA 60 t).2.1).1).length) - 1) 0).toNat : Int) == 37)) (y := false) rfl (fun h5 => ?_) (fun h5 => ?_)
            · skip
              have h5' : (((cutA 58 (cutA 60 t).2.1).1).length) > 0 := (by have hh := of_decide_eq_true h5; omega)
              clear h5
              refine zM (.str ((cutA 58 (cutA 60 t).2.1).1)) ?_
              refine zM (.str ((cutA 58 (cutA 60 t).2.1).1)) ?_
              refine zr (zS ((cutA 58 (cutA 60 t).2.1).1) (((cutA 58 (cutA 60 t).2.1).1).length) Tryz.underlying9 (by first | rfl | simp)) ?_
              refine zr (zu (((((cutA 58 (cutA 60 t).2.1).1).length : Nat) : Int) - 1) (((((cutA 58 (cutA 60 t).2.1).1).length) - 1 : Nat) : Int) (by rw [IntWalk.i64_in _ (by omega)]; omega)) ?_
              refine zr (Reader.byte (m := (((cutA 58 (cutA 60 t).2.1).1).length) - 1) (c := ((cutA 58 (cutA 60 t).2.1).1).getD ((((cutA 58 (cutA 60 t).2.1).1).length) - 1) 0) rfl Tryz.underlying9 rfl rfl rfl (getD_some (by first | omega | (simp; omega)))) ?_
              refine zr (zi (((((cutA 58 (cutA 60 t).2.1).1).getD ((((cutA 58 (cutA 60 t).2.1).1).length) - 1) 0).toNat : Int) == 37)) ?_
              refine zr (zp true (zB (((((cutA 58 (cutA 60 t).2.1).1).getD ((((cutA 58 (cutA 60 t).2.1).1).length) - 1) 0).toNat : Int) == 37))) ?_
              exact AOps.nil rfl
            · skip
              have h5' : ¬ ((((cutA 58 (cutA 60 t).2.1).1).length) > 0) := (by have hh := of_decide_eq_false h5; omega)
              clear h5
              refine zs ?_
              refine zs ?_
              refine zs ?_
              refine zs ?_
              refine zs ?_
              refine zs ?_
              refine zr (zp false (zB false)) ?_
              exact AOps.nil rfl
          refine zC (b := bif (decide (((((cutA 58 (cutA 60 t).2.1).1).length : Nat) : Int) > 0)) then (((((cutA 58 (cutA 60 t).2.1).1).getD ((((cutA 58 (cutA 60 t).2.1).1).length) - 1) 0).toNat : Int) == 37) else false) rfl (fun h6 => ?_) (fun h6 => ?_)
          · skip
            have h6' : Lib.hasSuffix (cutA 58 (cutA 60 t).2.1).1 [37] = true ∧ 0 < (cutA 58 (cutA 60 t).2.1).1.length := ⟨sufl_t h6, suf_pos (sufl_t h6)⟩
            clear h6
            refine AWp.region ?_
            refine zM (.str ((cutA 58 (cutA 60 t).2.1).1)) ?_
            refine zM (.str ((cutA 58 (cutA 60 t).2.1).1)) ?_
            refine zr (zS ((cutA 58 (cutA 60 t).2.1).1) (((cutA 58 (cutA 60 t).2.1).1).length) Tryz.underlying9 (by first | rfl | simp)) ?_
            refine zr (zu (((((cutA 58 (cutA 60 t).2.1).1).length : Nat) : Int) - 1) (((((cutA 58 (cutA 60 t).2.1).1).length) - 1 : Nat) : Int) (by rw [IntWalk.i64_in _ (by omega)]; omega)) ?_
            refine zr (Reader.sub (i := 0) (j := (((cutA 58 (cutA 60 t).2.1).1).length) - 1) rfl Tryz.underlying9 rfl rfl ⟨_, _, rfl, rfl⟩ (by first | omega | (simp; omega)) (by first | omega | (simp; omega)) (m := (cutA 58 (cutA 60 t).2.1).1.take ((cutA 58 (cutA 60 t).2.1).1.length - 1)) rfl) ?_
            refine zc [.str ((cutA 58 (cutA 60 t).2.1).1.take ((cutA 58 (cutA 60 t).2.1).1.length - 1))] Tryz.call48 (rnum_any ((cutA 58 (cutA 60 t).2.1).1.take ((cutA 58 (cutA 60 t).2.1).1.length - 1)) (by first | omega | (simp only [List.length_take, List.length_drop]; omega)) M) ?_
            rintro _ _ ⟨rfl, rfl⟩
            refine zr (zfL Tryz.underlying40 sizeOf_3) ?_
            refine zst sizeOf_3 (zI (numR ((cutA 58 (cutA 60 t).2.1).1.take ((cutA 58 (cutA 60 t).2.1).1.length - 1)))) ?_
            refine zN ?_
            refine AWp.seq ?_
            refine zg ?_
            refine zr (zlL (.agg [zI (sgTo (cutA 60 t).1 i), zI (numR ((cutA 58 (cutA 60 t).2.1).1.take ((cutA 58 (cutA 60 t).2.1).1.length - 1))), zI 0, zB true, zI (numR ((cutA 58 (cutA 60 t).2.1).2.1))]) Tryz.underlying40 sizeOf_40) ?_
            refine zc [.agg [zI (sgTo (cutA 60 t).1 i), zI (numR ((cutA 58 (cutA 60 t).2.1).1.take ((cutA 58 (cutA 60 t).2.1).1.length - 1))), zI 0, zB true, zI (numR ((cutA 58 (cutA 60 t).2.1).2.1))]] Tryz.call28 (rRight_any ⟨sgTo (cutA 60 t).1 i, numR ((cutA 58 (cutA 60 t).2.1).1.take ((cutA 58 (cutA 60 t).2.1).1.length - 1)), 0, true, numR ((cutA 58 (cutA 60 t).2.1).2.1)⟩ M) ?_
            rintro _ _ ⟨rfl, rfl⟩
            refine zr (zn (decide (RightT ⟨sgTo (cutA 60 t).1 i, numR ((cutA 58 (cutA 60 t).2.1).1.take ((cutA 58 (cutA 60 t).2.1).1.length - 1)), 0, true, numR ((cutA 58 (cutA 60 t).2.1).2.1)⟩))) ?_
            refine zN ?_
            refine zC (b := !(decide (RightT ⟨sgTo (cutA 60 t).1 i, numR ((cutA 58 (cutA 60 t).2.1).1.take ((cutA 58 (cutA 60 t).2.1).1.length - 1)), 0, true, numR ((cutA 58 (cutA 60 t).2.1).2.1)⟩))) rfl (fun h7 => ?_) (fun h7 => ?_)
            · skip
              have h7' : ¬ RightT ⟨sgTo (cutA 60 t).1 i, numR ((cutA 58 (cutA 60 t).2.1).1.take ((cutA 58 (cutA 60 t).2.1).1.length - 1)), 0, true, numR ((cutA 58 (cutA 60 t).2.1).2.1)⟩ := (of_decide_eq_false (bnot_t h7))
              clear h7
              refine zg ?_
              refine zr (Reader.build (xs := []) (Es := []) (places := places_40) rfl Tryz.underlying40 (by refine ⟨rfl, fun j p x hp hx => ?_⟩; match j, hp, hx with | _ + 0, hp, hx => cases hp) zero_40 rfl places_40_ok (cs := [zI 0, zI 0, zI 0, zB false, zI 0]) rfl) ?_
              refine zst sizeOf_40 (.agg [zI 0, zI 0, zI 0, zB false, zI 0]) ?_
              refine zM (zB false) ?_
              refine zN ?_
              refine AWp.ret ?_
              have hs3 := sgTo_3 (w := wdOf t) (i := i) (by omega)
              have hno : ¬ OkT t := by first | exact (ref_no (.inr (no_amt (suv rfl (by assumption)) (qn_of (by assumption))))).1 | exact (ref_no (.inr (rth_f hs3 (thrR_of (t := t) hc58 (suv rfl (by assumption))) (by assumption)))).1
              exact ⟨.inl rfl, _, ResOf.cellTmp 2 2 0 5 40 _ _ (.agg [zI 0, zI 0, zI 0, zB false, zI 0]) rfl rfl Tryz.underlying40 sizeOf_40 rfl (Eq.refl true) 3 (zB false) rfl (.inl rfl), ⟨by rw [(rth_no hno).1, (rth_no hno).2]; rfl, rfl⟩⟩
            · skip
              have h7' : RightT ⟨sgTo (cutA 60 t).1 i, numR ((cutA 58 (cutA 60 t).2.1).1.take ((cutA 58 (cutA 60 t).2.1).1.length - 1)), 0, true, numR ((cutA 58 (cutA 60 t).2.1).2.1)⟩ := (of_decide_eq_true (bnot_f h7))
              clear h7
              refine AWp.skip ?_
              refine zg ?_
              refine zr (zlL (.agg [zI (sgTo (cutA 60 t).1 i), zI (numR ((cutA 58 (cutA 60 t).2.1).1.take ((cutA 58 (cutA 60 t).2.1).1.length - 1))), zI 0, zB true, zI (numR ((cutA 58 (cutA 60 t).2.1).2.1))]) Tryz.underlying40 sizeOf_40) ?_
              refine zst sizeOf_40 (.agg [zI (sgTo (cutA 60 t).1 i), zI (numR ((cutA 58 (cutA 60 t).2.1).1.take ((cutA 58 (cutA 60 t).2.1).1.length - 1))), zI 0, zB true, zI (numR ((cutA 58 (cutA 60 t).2.1).2.1))]) ?_
              refine zM (zB true) ?_
              refine zN ?_
              refine AWp.ret ?_
              have hs3 := sgTo_3 (w := wdOf t) (i := i) (by omega)
              have hq := thrR_of (t := t) hc58 (suv rfl (by assumption))
              have hok := ref_ok hc60 (rth_t hs3 hq (by assumption))
              rw [← hok.2, decide_eq_true hok.1, hq, ← hs3]
              exact ⟨.inl rfl, _, ResOf.cellTmp 2 2 0 5 40 _ _ (.agg [zI (sgTo (cutA 60 t).1 i), zI (numR ((cutA 58 (cutA 60 t).2.1).1.take ((cutA 58 (cutA 60 t).2.1).1.length - 1))), zI 0, zB true, zI (numR ((cutA 58 (cutA 60 t).2.1).2.1))]) rfl rfl Tryz.underlying40 sizeOf_40 rfl (Eq.refl true) 3 (zB true) rfl (.inl rfl), ⟨rfl, rfl⟩⟩
          · skip
            have h6' : Lib.hasSuffix (cutA 58 (cutA 60 t).2.1).1 [37] = false ∧ 0 ≤ (cutA 58 (cutA 60 t).2.1).1.length := ⟨sufl_f h6, Nat.zero_le _⟩
            clear h6
            refine zg ?_
            refine zM (.str ((cutA 58 (cutA 60 t).2.1).1)) ?_
            refine zc [.str ((cutA 58 (cutA 60 t).2.1).1)] Tryz.call26 (rRead_any ((cutA 58 (cutA 60 t).2.1).1) (by omega) M) ?_
            rintro _ _ ⟨rfl, rfl⟩
            refine zM (.tuple [zI ((qv ((cutA 58 (cutA 60 t).2.1).1) : Nat) : Int), zB ((quantV ((cutA 58 (cutA 60 t).2.1).1)).isSome)]) ?_
            refine zr (zx (zI ((qv ((cutA 58 (cutA 60 t).2.1).1) : Nat) : Int))) ?_
            refine zr (zx (zB ((quantV ((cutA 58 (cutA 60 t).2.1).1)).isSome))) ?_
            refine zM (zI ((qv ((cutA 58 (cutA 60 t).2.1).1) : Nat) : Int)) ?_
            refine zM (zB ((quantV ((cutA 58 (cutA 60 t).2.1).1)).isSome)) ?_
            refine zN ?_
            refine AWp.seq ?_
            refine zg ?_
            refine zM (zB ((quantV ((cutA 58 (cutA 60 t).2.1).1)).isSome)) ?_
            refine zr (zn ((quantV ((cutA 58 (cutA 60 t).2.1).1)).isSome)) ?_
            refine zN ?_
            refine zC (b := !((quantV ((cutA 58 (cutA 60 t).2.1).1)).isSome)) rfl (fun h8 => ?_) (fun h8 => ?_)
            · skip
              refine zg ?_
              refine zr (Reader.build (xs := []) (Es := []) (places := places_40) rfl Tryz.underlying40 (by refine ⟨rfl, fun j p x hp hx => ?_⟩; match j, hp, hx with | _ + 0, hp, hx => cases hp) zero_40 rfl places_40_ok (cs := [zI 0, zI 0, zI 0, zB false, zI 0]) rfl) ?_
              refine zst sizeOf_40 (.agg [zI 0, zI 0, zI 0, zB false, zI 0]) ?_
              refine zM (zB false) ?_
              refine zN ?_
              refine AWp.ret ?_
              have hs3 := sgTo_3 (w := wdOf t) (i := i) (by omega)
              have hno : ¬ OkT t := by first | exact (ref_no (.inr (no_amt (suv rfl (by assumption)) (qn_of (by assumption))))).1 | exact (ref_no (.inr (rth_f hs3 (thrR_of (t := t) hc58 (suv rfl (by assumption))) (by assumption)))).1
              exact ⟨.inl rfl, _, ResOf.cellTmp 2 2 0 5 40 _ _ (.agg [zI 0, zI 0, zI 0, zB false, zI 0]) rfl rfl Tryz.underlying40 sizeOf_40 rfl (Eq.refl true) 3 (zB false) rfl (.inl rfl), ⟨by rw [(rth_no hno).1, (rth_no hno).2]; rfl, rfl⟩⟩
            · skip
              refine AWp.skip ?_
              refine AWp.region ?_
              refine zM (zI ((qv ((cutA 58 (cutA 60 t).2.1).1) : Nat) : Int)) ?_
              refine zr (zfL Tryz.underlying40 sizeOf_3) ?_
              refine zst sizeOf_3 (zI ((qv ((cutA 58 (cutA 60 t).2.1).1) : Nat) : Int)) ?_
              refine zN ?_
              refine AWp.seq ?_
              refine zg ?_
              refine zr (zlL (.agg [zI (sgTo (cutA 60 t).1 i), zI 0, zI ((qv ((cutA 58 (cutA 60 t).2.1).1) : Nat) : Int), zB true, zI (numR ((cutA 58 (cutA 60 t).2.1).2.1))]) Tryz.underlying40 sizeOf_40) ?_
              refine zc [.agg [zI (sgTo (cutA 60 t).1 i), zI 0, zI ((qv ((cutA 58 (cutA 60 t).2.1).1) : Nat) : Int), zB true, zI (numR ((cutA 58 (cutA 60 t).2.1).2.1))]] Tryz.call28 (rRight_any ⟨sgTo (cutA 60 t).1 i, 0, ((qv ((cutA 58 (cutA 60 t).2.1).1) : Nat) : Int), true, numR ((cutA 58 (cutA 60 t).2.1).2.1)⟩ M) ?_
              rintro _ _ ⟨rfl, rfl⟩
              refine zr (zn (decide (RightT ⟨sgTo (cutA 60 t).1 i, 0, ((qv ((cutA 58 (cutA 60 t).2.1).1) : Nat) : Int), true, numR ((cutA 58 (cutA 60 t).2.1).2.1)⟩))) ?_
              refine zN ?_
              refine zC (b := !(decide (RightT ⟨sgTo (cutA 60 t).1 i, 0, ((qv ((cutA 58 (cutA 60 t).2.1).1) : Nat) : Int), true, numR ((cutA 58 (cutA 60 t).2.1).2.1)⟩))) rfl (fun h9 => ?_) (fun h9 => ?_)
              · skip
                have h9' : ¬ RightT ⟨sgTo (cutA 60 t).1 i, 0, ((qv ((cutA 58 (cutA 60 t).2.1).1) : Nat) : Int), true, numR ((cutA 58 (cutA 60 t).2.1).2.1)⟩ := (of_decide_eq_false (bnot_t h9))
                clear h9
                refine zg ?_
                refine zr (Reader.build (xs := []) (Es := []) (places := places_40) rfl Tryz.underlying40 (by refine ⟨rfl, fun j p x hp hx => ?_⟩; match j, hp, hx with | _ + 0, hp, hx => cases hp) zero_40 rfl places_40_ok (cs := [zI 0, zI 0, zI 0, zB false, zI 0]) rfl) ?_
                refine zst sizeOf_40 (.agg [zI 0, zI 0, zI 0, zB false, zI 0]) ?_
                refine zM (zB false) ?_
                refine zN ?_
                refine AWp.ret ?_
                have hs3 := sgTo_3 (w := wdOf t) (i := i) (by omega)
                have hno : ¬ OkT t := by first | exact (ref_no (.inr (no_amt (suv rfl (by assumption)) (qn_of (by assumption))))).1 | exact (ref_no (.inr (rth_f hs3 (thrR_of (t := t) hc58 (suv rfl (by assumption))) (by assumption)))).1
                exact ⟨.inl rfl, _, ResOf.cellTmp 2 2 0 5 40 _ _ (.agg [zI 0, zI 0, zI 0, zB false, zI 0]) rfl rfl Tryz.underlying40 sizeOf_40 rfl (Eq.refl true) 3 (zB false) rfl (.inl rfl), ⟨by rw [(rth_no hno).1, (rth_no hno).2]; rfl, rfl⟩⟩
              · skip
                have h9' : RightT ⟨sgTo (cutA 60 t).1 i, 0, ((qv ((cutA 58 (cutA 60 t).2.1).1) : Nat) : Int), true, numR ((cutA 58 (cutA 60 t).2.1).2.1)⟩ := (of_decide_eq_true (bnot_f h9))
                clear h9
                refine AWp.skip ?_
                refine zg ?_
                refine zr (zlL (.agg [zI (sgTo (cutA 60 t).1 i), zI 0, zI ((qv ((cutA 58 (cutA 60 t).2.1).1) : Nat) : Int), zB true, zI (numR ((cutA 58 (cutA 60 t).2.1).2.1))]) Tryz.underlying40 sizeOf_40) ?_
                refine zst sizeOf_40 (.agg [zI (sgTo (cutA 60 t).1 i), zI 0, zI ((qv ((cutA 58 (cutA 60 t).2.1).1) : Nat) : Int), zB true, zI (numR ((cutA 58 (cutA 60 t).2.1).2.1))]) ?_
                refine zM (zB true) ?_
                refine zN ?_
                refine AWp.ret ?_
                have hs3 := sgTo_3 (w := wdOf t) (i := i) (by omega)
                have hq := thrR_of (t := t) hc58 (suv rfl (by assumption))
                have hok := ref_ok hc60 (rth_t hs3 hq (by assumption))
                rw [← hok.2, decide_eq_true hok.1, hq, ← hs3]
                exact ⟨.inl rfl, _, ResOf.cellTmp 2 2 0 5 40 _ _ (.agg [zI (sgTo (cutA 60 t).1 i), zI 0, zI ((qv ((cutA 58 (cutA 60 t).2.1).1) : Nat) : Int), zB true, zI (numR ((cutA 58 (cutA 60 t).2.1).2.1))]) rfl rfl Tryz.underlying40 sizeOf_40 rfl (Eq.refl true) 3 (zB true) rfl (.inl rfl), ⟨rfl, rfl⟩⟩
        · skip
          have h4' : ¬ (((cutA 58 (cutA 60 t).2.1).1.length) ≥ 0) := (by have hh := of_decide_eq_false h4; omega)
          clear h4
          exfalso; omega

set_option maxRecDepth 20000 in
theorem rTRead_hard (t : List UInt8) (hl : t.length ≤ 4294967280) (hc60 : t.contains 60 = true) (hc58 : (cutA 60 t).2.1.contains 58 = false) (M : Nat → Option (List AV)) : ACall Tryz.prog 25 [.str t] M (fun r M' => r = .tuple [encT (readT t), zB (decide (OkT t))] ∧ M = M') := by
  have hc1 := cutA_len 60 t
  have hc2 := cutA_len 58 (cutA 60 t).2.1
  have hk := cut_lt hc60
  have hv : vlOf t = (cutA 60 t).2.1 := cut_id hc58
  refine ACall.of Tryz.func25 rfl (n := 80) rfl rfl rfl ?_
  refine zg ?_
  refine zal [] zero_40 [zI 0, zI 0, zI 0, zB false, zI 0] ?_
  refine zM (zB false) ?_
  refine zN ?_
  refine zg ?_
  refine zr (Reader.build (xs := [(0, zI (-1))]) (Es := []) (places := places_40) rfl Tryz.underlying40 (by refine ⟨rfl, fun j p x hp hx => ?_⟩; match j, hp, hx with | 0, hp, hx => cases hp; cases hx; exact ⟨rfl, .inl ⟨rfl, rfl⟩, rfl, rfl⟩ | _ + 1, hp, hx => cases hp) zero_40 rfl places_40_ok (cs := [zI (-1), zI 0, zI 0, zB false, zI 0]) rfl) ?_
  refine zal [] zero_40 [zI 0, zI 0, zI 0, zB false, zI 0] ?_
  refine zst sizeOf_40 (.agg [zI (-1), zI 0, zI 0, zB false, zI 0]) ?_
  refine zN ?_
  refine zg ?_
  refine zM (.str t) ?_
  refine zc [.str t, .lit (.int .u8 60)] Tryz.call46 (find_yes t 60 hl hc60 M) ?_
  rintro _ _ ⟨rfl, rfl⟩
  refine zM (zI (((cutA 60 t).1.length : Nat) : Int)) ?_
  refine zN ?_
  refine AWp.seq ?_
  refine zg ?_
  refine zM (zI (((cutA 60 t).1.length : Nat) : Int)) ?_
  refine zr (zi (decide ((((cutA 60 t).1.length : Nat) : Int) < 0))) ?_
  refine zN ?_
  refine zC (b := decide ((((cutA 60 t).1.length : Nat) : Int) < 0)) rfl (fun h1 => ?_) (fun h1 => ?_)
  · skip
    have h1' : ((cutA 60 t).1.length) < 0 := (by have hh := of_decide_eq_true h1; omega)
    clear h1
    exfalso; omega
  · skip
    have h1' : ¬ (((cutA 60 t).1.length) < 0) := (by have hh := of_decide_eq_false h1; omega)
    clear h1
    refine AWp.skip ?_
    refine AWp.seq ?_
    refine zg ?_
    refine zM (zI 0) ?_
    refine zN ?_
    refine AWp.block ?_
    refine AWp.loopE [0, 2, 4, 5, 6] [2, 4] (fun m s => ∃ (i : Nat), m = 3 - i ∧ s = ⟨[(0, .str t), (2, .lptr 2 0), (4, .lptr 4 0), (5, zI (((cutA 60 t).1.length : Nat) : Int)), (6, zI (i : Int))], [(2, [zI 0, zI 0, zI 0, zB false, zI 0]), (4, [zI (sgTo (cutA 60 t).1 i), zI 0, zI 0, zB false, zI 0])], M⟩ ∧ (i ≤ 3)) ?_ ?_
    · exact ⟨_, 0, rfl, rfl, by omega⟩
    · rintro _ _ ⟨i, rfl, rfl, hi⟩
      refine AWp.seq ?_
      refine zg ?_
      refine zM (zI (i : Int)) ?_
      refine zr (zi (decide ((i : Int) < 3))) ?_
      refine zN ?_
      refine zC (b := decide ((i : Int) < 3)) rfl (fun h2 => ?_) (fun h2 => ?_)
      · skip
        have h2' : i < 3 := (by have hh := of_decide_eq_true h2; omega)
        clear h2
        refine AWp.skip ?_
        refine AWp.seq ?_
        refine AWp.block ?_
        refine AWp.seq (AWp.drawnAll (by kernel_rfl) (by kernel_rfl) ?_)
        refine ze (zm (zI (i : Int))) ?_
        refine zcE [zI (i : Int)] (.str (wordOf (i : Int))) Tryz.call47 (rWord_any (i : Int) noM) ?_
        refine ze (zm (.str t)) ?_
        refine ze (zm (zI (((cutA 60 t).1.length : Nat) : Int))) ?_
        refine ze (Reader.sub (i := 0) (j := (cutA 60 t).1.length) rfl Tryz.underlying9 rfl rfl ⟨_, _, rfl, rfl⟩ (by first | omega | (simp; omega)) (by first | omega | (simp; omega)) (m := (cutA 60 t).1) (cut_take 60 t)) ?_
        refine ze (zt ((wordOf (i : Int)) == ((cutA 60 t).1))) ?_
        refine AOpsE.nil ?_
        refine zC (b := (wordOf (i : Int)) == ((cutA 60 t).1)) rfl (fun h3 => ?_) (fun h3 => ?_)
        · skip
          have h3' : (wordOf (i : Int)) = ((cutA 60 t).1) := (eq_of_beq h3)
          clear h3
          refine AWp.region ?_
          refine zM (zI (i : Int)) ?_
          refine zr (zfL Tryz.underlying40 sizeOf_3) ?_
          refine zst sizeOf_3 (zI (i : Int)) ?_
          refine zN ?_
          refine AWp.region ?_
          refine zM (zI (i : Int)) ?_
          refine zr (zw ((i : Int) + 1) ((i + 1 : Nat) : Int)) ?_
          refine zM (zI ((i + 1 : Nat) : Int)) ?_
          refine zN ?_
          first | exact ⟨_, by omega, i + 1, rfl, (by rw [sgTo_hit (by omega) (by assumption)]; rfl), by omega⟩ | exact ⟨_, by omega, i + 1, rfl, (by rw [sgTo_miss (by omega) (by assumption)]; rfl), by omega⟩
        · skip
          have h3' : ¬ ((wordOf (i : Int)) = ((cutA 60 t).1)) := (beq_eq_false_iff_ne.1 h3)
          clear h3
          refine AWp.skip ?_
          refine AWp.region ?_
          refine zM (zI (i : Int)) ?_
          refine zr (zw ((i : Int) + 1) ((i + 1 : Nat) : Int)) ?_
          refine zM (zI ((i + 1 : Nat) : Int)) ?_
          refine zN ?_
          first | exact ⟨_, by omega, i + 1, rfl, (by rw [sgTo_hit (by omega) (by assumption)]; rfl), by omega⟩ | exact ⟨_, by omega, i + 1, rfl, (by rw [sgTo_miss (by omega) (by assumption)]; rfl), by omega⟩
      · skip
        have h2' : ¬ (i < 3) := (by have hh := of_decide_eq_false h2; omega)
        clear h2
        refine AWp.exit ?_
        refine zg ?_
        refine zM (.str t) ?_
        refine zM (zI (((cutA 60 t).1.length : Nat) : Int)) ?_
        refine zr (zw ((((cutA 60 t).1.length : Nat) : Int) + 1) ((((cutA 60 t).1.length) + 1 : Nat) : Int)) ?_
        refine zr (Reader.sub (i := ((cutA 60 t).1.length) + 1) (j := t.length) rfl Tryz.underlying9 rfl ⟨_, _, rfl, rfl⟩ rfl (by first | omega | (simp; omega)) (by first | omega | (simp; omega)) (m := (cutA 60 t).2.1) (cut_drop hc60)) ?_
        refine zM (.str ((cutA 60 t).2.1)) ?_
        refine zN ?_
        refine zg ?_
        refine zM (.str ((cutA 60 t).2.1)) ?_
        refine zc [.str ((cutA 60 t).2.1), .lit (.int .u8 58)] Tryz.call46 (find_no (cutA 60 t).2.1 58 (by omega) hc58 M) ?_
        rintro _ _ ⟨rfl, rfl⟩
        refine zM (zI (-1)) ?_
        refine zN ?_
        refine AWp.seq ?_
        refine zg ?_
        refine zM (zI (-1)) ?_
        refine zr (zi false) ?_
        refine zN ?_
        refine AWp.cond (b := false) rfl (fun hx => by cases hx) (fun hx => ?_)
        refine AWp.skip ?_
        refine AWp.seq ?_
        refine zj 57 [(0, .str t), (2, .lptr 2 0), (4, .lptr 4 0), (5, zI (((cutA 60 t).1.length : Nat) : Int)), (6, zI (i : Int)), (18, zB (decide ((i : Int) < 3))), (7, .str ((cutA 60 t).2.1)), (8, zI (-1)), (36, zB false)] [(2, [zI 0, zI 0, zI 0, zB false, zI 0]), (4, [zI (sgTo (cutA 60 t).1 i), zI 0, zI 0, zB false, zI 0])] M (bif (decide (((((cutA 60 t).2.1).length : Nat) : Int) > 0)) then (((((cutA 60 t).2.1).getD ((((cutA 60 t).2.1).length) - 1) 0).toNat : Int) == 37) else false) ?_ ?_
        · skip
          refine zM (.str ((cutA 60 t).2.1)) ?_
          refine zr (zS ((cutA 60 t).2.1) (((cutA 60 t).2.1).length) Tryz.underlying9 (by first | rfl | simp)) ?_
          refine zr (zi (decide (((((cutA 60 t).2.1).length : Nat) : Int) > 0))) ?_
          refine zM (zB (decide (((((cutA 60 t).2.1).length : Nat) : Int) > 0))) ?_
          refine AOps.splitJ (t := 50) (b := decide (((((cutA 60 t).2.1).length : Nat) : Int) > 0)) (x := (((((cutA 60 t).2.1).getD ((((cutA 60 t).2.1).length) - 1) 0).toNat : Int) == 37)) (y := false) rfl (fun h4 => ?_) (fun h4 => ?_)
          · skip
            have h4' : (((cutA 60 t).2.1).length) > 0 := (by have hh := of_decide_eq_true h4; omega)
            clear h4
            refine zM (.str ((cutA 60 t).2.1)) ?_
            refine zM (.str ((cutA 60 t).2.1)) ?_
            refine zr (zS ((cutA 60 t).2.1) (((cutA 60 t).2.1).length) Tryz.underlying9 (by first | rfl | simp)) ?_
            refine zr (zu (((((cutA 60 t).2.1).length : Nat) : Int) - 1) (((((cutA 60 t).2.1).length) - 1 : Nat) : Int) (by rw [IntWalk.i64_in _ (by omega)]; omega)) ?_
            refine zr (Reader.byte (m := (((cutA 60 t).2.1).length) - 1) (c := ((cutA 60 t).2.1).getD ((((cutA 60 t).2.1).length) - 1) 0) rfl Tryz.underlying9 rfl rfl rfl (getD_some (by first | omega | (simp; omega)))) ?_
            refine zr (zi (((((cutA 60 t).2.1).getD ((((cutA 60 t).2.1).length) - 1) 0).toNat : Int) == 37)) ?_
            refine zr (zp true (zB (((((cutA 60 t).2.1).getD ((((cutA 60 t).2.1).length) - 1) 0).toNat : Int) == 37))) ?_
            exact AOps.nil rfl
          · skip
            have h4' : ¬ ((((cutA 60 t).2.1).length) > 0) := (by have hh := of_decide_eq_false h4; omega)
            clear h4
            refine zs ?_
            refine zs ?_
            refine zs ?_
            refine zs ?_
            refine zs ?_
            refine zs ?_
            refine zr (zp false (zB false)) ?_
            exact AOps.nil rfl
        refine zC (b := bif (decide (((((cutA 60 t).2.1).length : Nat) : Int) > 0)) then (((((cutA 60 t).2.1).getD ((((cutA 60 t).2.1).length) - 1) 0).toNat : Int) == 37) else false) rfl (fun h5 => ?_) (fun h5 => ?_)
        · skip
          have h5' : Lib.hasSuffix (cutA 60 t).2.1 [37] = true ∧ 0 < (cutA 60 t).2.1.length := ⟨sufl_t h5, suf_pos (sufl_t h5)⟩
          clear h5
          refine AWp.region ?_
          refine zM (.str ((cutA 60 t).2.1)) ?_
          refine zM (.str ((cutA 60 t).2.1)) ?_
          refine zr (zS ((cutA 60 t).2.1) (((cutA 60 t).2.1).length) Tryz.underlying9 (by first | rfl | simp)) ?_
          refine zr (zu (((((cutA 60 t).2.1).length : Nat) : Int) - 1) (((((cutA 60 t).2.1).length) - 1 : Nat) : Int) (by rw [IntWalk.i64_in _ (by omega)]; omega)) ?_
          refine zr (Reader.sub (i := 0) (j := (((cutA 60 t).2.1).length) - 1) rfl Tryz.underlying9 rfl rfl ⟨_, _, rfl, rfl⟩ (by first | omega | (simp; omega)) (by first | omega | (simp; omega)) (m := (cutA 60 t).2.1.take ((cutA 60 t).2.1.length - 1)) rfl) ?_
          refine zc [.str ((cutA 60 t).2.1.take ((cutA 60 t).2.1.length - 1))] Tryz.call48 (rnum_any ((cutA 60 t).2.1.take ((cutA 60 t).2.1.length - 1)) (by first | omega | (simp only [List.length_take, List.length_drop]; omega)) M) ?_
          rintro _ _ ⟨rfl, rfl⟩
          refine zr (zfL Tryz.underlying40 sizeOf_3) ?_
          refine zst sizeOf_3 (zI (numR ((cutA 60 t).2.1.take ((cutA 60 t).2.1.length - 1)))) ?_
          refine zN ?_
          refine AWp.seq ?_
          refine zg ?_
          refine zr (zlL (.agg [zI (sgTo (cutA 60 t).1 i), zI (numR ((cutA 60 t).2.1.take ((cutA 60 t).2.1.length - 1))), zI 0, zB false, zI 0]) Tryz.underlying40 sizeOf_40) ?_
          refine zc [.agg [zI (sgTo (cutA 60 t).1 i), zI (numR ((cutA 60 t).2.1.take ((cutA 60 t).2.1.length - 1))), zI 0, zB false, zI 0]] Tryz.call28 (rRight_any ⟨sgTo (cutA 60 t).1 i, numR ((cutA 60 t).2.1.take ((cutA 60 t).2.1.length - 1)), 0, false, 0⟩ M) ?_
          rintro _ _ ⟨rfl, rfl⟩
          refine zr (zn (decide (RightT ⟨sgTo (cutA 60 t).1 i, numR ((cutA 60 t).2.1.take ((cutA 60 t).2.1.length - 1)), 0, false, 0⟩))) ?_
          refine zN ?_
          refine zC (b := !(decide (RightT ⟨sgTo (cutA 60 t).1 i, numR ((cutA 60 t).2.1.take ((cutA 60 t).2.1.length - 1)), 0, false, 0⟩))) rfl (fun h6 => ?_) (fun h6 => ?_)
          · skip
            have h6' : ¬ RightT ⟨sgTo (cutA 60 t).1 i, numR ((cutA 60 t).2.1.take ((cutA 60 t).2.1.length - 1)), 0, false, 0⟩ := (of_decide_eq_false (bnot_t h6))
            clear h6
            refine zg ?_
            refine zr (Reader.build (xs := []) (Es := []) (places := places_40) rfl Tryz.underlying40 (by refine ⟨rfl, fun j p x hp hx => ?_⟩; match j, hp, hx with | _ + 0, hp, hx => cases hp) zero_40 rfl places_40_ok (cs := [zI 0, zI 0, zI 0, zB false, zI 0]) rfl) ?_
            refine zst sizeOf_40 (.agg [zI 0, zI 0, zI 0, zB false, zI 0]) ?_
            refine zM (zB false) ?_
            refine zN ?_
            refine AWp.ret ?_
            have hs3 := sgTo_3 (w := wdOf t) (i := i) (by omega)
            have hno : ¬ OkT t := by first | exact (ref_no (.inr (no_amt (suv hv (by assumption)) (qn_of (by rw [hv]; assumption))))).1 | (have hq := thrR_of (t := t) hc58 (suv hv (by assumption)); rw [hv] at hq; exact (ref_no (.inr (rth_f hs3 hq (by assumption)))).1)
            exact ⟨.inl rfl, _, ResOf.cellTmp 2 2 0 5 40 _ _ (.agg [zI 0, zI 0, zI 0, zB false, zI 0]) rfl rfl Tryz.underlying40 sizeOf_40 rfl (Eq.refl true) 3 (zB false) rfl (.inl rfl), ⟨by rw [(rth_no hno).1, (rth_no hno).2]; rfl, rfl⟩⟩
          · skip
            have h6' : RightT ⟨sgTo (cutA 60 t).1 i, numR ((cutA 60 t).2.1.take ((cutA 60 t).2.1.length - 1)), 0, false, 0⟩ := (of_decide_eq_true (bnot_f h6))
            clear h6
            refine AWp.skip ?_
            refine zg ?_
            refine zr (zlL (.agg [zI (sgTo (cutA 60 t).1 i), zI (numR ((cutA 60 t).2.1.take ((cutA 60 t).2.1.length - 1))), zI 0, zB false, zI 0]) Tryz.underlying40 sizeOf_40) ?_
            refine zst sizeOf_40 (.agg [zI (sgTo (cutA 60 t).1 i), zI (numR ((cutA 60 t).2.1.take ((cutA 60 t).2.1.length - 1))), zI 0, zB false, zI 0]) ?_
            refine zM (zB true) ?_
            refine zN ?_
            refine AWp.ret ?_
            have hs3 := sgTo_3 (w := wdOf t) (i := i) (by omega)
            have hq := thrR_of (t := t) hc58 (suv hv (by assumption))
            rw [hv] at hq
            have hok := ref_ok hc60 (rth_t hs3 hq (by assumption))
            rw [← hok.2, decide_eq_true hok.1, hq, ← hs3]
            exact ⟨.inl rfl, _, ResOf.cellTmp 2 2 0 5 40 _ _ (.agg [zI (sgTo (cutA 60 t).1 i), zI (numR ((cutA 60 t).2.1.take ((cutA 60 t).2.1.length - 1))), zI 0, zB false, zI 0]) rfl rfl Tryz.underlying40 sizeOf_40 rfl (Eq.refl true) 3 (zB true) rfl (.inl rfl), ⟨rfl, rfl⟩⟩
        · skip
          have h5' : Lib.hasSuffix (cutA 60 t).2.1 [37] = false ∧ 0 ≤ (cutA 60 t).2.1.length := ⟨sufl_f h5, Nat.zero_le _⟩
          clear h5
          refine zg ?_
          refine zM (.str ((cutA 60 t).2.1)) ?_
          refine zc [.str ((cutA 60 t).2.1)] Tryz.call26 (rRead_any ((cutA 60 t).2.1) (by omega) M) ?_
          rintro _ _ ⟨rfl, rfl⟩
          refine zM (.tuple [zI ((qv ((cutA 60 t).2.1) : Nat) : Int), zB ((quantV ((cutA 60 t).2.1)).isSome)]) ?_
          refine zr (zx (zI ((qv ((cutA 60 t).2.1) : Nat) : Int))) ?_
          refine zr (zx (zB ((quantV ((cutA 60 t).2.1)).isSome))) ?_
          refine zM (zI ((qv ((cutA 60 t).2.1) : Nat) : Int)) ?_
          refine zM (zB ((quantV ((cutA 60 t).2.1)).isSome)) ?_
          refine zN ?_
          refine AWp.seq ?_
          refine zg ?_
          refine zM (zB ((quantV ((cutA 60 t).2.1)).isSome)) ?_
          refine zr (zn ((quantV ((cutA 60 t).2.1)).isSome)) ?_
          refine zN ?_
          refine zC (b := !((quantV ((cutA 60 t).2.1)).isSome)) rfl (fun h7 => ?_) (fun h7 => ?_)
          · skip
            refine zg ?_
            refine zr (Reader.build (xs := []) (Es := []) (places := places_40) rfl Tryz.underlying40 (by refine ⟨rfl, fun j p x hp hx => ?_⟩; match j, hp, hx with | _ + 0, hp, hx => cases hp) zero_40 rfl places_40_ok (cs := [zI 0, zI 0, zI 0, zB false, zI 0]) rfl) ?_
            refine zst sizeOf_40 (.agg [zI 0, zI 0, zI 0, zB false, zI 0]) ?_
            refine zM (zB false) ?_
            refine zN ?_
            refine AWp.ret ?_
            have hs3 := sgTo_3 (w := wdOf t) (i := i) (by omega)
            have hno : ¬ OkT t := by first | exact (ref_no (.inr (no_amt (suv hv (by assumption)) (qn_of (by rw [hv]; assumption))))).1 | (have hq := thrR_of (t := t) hc58 (suv hv (by assumption)); rw [hv] at hq; exact (ref_no (.inr (rth_f hs3 hq (by assumption)))).1)
            exact ⟨.inl rfl, _, ResOf.cellTmp 2 2 0 5 40 _ _ (.agg [zI 0, zI 0, zI 0, zB false, zI 0]) rfl rfl Tryz.underlying40 sizeOf_40 rfl (Eq.refl true) 3 (zB false) rfl (.inl rfl), ⟨by rw [(rth_no hno).1, (rth_no hno).2]; rfl, rfl⟩⟩
          · skip
            refine AWp.skip ?_
            refine AWp.region ?_
            refine zM (zI ((qv ((cutA 60 t).2.1) : Nat) : Int)) ?_
            refine zr (zfL Tryz.underlying40 sizeOf_3) ?_
            refine zst sizeOf_3 (zI ((qv ((cutA 60 t).2.1) : Nat) : Int)) ?_
            refine zN ?_
            refine AWp.seq ?_
            refine zg ?_
            refine zr (zlL (.agg [zI (sgTo (cutA 60 t).1 i), zI 0, zI ((qv ((cutA 60 t).2.1) : Nat) : Int), zB false, zI 0]) Tryz.underlying40 sizeOf_40) ?_
            refine zc [.agg [zI (sgTo (cutA 60 t).1 i), zI 0, zI ((qv ((cutA 60 t).2.1) : Nat) : Int), zB false, zI 0]] Tryz.call28 (rRight_any ⟨sgTo (cutA 60 t).1 i, 0, ((qv ((cutA 60 t).2.1) : Nat) : Int), false, 0⟩ M) ?_
            rintro _ _ ⟨rfl, rfl⟩
            refine zr (zn (decide (RightT ⟨sgTo (cutA 60 t).1 i, 0, ((qv ((cutA 60 t).2.1) : Nat) : Int), false, 0⟩))) ?_
            refine zN ?_
            refine zC (b := !(decide (RightT ⟨sgTo (cutA 60 t).1 i, 0, ((qv ((cutA 60 t).2.1) : Nat) : Int), false, 0⟩))) rfl (fun h8 => ?_) (fun h8 => ?_)
            · skip
              have h8' : ¬ RightT ⟨sgTo (cutA 60 t).1 i, 0, ((qv ((cutA 60 t).2.1) : Nat) : Int), false, 0⟩ := (of_decide_eq_false (bnot_t h8))
              clear h8
              refine zg ?_
              refine zr (Reader.build (xs := []) (Es := []) (places := places_40) rfl Tryz.underlying40 (by refine ⟨rfl, fun j p x hp hx => ?_⟩; match j, hp, hx with | _ + 0, hp, hx => cases hp) zero_40 rfl places_40_ok (cs := [zI 0, zI 0, zI 0, zB false, zI 0]) rfl) ?_
              refine zst sizeOf_40 (.agg [zI 0, zI 0, zI 0, zB false, zI 0]) ?_
              refine zM (zB false) ?_
              refine zN ?_
              refine AWp.ret ?_
              have hs3 := sgTo_3 (w := wdOf t) (i := i) (by omega)
              have hno : ¬ OkT t := by first | exact (ref_no (.inr (no_amt (suv hv (by assumption)) (qn_of (by rw [hv]; assumption))))).1 | (have hq := thrR_of (t := t) hc58 (suv hv (by assumption)); rw [hv] at hq; exact (ref_no (.inr (rth_f hs3 hq (by assumption)))).1)
              exact ⟨.inl rfl, _, ResOf.cellTmp 2 2 0 5 40 _ _ (.agg [zI 0, zI 0, zI 0, zB false, zI 0]) rfl rfl Tryz.underlying40 sizeOf_40 rfl (Eq.refl true) 3 (zB false) rfl (.inl rfl), ⟨by rw [(rth_no hno).1, (rth_no hno).2]; rfl, rfl⟩⟩
            · skip
              have h8' : RightT ⟨sgTo (cutA 60 t).1 i, 0, ((qv ((cutA 60 t).2.1) : Nat) : Int), false, 0⟩ := (of_decide_eq_true (bnot_f h8))
              clear h8
              refine AWp.skip ?_
              refine zg ?_
              refine zr (zlL (.agg [zI (sgTo (cutA 60 t).1 i), zI 0, zI ((qv ((cutA 60 t).2.1) : Nat) : Int), zB false, zI 0]) Tryz.underlying40 sizeOf_40) ?_
              refine zst sizeOf_40 (.agg [zI (sgTo (cutA 60 t).1 i), zI 0, zI ((qv ((cutA 60 t).2.1) : Nat) : Int), zB false, zI 0]) ?_
              refine zM (zB true) ?_
              refine zN ?_
              refine AWp.ret ?_
              have hs3 := sgTo_3 (w := wdOf t) (i := i) (by omega)
              have hq := thrR_of (t := t) hc58 (suv hv (by assumption))
              rw [hv] at hq
              have hok := ref_ok hc60 (rth_t hs3 hq (by assumption))
              rw [← hok.2, decide_eq_true hok.1, hq, ← hs3]
              exact ⟨.inl rfl, _, ResOf.cellTmp 2 2 0 5 40 _ _ (.agg [zI (sgTo (cutA 60 t).1 i), zI 0, zI ((qv ((cutA 60 t).2.1) : Nat) : Int), zB false, zI 0]) rfl rfl Tryz.underlying40 sizeOf_40 rfl (Eq.refl true) 3 (zB true) rfl (.inl rfl), ⟨rfl, rfl⟩⟩

theorem rTRead_any (t : List UInt8) (hl : t.length ≤ 4294967280) (M : Nat → Option (List AV)) : ACall Tryz.prog 25 [.str t] M (fun r M' => r = .tuple [encT (readT t), zB (decide (OkT t))] ∧ M = M') := by
  cases hc60 : t.contains 60 with
  | false => exact rTRead_no t hl hc60 M
  | true =>
    cases hc58 : (cutA 60 t).2.1.contains 58 with
    | true => exact rTRead_soft t hl hc60 hc58 M
    | false => exact rTRead_hard t hl hc60 hc58 M
end
section
open Go.RowKit

theorem sigw_len (k : Nat) : (sigL.getD k []).length ≤ 6 := by
  match k with
  | 0 | 1 | 2 => decide
  | k + 3 => exact Nat.zero_le _
theorem sigw_word {i : Int} (h0 : 0 ≤ i) (h2 : i ≤ 2) : sigL.getD i.toNat [] = wordOf i := by
  have : i = 0 ∨ i = 1 ∨ i = 2 := by omega
  rcases this with rfl | rfl | rfl <;> rfl
theorem itoa_len (n : Int) (h0 : 0 ≤ n) (h1 : n ≤ 9223372036854775807) : (Lib.itoa n).length ≤ 19 := by
  rw [itoa_pos h0]; exact digs_len20 n.toNat (by omega)
theorem Digits_int (n : Int) (h0 : 0 ≤ n) (hn : n ≤ 9223372036854775807) (M : Nat → Option (List AV)) : ACall Tryz.prog 60 [.lit (.int .i64 n)] M (fun r M' => r = .str (digs n.toNat) ∧ M = M') := by
  obtain ⟨m, rfl⟩ := Int.eq_ofNat_of_zero_le h0
  exact Digits_any m (by omega) M
theorem rPrint_int (n : Int) (h0 : 0 ≤ n) (hn : n ≤ 9223372036854775807) (M : Nat → Option (List AV)) : ACall Tryz.prog 39 [.lit (.int .i64 n)] M (fun r M' => r = .str (printV n.toNat) ∧ M = M') := by
  obtain ⟨m, rfl⟩ := Int.eq_ofNat_of_zero_le h0
  exact rPrint_any m (by omega) M
section
variable {u : Thr}
theorem pr_tt (h0 : 0 ≤ u.sig) (h2 : u.sig ≤ 2) (hp : 0 ≤ u.pct ∧ u.pct ≤ 100 ∧ 0 ≤ u.amt ∧ 0 ≤ u.gr ∧ u.gr ≤ 1000) (h1 : u.pct > 0) (hs : u.soft = true) : ((sigL.getD u.sig.toNat [] ++ [60]) ++ (Lib.itoa u.pct ++ [37])) ++ ([58] ++ Lib.itoa u.gr) = printT u := by
  unfold printT valT; rw [sigw_word h0 h2, itoa_pos (by omega), itoa_pos (by omega), if_pos h1, hs, if_pos rfl]
theorem pr_tf (h0 : 0 ≤ u.sig) (h2 : u.sig ≤ 2) (hp : 0 ≤ u.pct ∧ u.pct ≤ 100 ∧ 0 ≤ u.amt ∧ 0 ≤ u.gr ∧ u.gr ≤ 1000) (h1 : u.pct > 0) (hs : u.soft = false) : (sigL.getD u.sig.toNat [] ++ [60]) ++ (Lib.itoa u.pct ++ [37]) = printT u := by
  unfold printT valT; rw [sigw_word h0 h2, itoa_pos (by omega), if_pos h1, hs, if_neg (by decide), List.append_nil]
theorem pr_ft (h0 : 0 ≤ u.sig) (h2 : u.sig ≤ 2) (hp : 0 ≤ u.pct ∧ u.pct ≤ 100 ∧ 0 ≤ u.amt ∧ 0 ≤ u.gr ∧ u.gr ≤ 1000) (h1 : ¬ u.pct > 0) (hs : u.soft = true) : ((sigL.getD u.sig.toNat [] ++ [60]) ++ printV u.amt.toNat) ++ ([58] ++ Lib.itoa u.gr) = printT u := by
  unfold printT valT; rw [sigw_word h0 h2, itoa_pos (by omega), if_neg h1, hs, if_pos rfl]
theorem pr_ff (h0 : 0 ≤ u.sig) (h2 : u.sig ≤ 2) (_ : 0 ≤ u.pct ∧ u.pct ≤ 100 ∧ 0 ≤ u.amt ∧ 0 ≤ u.gr ∧ u.gr ≤ 1000) (h1 : ¬ u.pct > 0) (hs : u.soft = false) : (sigL.getD u.sig.toNat [] ++ [60]) ++ printV u.amt.toNat = printT u := by
  unfold printT valT; rw [sigw_word h0 h2, if_neg h1, hs, if_neg (by decide), List.append_nil]
theorem rpr_tt (_ : 0 ≤ u.sig) (_ : u.sig ≤ 2) (_ : 0 ≤ u.pct ∧ u.pct ≤ 100 ∧ 0 ≤ u.amt ∧ 0 ≤ u.gr ∧ u.gr ≤ 1000) (h1 : u.pct > 0) (hs : u.soft = true) : ((((wordOf u.sig ++ [60]) ++ digs u.pct.toNat) ++ [37]) ++ [58]) ++ digs u.gr.toNat = printT u := by
  unfold printT valT; rw [if_pos h1, hs, if_pos rfl]; simp only [List.append_assoc]
theorem rpr_tf (_ : 0 ≤ u.sig) (_ : u.sig ≤ 2) (_ : 0 ≤ u.pct ∧ u.pct ≤ 100 ∧ 0 ≤ u.amt ∧ 0 ≤ u.gr ∧ u.gr ≤ 1000) (h1 : u.pct > 0) (hs : u.soft = false) : ((wordOf u.sig ++ [60]) ++ digs u.pct.toNat) ++ [37] = printT u := by
  unfold printT valT; rw [if_pos h1, hs, if_neg (by decide), List.append_nil]; simp only [List.append_assoc]
theorem rpr_ft (_ : 0 ≤ u.sig) (_ : u.sig ≤ 2) (_ : 0 ≤ u.pct ∧ u.pct ≤ 100 ∧ 0 ≤ u.amt ∧ 0 ≤ u.gr ∧ u.gr ≤ 1000) (h1 : ¬ u.pct > 0) (hs : u.soft = true) : (((wordOf u.sig ++ [60]) ++ printV u.amt.toNat) ++ [58]) ++ digs u.gr.toNat = printT u := by
  unfold printT valT; rw [if_neg h1, hs, if_pos rfl]; simp only [List.append_assoc]
theorem rpr_ff (_ : 0 ≤ u.sig) (_ : u.sig ≤ 2) (_ : 0 ≤ u.pct ∧ u.pct ≤ 100 ∧ 0 ≤ u.amt ∧ 0 ≤ u.gr ∧ u.gr ≤ 1000) (h1 : ¬ u.pct > 0) (hs : u.soft = false) : (wordOf u.sig ++ [60]) ++ printV u.amt.toNat = printT u := by
  unfold printT valT; rw [if_neg h1, hs, if_neg (by decide), List.append_nil]
end
set_option maxRecDepth 20000 in
theorem TPrint_any (u : Thr) (h : RightT u) (ha : u.amt ≤ 9223372036854775807) (M : Nat → Option (List AV)) : ACall Tryz.prog 31 [encT u] M (fun r M' => r = .str (printT u) ∧ M = M') := by
  obtain ⟨hs0, hs2, hpa, hgr⟩ := h
  have hp0 : 0 ≤ u.pct ∧ u.pct ≤ 100 ∧ 0 ≤ u.amt ∧ 0 ≤ u.gr ∧ u.gr ≤ 1000 := by omega
  have hq1 := sigw_len u.sig.toNat
  have hq2 := itoa_len u.pct (by omega) (by omega)
  have hq3 := printV_len u.amt.toNat (by omega)
  have hq4 := itoa_len u.gr (by omega) (by omega)
  have hq5 := word_len u.sig
  have hq6 := digs_len20 u.pct.toNat (by omega)
  have hq7 := digs_len20 u.gr.toNat (by omega)
  refine ACall.of Tryz.func31 rfl (n := 33) rfl rfl rfl ?_
  refine zg ?_
  refine AOps.box trivial rfl (by decide) rfl (noL rfl) rfl (v := encT u) (.inl ⟨rfl, rfl⟩) rfl rfl (all_flat rfl) ?_
  refine zM (.str []) ?_
  refine zN ?_
  refine AWp.anyK [0, 1, 2, 3] [1] (⟨[(0, encT u), (1, .lptr 1 0), (2, .str []), (3, .str ((sigL.getD u.sig.toNat []) ++ [60]))], [(1, [zI u.sig, zI u.pct, zI u.amt, zB u.soft, zI u.gr])], M⟩) (by kernel_rfl) ?_ ?_
  · skip
    refine AAny.step [0, 1] (by kernel_rfl) (by decide) ?_
    intro iq hq; simp only [List.mem_cons, List.mem_nil_iff, or_false] at hq
    rcases hq with rfl | rfl
    · refine ⟨_, rfl, ?_⟩
      refine zc [] Tryz.call54 (twords_any M) ?_
      rintro _ _ ⟨rfl, rfl⟩
      refine zN ?_
      refine AAny.step [1] (by kernel_rfl) (by decide) ?_
      intro iq hq; simp only [List.mem_cons, List.mem_nil_iff, or_false] at hq
      rcases hq with rfl
      · refine ⟨_, rfl, ?_⟩
        refine zr (zfL Tryz.underlying40 sizeOf_3) ?_
        refine zN ?_
        refine AAny.step [2] (by kernel_rfl) (by decide) ?_
        intro iq hq; simp only [List.mem_cons, List.mem_nil_iff, or_false] at hq
        rcases hq with rfl
        · refine ⟨_, rfl, ?_⟩
          refine zr (zlL (zI u.sig) Tryz.underlying3 sizeOf_3) ?_
          refine zN ?_
          refine AAny.step [3] (by kernel_rfl) (by decide) ?_
          intro iq hq; simp only [List.mem_cons, List.mem_nil_iff, or_false] at hq
          rcases hq with rfl
          · refine ⟨_, rfl, ?_⟩
            refine zr (Reader.elemAddr (m := u.sig.toNat) rfl Tryz.underlying38 sizeOf_9 rfl rfl (by omega) (e := .str (sigL.getD u.sig.toNat [])) (strs_at (by first | omega | (show _ < 3; omega)))) ?_
            refine zN ?_
            refine AAny.step [4] (by kernel_rfl) (by decide) ?_
            intro iq hq; simp only [List.mem_cons, List.mem_nil_iff, or_false] at hq
            rcases hq with rfl
            · refine ⟨_, rfl, ?_⟩
              refine zr (zlE (.str (sigL.getD u.sig.toNat [])) Tryz.underlying9 sizeOf_9) ?_
              refine zN ?_
              refine AAny.step [5] (by kernel_rfl) (by decide) ?_
              intro iq hq; simp only [List.mem_cons, List.mem_nil_iff, or_false] at hq
              rcases hq with rfl
              · refine ⟨_, rfl, ?_⟩
                refine zr (Reader.cat rfl rfl rfl (by first | omega | (simp only [List.length_append, List.length_cons, List.length_nil]; omega) | (simp; omega)) (c := (sigL.getD u.sig.toNat []) ++ [60]) rfl) ?_
                refine zN ?_
                refine AAny.step [6] (by kernel_rfl) (by decide) ?_
                intro iq hq; simp only [List.mem_cons, List.mem_nil_iff, or_false] at hq
                rcases hq with rfl
                · refine ⟨_, rfl, ?_⟩
                  refine zM (.str ((sigL.getD u.sig.toNat []) ++ [60])) ?_
                  refine zN ?_
                  exact AAny.done (by kernel_rfl) rfl
    · refine ⟨_, rfl, ?_⟩
      refine zr (zfL Tryz.underlying40 sizeOf_3) ?_
      refine zN ?_
      refine AAny.step [0, 2] (by kernel_rfl) (by decide) ?_
      intro iq hq; simp only [List.mem_cons, List.mem_nil_iff, or_false] at hq
      rcases hq with rfl | rfl
      · refine ⟨_, rfl, ?_⟩
        refine zc [] Tryz.call54 (twords_any M) ?_
        rintro _ _ ⟨rfl, rfl⟩
        refine zN ?_
        refine AAny.step [2] (by kernel_rfl) (by decide) ?_
        intro iq hq; simp only [List.mem_cons, List.mem_nil_iff, or_false] at hq
        rcases hq with rfl
        · refine ⟨_, rfl, ?_⟩
          refine zr (zlL (zI u.sig) Tryz.underlying3 sizeOf_3) ?_
          refine zN ?_
          refine AAny.step [3] (by kernel_rfl) (by decide) ?_
          intro iq hq; simp only [List.mem_cons, List.mem_nil_iff, or_false] at hq
          rcases hq with rfl
          · refine ⟨_, rfl, ?_⟩
            refine zr (Reader.elemAddr (m := u.sig.toNat) rfl Tryz.underlying38 sizeOf_9 rfl rfl (by omega) (e := .str (sigL.getD u.sig.toNat [])) (strs_at (by first | omega | (show _ < 3; omega)))) ?_
            refine zN ?_
            refine AAny.step [4] (by kernel_rfl) (by decide) ?_
            intro iq hq; simp only [List.mem_cons, List.mem_nil_iff, or_false] at hq
            rcases hq with rfl
            · refine ⟨_, rfl, ?_⟩
              refine zr (zlE (.str (sigL.getD u.sig.toNat [])) Tryz.underlying9 sizeOf_9) ?_
              refine zN ?_
              refine AAny.step [5] (by kernel_rfl) (by decide) ?_
              intro iq hq; simp only [List.mem_cons, List.mem_nil_iff, or_false] at hq
              rcases hq with rfl
              · refine ⟨_, rfl, ?_⟩
                refine zr (Reader.cat rfl rfl rfl (by first | omega | (simp only [List.length_append, List.length_cons, List.length_nil]; omega) | (simp; omega)) (c := (sigL.getD u.sig.toNat []) ++ [60]) rfl) ?_
                refine zN ?_
                refine AAny.step [6] (by kernel_rfl) (by decide) ?_
                intro iq hq; simp only [List.mem_cons, List.mem_nil_iff, or_false] at hq
                rcases hq with rfl
                · refine ⟨_, rfl, ?_⟩
                  refine zM (.str ((sigL.getD u.sig.toNat []) ++ [60])) ?_
                  refine zN ?_
                  exact AAny.done (by kernel_rfl) rfl
      · refine ⟨_, rfl, ?_⟩
        refine zr (zlL (zI u.sig) Tryz.underlying3 sizeOf_3) ?_
        refine zN ?_
        refine AAny.step [0] (by kernel_rfl) (by decide) ?_
        intro iq hq; simp only [List.mem_cons, List.mem_nil_iff, or_false] at hq
        rcases hq with rfl
        · refine ⟨_, rfl, ?_⟩
          refine zc [] Tryz.call54 (twords_any M) ?_
          rintro _ _ ⟨rfl, rfl⟩
          refine zN ?_
          refine AAny.step [3] (by kernel_rfl) (by decide) ?_
          intro iq hq; simp only [List.mem_cons, List.mem_nil_iff, or_false] at hq
          rcases hq with rfl
          · refine ⟨_, rfl, ?_⟩
            refine zr (Reader.elemAddr (m := u.sig.toNat) rfl Tryz.underlying38 sizeOf_9 rfl rfl (by omega) (e := .str (sigL.getD u.sig.toNat [])) (strs_at (by first | omega | (show _ < 3; omega)))) ?_
            refine zN ?_
            refine AAny.step [4] (by kernel_rfl) (by decide) ?_
            intro iq hq; simp only [List.mem_cons, List.mem_nil_iff, or_false] at hq
            rcases hq with rfl
            · refine ⟨_, rfl, ?_⟩
              refine zr (zlE (.str (sigL.getD u.sig.toNat [])) Tryz.underlying9 sizeOf_9) ?_
              refine zN ?_
              refine AAny.step [5] (by kernel_rfl) (by decide) ?_
              intro iq hq; simp only [List.mem_cons, List.mem_nil_iff, or_false] at hq
              rcases hq with rfl
              · refine ⟨_, rfl, ?_⟩
                refine zr (Reader.cat rfl rfl rfl (by first | omega | (simp only [List.length_append, List.length_cons, List.length_nil]; omega) | (simp; omega)) (c := (sigL.getD u.sig.toNat []) ++ [60]) rfl) ?_
                refine zN ?_
                refine AAny.step [6] (by kernel_rfl) (by decide) ?_
                intro iq hq; simp only [List.mem_cons, List.mem_nil_iff, or_false] at hq
                rcases hq with rfl
                · refine ⟨_, rfl, ?_⟩
                  refine zM (.str ((sigL.getD u.sig.toNat []) ++ [60])) ?_
                  refine zN ?_
                  exact AAny.done (by kernel_rfl) rfl
  refine AWp.seq ?_
  refine zg ?_
  refine zr (zfL Tryz.underlying40 sizeOf_3) ?_
  refine zr (zlL (zI u.pct) Tryz.underlying3 sizeOf_3) ?_
  refine zr (zi (decide (u.pct > 0))) ?_
  refine zN ?_
  refine zC (b := decide (u.pct > 0)) rfl (fun h1 => ?_) (fun h1 => ?_)
  · skip
    have h1' : u.pct > 0 := (by have hh := of_decide_eq_true h1; omega)
    clear h1
    refine AWp.region ?_
    refine zM (.str ((sigL.getD u.sig.toNat []) ++ [60])) ?_
    refine zr (zfL Tryz.underlying40 sizeOf_3) ?_
    refine zr (zlL (zI u.pct) Tryz.underlying3 sizeOf_3) ?_
    refine zc [zI u.pct] Tryz.call53 (itoa_int u.pct (by omega) (by omega) M) ?_
    rintro _ _ ⟨rfl, rfl⟩
    refine zr (Reader.cat rfl rfl rfl (by first | omega | (simp only [List.length_append, List.length_cons, List.length_nil]; omega) | (simp; omega)) (c := (Lib.itoa u.pct) ++ [37]) rfl) ?_
    refine zr (Reader.cat rfl rfl rfl (by first | omega | (simp only [List.length_append, List.length_cons, List.length_nil]; omega) | (simp; omega)) (c := ((sigL.getD u.sig.toNat []) ++ [60]) ++ ((Lib.itoa u.pct) ++ [37])) rfl) ?_
    refine zM (.str (((sigL.getD u.sig.toNat []) ++ [60]) ++ ((Lib.itoa u.pct) ++ [37]))) ?_
    refine zN ?_
    refine AWp.seq ?_
    refine zg ?_
    refine zr (zfL Tryz.underlying40 sizeOf_4) ?_
    refine zr (zlL (zB u.soft) Tryz.underlying4 sizeOf_4) ?_
    refine zN ?_
    refine zC (b := u.soft) rfl (fun h2 => ?_) (fun h2 => ?_)
    · skip
      refine AWp.region ?_
      refine zM (.str (((sigL.getD u.sig.toNat []) ++ [60]) ++ ((Lib.itoa u.pct) ++ [37]))) ?_
      refine zr (zfL Tryz.underlying40 sizeOf_3) ?_
      refine zr (zlL (zI u.gr) Tryz.underlying3 sizeOf_3) ?_
      refine zc [zI u.gr] Tryz.call53 (itoa_int u.gr (by omega) (by omega) M) ?_
      rintro _ _ ⟨rfl, rfl⟩
      refine zr (Reader.cat rfl rfl rfl (by first | omega | (simp only [List.length_append, List.length_cons, List.length_nil]; omega) | (simp; omega)) (c := [58] ++ (Lib.itoa u.gr)) rfl) ?_
      refine zr (Reader.cat rfl rfl rfl (by first | omega | (simp only [List.length_append, List.length_cons, List.length_nil]; omega) | (simp; omega)) (c := (((sigL.getD u.sig.toNat []) ++ [60]) ++ ((Lib.itoa u.pct) ++ [37])) ++ ([58] ++ (Lib.itoa u.gr))) rfl) ?_
      refine zM (.str ((((sigL.getD u.sig.toNat []) ++ [60]) ++ ((Lib.itoa u.pct) ++ [37])) ++ ([58] ++ (Lib.itoa u.gr)))) ?_
      refine zN ?_
      refine zg ?_
      refine zM (.str ((((sigL.getD u.sig.toNat []) ++ [60]) ++ ((Lib.itoa u.pct) ++ [37])) ++ ([58] ++ (Lib.itoa u.gr)))) ?_
      refine zM (.str ((((sigL.getD u.sig.toNat []) ++ [60]) ++ ((Lib.itoa u.pct) ++ [37])) ++ ([58] ++ (Lib.itoa u.gr)))) ?_
      refine zN ?_
      refine AWp.ret ?_
      exact ⟨.inl rfl, _, ResOf.one 2 (.str ((((sigL.getD u.sig.toNat []) ++ [60]) ++ ((Lib.itoa u.pct) ++ [37])) ++ ([58] ++ (Lib.itoa u.gr)))) rfl rfl, ⟨congrArg AV.str (pr_tt hs0 hs2 hp0 (by assumption) (by assumption)), rfl⟩⟩
    · skip
      refine AWp.skip ?_
      refine zg ?_
      refine zM (.str (((sigL.getD u.sig.toNat []) ++ [60]) ++ ((Lib.itoa u.pct) ++ [37]))) ?_
      refine zM (.str (((sigL.getD u.sig.toNat []) ++ [60]) ++ ((Lib.itoa u.pct) ++ [37]))) ?_
      refine zN ?_
      refine AWp.ret ?_
      exact ⟨.inl rfl, _, ResOf.one 2 (.str (((sigL.getD u.sig.toNat []) ++ [60]) ++ ((Lib.itoa u.pct) ++ [37]))) rfl rfl, ⟨congrArg AV.str (pr_tf hs0 hs2 hp0 (by assumption) (by assumption)), rfl⟩⟩
  · skip
    have h1' : ¬ (u.pct > 0) := (by have hh := of_decide_eq_false h1; omega)
    clear h1
    refine AWp.region ?_
    refine zM (.str ((sigL.getD u.sig.toNat []) ++ [60])) ?_
    refine zr (zfL Tryz.underlying40 sizeOf_3) ?_
    refine zr (zlL (zI u.amt) Tryz.underlying3 sizeOf_3) ?_
    refine zc [zI u.amt] Tryz.call29 (Print_any u.amt (by omega) M) ?_
    rintro _ _ ⟨rfl, rfl⟩
    refine zr (Reader.cat rfl rfl rfl (by first | omega | (simp only [List.length_append, List.length_cons, List.length_nil]; omega) | (simp; omega)) (c := ((sigL.getD u.sig.toNat []) ++ [60]) ++ (printV u.amt.toNat)) rfl) ?_
    refine zM (.str (((sigL.getD u.sig.toNat []) ++ [60]) ++ (printV u.amt.toNat))) ?_
    refine zN ?_
    refine AWp.seq ?_
    refine zg ?_
    refine zr (zfL Tryz.underlying40 sizeOf_4) ?_
    refine zr (zlL (zB u.soft) Tryz.underlying4 sizeOf_4) ?_
    refine zN ?_
    refine zC (b := u.soft) rfl (fun h3 => ?_) (fun h3 => ?_)
    · skip
      refine AWp.region ?_
      refine zM (.str (((sigL.getD u.sig.toNat []) ++ [60]) ++ (printV u.amt.toNat))) ?_
      refine zr (zfL Tryz.underlying40 sizeOf_3) ?_
      refine zr (zlL (zI u.gr) Tryz.underlying3 sizeOf_3) ?_
      refine zc [zI u.gr] Tryz.call53 (itoa_int u.gr (by omega) (by omega) M) ?_
      rintro _ _ ⟨rfl, rfl⟩
      refine zr (Reader.cat rfl rfl rfl (by first | omega | (simp only [List.length_append, List.length_cons, List.length_nil]; omega) | (simp; omega)) (c := [58] ++ (Lib.itoa u.gr)) rfl) ?_
      refine zr (Reader.cat rfl rfl rfl (by first | omega | (simp only [List.length_append, List.length_cons, List.length_nil]; omega) | (simp; omega)) (c := (((sigL.getD u.sig.toNat []) ++ [60]) ++ (printV u.amt.toNat)) ++ ([58] ++ (Lib.itoa u.gr))) rfl) ?_
      refine zM (.str ((((sigL.getD u.sig.toNat []) ++ [60]) ++ (printV u.amt.toNat)) ++ ([58] ++ (Lib.itoa u.gr)))) ?_
      refine zN ?_
      refine zg ?_
      refine zM (.str ((((sigL.getD u.sig.toNat []) ++ [60]) ++ (printV u.amt.toNat)) ++ ([58] ++ (Lib.itoa u.gr)))) ?_
      refine zM (.str ((((sigL.getD u.sig.toNat []) ++ [60]) ++ (printV u.amt.toNat)) ++ ([58] ++ (Lib.itoa u.gr)))) ?_
      refine zN ?_
      refine AWp.ret ?_
      exact ⟨.inl rfl, _, ResOf.one 2 (.str ((((sigL.getD u.sig.toNat []) ++ [60]) ++ (printV u.amt.toNat)) ++ ([58] ++ (Lib.itoa u.gr)))) rfl rfl, ⟨congrArg AV.str (pr_ft hs0 hs2 hp0 (by assumption) (by assumption)), rfl⟩⟩
    · skip
      refine AWp.skip ?_
      refine zg ?_
      refine zM (.str (((sigL.getD u.sig.toNat []) ++ [60]) ++ (printV u.amt.toNat))) ?_
      refine zM (.str (((sigL.getD u.sig.toNat []) ++ [60]) ++ (printV u.amt.toNat))) ?_
      refine zN ?_
      refine AWp.ret ?_
      exact ⟨.inl rfl, _, ResOf.one 2 (.str (((sigL.getD u.sig.toNat []) ++ [60]) ++ (printV u.amt.toNat))) rfl rfl, ⟨congrArg AV.str (pr_ff hs0 hs2 hp0 (by assumption) (by assumption)), rfl⟩⟩

set_option maxRecDepth 20000 in
theorem rTPrint_any (u : Thr) (h : RightT u) (ha : u.amt ≤ 9223372036854775807) (M : Nat → Option (List AV)) : ACall Tryz.prog 40 [encT u] M (fun r M' => r = .str (printT u) ∧ M = M') := by
  obtain ⟨hs0, hs2, hpa, hgr⟩ := h
  have hp0 : 0 ≤ u.pct ∧ u.pct ≤ 100 ∧ 0 ≤ u.amt ∧ 0 ≤ u.gr ∧ u.gr ≤ 1000 := by omega
  have hq1 := sigw_len u.sig.toNat
  have hq2 := itoa_len u.pct (by omega) (by omega)
  have hq3 := printV_len u.amt.toNat (by omega)
  have hq4 := itoa_len u.gr (by omega) (by omega)
  have hq5 := word_len u.sig
  have hq6 := digs_len20 u.pct.toNat (by omega)
  have hq7 := digs_len20 u.gr.toNat (by omega)
  refine ACall.of Tryz.func40 rfl (n := 31) rfl rfl rfl ?_
  refine zg ?_
  refine AOps.box trivial rfl (by decide) rfl (noL rfl) rfl (v := encT u) (.inl ⟨rfl, rfl⟩) rfl rfl (all_flat rfl) ?_
  refine zM (.str []) ?_
  refine zN ?_
  refine zg ?_
  refine zr (zfL Tryz.underlying40 sizeOf_3) ?_
  refine zr (zlL (zI u.sig) Tryz.underlying3 sizeOf_3) ?_
  refine zc [zI u.sig] Tryz.call47 (rWord_any u.sig M) ?_
  rintro _ _ ⟨rfl, rfl⟩
  refine zr (Reader.cat rfl rfl rfl (by first | omega | (simp only [List.length_append, List.length_cons, List.length_nil]; omega) | (simp; omega)) (c := (wordOf u.sig) ++ [60]) rfl) ?_
  refine zM (.str ((wordOf u.sig) ++ [60])) ?_
  refine zN ?_
  refine AWp.seq ?_
  refine zg ?_
  refine zr (zfL Tryz.underlying40 sizeOf_3) ?_
  refine zr (zlL (zI u.pct) Tryz.underlying3 sizeOf_3) ?_
  refine zr (zi (decide (u.pct > 0))) ?_
  refine zN ?_
  refine zC (b := decide (u.pct > 0)) rfl (fun h1 => ?_) (fun h1 => ?_)
  · skip
    have h1' : u.pct > 0 := (by have hh := of_decide_eq_true h1; omega)
    clear h1
    refine AWp.region ?_
    refine zM (.str ((wordOf u.sig) ++ [60])) ?_
    refine zr (zfL Tryz.underlying40 sizeOf_3) ?_
    refine zr (zlL (zI u.pct) Tryz.underlying3 sizeOf_3) ?_
    refine zc [zI u.pct] Tryz.call60 (Digits_int u.pct (by omega) (by omega) M) ?_
    rintro _ _ ⟨rfl, rfl⟩
    refine zr (Reader.cat rfl rfl rfl (by first | omega | (simp only [List.length_append, List.length_cons, List.length_nil]; omega) | (simp; omega)) (c := ((wordOf u.sig) ++ [60]) ++ (digs u.pct.toNat)) rfl) ?_
    refine zr (Reader.cat rfl rfl rfl (by first | omega | (simp only [List.length_append, List.length_cons, List.length_nil]; omega) | (simp; omega)) (c := (((wordOf u.sig) ++ [60]) ++ (digs u.pct.toNat)) ++ [37]) rfl) ?_
    refine zM (.str ((((wordOf u.sig) ++ [60]) ++ (digs u.pct.toNat)) ++ [37])) ?_
    refine zN ?_
    refine AWp.seq ?_
    refine zg ?_
    refine zr (zfL Tryz.underlying40 sizeOf_4) ?_
    refine zr (zlL (zB u.soft) Tryz.underlying4 sizeOf_4) ?_
    refine zN ?_
    refine zC (b := u.soft) rfl (fun h2 => ?_) (fun h2 => ?_)
    · skip
      refine AWp.region ?_
      refine zM (.str ((((wordOf u.sig) ++ [60]) ++ (digs u.pct.toNat)) ++ [37])) ?_
      refine zr (Reader.cat rfl rfl rfl (by first | omega | (simp only [List.length_append, List.length_cons, List.length_nil]; omega) | (simp; omega)) (c := ((((wordOf u.sig) ++ [60]) ++ (digs u.pct.toNat)) ++ [37]) ++ [58]) rfl) ?_
      refine zr (zfL Tryz.underlying40 sizeOf_3) ?_
      refine zr (zlL (zI u.gr) Tryz.underlying3 sizeOf_3) ?_
      refine zc [zI u.gr] Tryz.call60 (Digits_int u.gr (by omega) (by omega) M) ?_
      rintro _ _ ⟨rfl, rfl⟩
      refine zr (Reader.cat rfl rfl rfl (by first | omega | (simp only [List.length_append, List.length_cons, List.length_nil]; omega) | (simp; omega)) (c := (((((wordOf u.sig) ++ [60]) ++ (digs u.pct.toNat)) ++ [37]) ++ [58]) ++ (digs u.gr.toNat)) rfl) ?_
      refine zM (.str ((((((wordOf u.sig) ++ [60]) ++ (digs u.pct.toNat)) ++ [37]) ++ [58]) ++ (digs u.gr.toNat))) ?_
      refine zN ?_
      refine zg ?_
      refine zM (.str ((((((wordOf u.sig) ++ [60]) ++ (digs u.pct.toNat)) ++ [37]) ++ [58]) ++ (digs u.gr.toNat))) ?_
      refine zM (.str ((((((wordOf u.sig) ++ [60]) ++ (digs u.pct.toNat)) ++ [37]) ++ [58]) ++ (digs u.gr.toNat))) ?_
      refine zN ?_
      refine AWp.ret ?_
      exact ⟨.inl rfl, _, ResOf.one 2 (.str ((((((wordOf u.sig) ++ [60]) ++ (digs u.pct.toNat)) ++ [37]) ++ [58]) ++ (digs u.gr.toNat))) rfl rfl, ⟨congrArg AV.str (rpr_tt hs0 hs2 hp0 (by assumption) (by assumption)), rfl⟩⟩
    · skip
      refine AWp.skip ?_
      refine zg ?_
      refine zM (.str ((((wordOf u.sig) ++ [60]) ++ (digs u.pct.toNat)) ++ [37])) ?_
      refine zM (.str ((((wordOf u.sig) ++ [60]) ++ (digs u.pct.toNat)) ++ [37])) ?_
      refine zN ?_
      refine AWp.ret ?_
      exact ⟨.inl rfl, _, ResOf.one 2 (.str ((((wordOf u.sig) ++ [60]) ++ (digs u.pct.toNat)) ++ [37])) rfl rfl, ⟨congrArg AV.str (rpr_tf hs0 hs2 hp0 (by assumption) (by assumption)), rfl⟩⟩
  · skip
    have h1' : ¬ (u.pct > 0) := (by have hh := of_decide_eq_false h1; omega)
    clear h1
    refine AWp.region ?_
    refine zM (.str ((wordOf u.sig) ++ [60])) ?_
    refine zr (zfL Tryz.underlying40 sizeOf_3) ?_
    refine zr (zlL (zI u.amt) Tryz.underlying3 sizeOf_3) ?_
    refine zc [zI u.amt] Tryz.call39 (rPrint_int u.amt (by omega) (by omega) M) ?_
    rintro _ _ ⟨rfl, rfl⟩
    refine zr (Reader.cat rfl rfl rfl (by first | omega | (simp only [List.length_append, List.length_cons, List.length_nil]; omega) | (simp; omega)) (c := ((wordOf u.sig) ++ [60]) ++ (printV u.amt.toNat)) rfl) ?_
    refine zM (.str (((wordOf u.sig) ++ [60]) ++ (printV u.amt.toNat))) ?_
    refine zN ?_
    refine AWp.seq ?_
    refine zg ?_
    refine zr (zfL Tryz.underlying40 sizeOf_4) ?_
    refine zr (zlL (zB u.soft) Tryz.underlying4 sizeOf_4) ?_
    refine zN ?_
    refine zC (b := u.soft) rfl (fun h3 => ?_) (fun h3 => ?_)
    · skip
      refine AWp.region ?_
      refine zM (.str (((wordOf u.sig) ++ [60]) ++ (printV u.amt.toNat))) ?_
      refine zr (Reader.cat rfl rfl rfl (by first | omega | (simp only [List.length_append, List.length_cons, List.length_nil]; omega) | (simp; omega)) (c := (((wordOf u.sig) ++ [60]) ++ (printV u.amt.toNat)) ++ [58]) rfl) ?_
      refine zr (zfL Tryz.underlying40 sizeOf_3) ?_
      refine zr (zlL (zI u.gr) Tryz.underlying3 sizeOf_3) ?_
      refine zc [zI u.gr] Tryz.call60 (Digits_int u.gr (by omega) (by omega) M) ?_
      rintro _ _ ⟨rfl, rfl⟩
      refine zr (Reader.cat rfl rfl rfl (by first | omega | (simp only [List.length_append, List.length_cons, List.length_nil]; omega) | (simp; omega)) (c := ((((wordOf u.sig) ++ [60]) ++ (printV u.amt.toNat)) ++ [58]) ++ (digs u.gr.toNat)) rfl) ?_
      refine zM (.str (((((wordOf u.sig) ++ [60]) ++ (printV u.amt.toNat)) ++ [58]) ++ (digs u.gr.toNat))) ?_
      refine zN ?_
      refine zg ?_
      refine zM (.str (((((wordOf u.sig) ++ [60]) ++ (printV u.amt.toNat)) ++ [58]) ++ (digs u.gr.toNat))) ?_
      refine zM (.str (((((wordOf u.sig) ++ [60]) ++ (printV u.amt.toNat)) ++ [58]) ++ (digs u.gr.toNat))) ?_
      refine zN ?_
      refine AWp.ret ?_
      exact ⟨.inl rfl, _, ResOf.one 2 (.str (((((wordOf u.sig) ++ [60]) ++ (printV u.amt.toNat)) ++ [58]) ++ (digs u.gr.toNat))) rfl rfl, ⟨congrArg AV.str (rpr_ft hs0 hs2 hp0 (by assumption) (by assumption)), rfl⟩⟩
    · skip
      refine AWp.skip ?_
      refine zg ?_
      refine zM (.str (((wordOf u.sig) ++ [60]) ++ (printV u.amt.toNat))) ?_
      refine zM (.str (((wordOf u.sig) ++ [60]) ++ (printV u.amt.toNat))) ?_
      refine zN ?_
      refine AWp.ret ?_
      exact ⟨.inl rfl, _, ResOf.one 2 (.str (((wordOf u.sig) ++ [60]) ++ (printV u.amt.toNat))) rfl rfl, ⟨congrArg AV.str (rpr_ff hs0 hs2 hp0 (by assumption) (by assumption)), rfl⟩⟩
end
section
open Go.RowKit
theorem noEscape_run : ∀ (v : Value) (w : World), (callFunc 83 #[v]).run Tryz.prog w = .ok (.value v) w := fun _ _ => by kernel_rfl
set_option maxRecDepth 20000 in
theorem copyCheck_nil (M : Nat → Option (List AV)) (id : Nat) (hid : id % 10000 = 88) (c : AV) (hcs : c.scalar = true) (M' : Nat → Option (List AV)) (hM : M id = some [.lit (.pointer none), c]) (hM' : setM M id [.gptr id 0, c] = M')  : ACall Tryz.prog 70 [.gptr id 0] M (fun r M1 => r = .tuple [] ∧ M1 = M') := by
  refine ACall.of Tryz.func70 rfl (n := 20) rfl rfl rfl ?_
  refine zg ?_
  refine zM (.gptr id 0) ?_
  refine zr (znc (.gptr id 0)) ?_
  refine zr (zfG Tryz.underlying88 sizeOf_86) ?_
  refine zr (zlG (.lit (.pointer none)) Tryz.underlying86 sizeOf_86 hM) ?_
  refine zr (Reader.eqPtr (b := true) (xv := .lit (.pointer none)) (yv := .lit (.pointer none)) rfl Tryz.underlying86 sizeOf_88 (by decide) rfl rfl (by simp [ptrEq]) (.inl ⟨rfl, rfl⟩)) ?_
  refine zN ?_
  refine AWp.cond (b := true) rfl (fun hx => ?_) (fun hx => by cases hx)
  refine AWp.region ?_
  refine zM (.gptr id 0) ?_
  refine zM (.gptr id 0) ?_
  refine zr (Reader.toUnsafe rfl Tryz.underlying86 Tryz.underlying112 sizeOf_88 (by decide) rfl hM (Nat.le_of_ble_eq_true rfl)) ?_
  refine zr (Reader.same rfl rfl rfl noEscape_run rfl) ?_
  refine zr (Reader.fromUnsafe rfl Tryz.underlying112 Tryz.underlying86 sizeOf_88 rfl hM (by assumption) (by kernel_rfl)) ?_
  refine zr (znc (.gptr id 0)) ?_
  refine zr (zfG Tryz.underlying88 sizeOf_86) ?_
  refine AOps.storeG trivial rfl rfl rfl hM sizeOf_86 (.inl ⟨rfl, rfl⟩) rfl (v := .gptr id 0) rfl (all_flat rfl) rfl (Nat.le_of_ble_eq_true rfl) rfl ?_
  refine zN ?_
  exact ⟨.inr rfl, _, ResOf.none, ⟨rfl, hM'⟩⟩

set_option maxRecDepth 20000 in
theorem copyCheck_used (M : Nat → Option (List AV)) (id : Nat) (hid : id % 10000 = 88) (c : AV) (hcs : c.scalar = true) (hM : M id = some [.gptr id 0, c])  : ACall Tryz.prog 70 [.gptr id 0] M (fun r M1 => r = .tuple [] ∧ M1 = M) := by
  refine ACall.of Tryz.func70 rfl (n := 20) rfl rfl rfl ?_
  refine zg ?_
  refine zM (.gptr id 0) ?_
  refine zr (znc (.gptr id 0)) ?_
  refine zr (zfG Tryz.underlying88 sizeOf_86) ?_
  refine zr (zlG (.gptr id 0) Tryz.underlying86 sizeOf_86 hM) ?_
  refine zr (Reader.eqPtr (b := false) (xv := .gptr id 0) (yv := .lit (.pointer none)) rfl Tryz.underlying86 sizeOf_88 (by decide) rfl rfl (by simp [ptrEq]) (.inl ⟨rfl, rfl⟩)) ?_
  refine zN ?_
  refine AWp.cond (b := false) rfl (fun hx => by cases hx) (fun hx => ?_)
  refine zg ?_
  refine zM (.gptr id 0) ?_
  refine zr (znc (.gptr id 0)) ?_
  refine zr (zfG Tryz.underlying88 sizeOf_86) ?_
  refine zr (zlG (.gptr id 0) Tryz.underlying86 sizeOf_86 hM) ?_
  refine zM (.gptr id 0) ?_
  refine zr (Reader.eqPtr (b := true) (xv := .gptr id 0) (yv := .gptr id 0) rfl Tryz.underlying86 sizeOf_88 (by decide) rfl rfl (by simp [ptrEq]) (.inr ⟨rfl, rfl⟩)) ?_
  refine zN ?_
  refine AWp.cond (b := false) rfl (fun hx => by cases hx) (fun hx => ?_)
  refine AWp.skip ?_
  exact ⟨.inr rfl, _, ResOf.none, ⟨rfl, rfl⟩⟩

theorem copyCheck_any (id : Nat) (hid : id % 10000 = 88) (p c : AV) (hcs : c.scalar = true) (hp : p = .lit (.pointer none) ∨ p = .gptr id 0) (M M' : Nat → Option (List AV)) (hM : M id = some [p, c]) (hM' : setM M id [.gptr id 0, c] = M') : ACall Tryz.prog 70 [.gptr id 0] M (fun r M1 => r = .tuple [] ∧ M1 = M') := by
  rcases hp with rfl | rfl
  · exact copyCheck_nil M id hid c hcs M' hM hM'
  · rw [setM_same hM] at hM'
    subst hM'
    exact copyCheck_used M id hid c hcs hM

set_option maxRecDepth 20000 in
theorem WriteByte_nil (M : Nat → Option (List AV)) (id : Nat) (hid : id % 10000 = 88) (ch : UInt8) (p : AV) (hp : p = .lit (.pointer none) ∨ p = .gptr id 0) (M' : Nat → Option (List AV)) (hM : M id = some [p, .lit (.slice none 0 0)]) (hM' : setM M id [.gptr id 0, .list true 5 (byteAVs (([] : List UInt8) ++ [ch]))] = M')  : ACall Tryz.prog 55 [.gptr id 0, .lit (.int .u8 (ch.toNat : Int))] M (fun r M1 => r = .lit .nilIface ∧ M1 = M') := by
  have hps : p.scalar = true := by rcases hp with rfl | rfl <;> rfl
  refine ACall.of Tryz.func55 rfl (n := 17) rfl rfl rfl ?_
  refine zg ?_
  refine zM (.lit .nilIface) ?_
  refine zN ?_
  refine zg ?_
  refine zM (.gptr id 0) ?_
  refine zc [.gptr id 0] Tryz.call70 (copyCheck_any id hid p (.lit (.slice none 0 0)) rfl hp M (setM M id [.gptr id 0, .lit (.slice none 0 0)]) hM rfl) ?_
  rintro _ _ ⟨rfl, rfl⟩
  refine zN ?_
  refine zg ?_
  refine zM (.gptr id 0) ?_
  refine zM (.gptr id 0) ?_
  refine zr (znc (.gptr id 0)) ?_
  refine zr (zfG Tryz.underlying88 sizeOf_22) ?_
  refine zr (zlG (.lit (.slice none 0 0)) Tryz.underlying22 sizeOf_22 setM_get) ?_
  refine zM (.lit (.int .u8 (ch.toNat : Int))) ?_
  refine zbS [] (byteAVs [ch]) Tryz.underlying22 Tryz.i5 ?_
  refine AOps.asList (r := 11) 5 rfl ?_
  refine zap (m1 := 0) (m2 := 1) 1 (byteAVs ([] : List UInt8)) (byteAVs [ch]) (byteAVs (([] : List UInt8) ++ [ch])) Tryz.underlying22 Tryz.underlying22 Tryz.i5 rfl rfl (by simp [byteAVs]) ?_
  refine zr (znc (.gptr id 0)) ?_
  refine zr (zfG Tryz.underlying88 sizeOf_22) ?_
  refine AOps.storeOwn trivial rfl rfl rfl setM_get sizeOf_22 rfl (Nat.le_of_ble_eq_true rfl) setM_setM ?_
  refine zN ?_
  refine zg ?_
  refine zM (.lit .nilIface) ?_
  refine zN ?_
  refine AWp.ret ?_
  exact ⟨.inl rfl, _, ResOf.one 4 (.lit .nilIface) rfl rfl, ⟨rfl, hM'⟩⟩

set_option maxRecDepth 20000 in
theorem WriteByte_list (M : Nat → Option (List AV)) (id : Nat) (hid : id % 10000 = 88) (l : List UInt8) (hl : l.length < 140737488355328) (ch : UInt8) (p : AV) (hp : p = .lit (.pointer none) ∨ p = .gptr id 0) (M' : Nat → Option (List AV)) (hM : M id = some [p, .list true 5 (byteAVs l)]) (hM' : setM M id [.gptr id 0, .list true 5 (byteAVs (l ++ [ch]))] = M')  : ACall Tryz.prog 55 [.gptr id 0, .lit (.int .u8 (ch.toNat : Int))] M (fun r M1 => r = .lit .nilIface ∧ M1 = M') := by
  have hps : p.scalar = true := by rcases hp with rfl | rfl <;> rfl
  refine ACall.of Tryz.func55 rfl (n := 17) rfl rfl rfl ?_
  refine zg ?_
  refine zM (.lit .nilIface) ?_
  refine zN ?_
  refine zg ?_
  refine zM (.gptr id 0) ?_
  refine zc [.gptr id 0] Tryz.call70 (copyCheck_any id hid p (.list true 5 (byteAVs l)) rfl hp M (setM M id [.gptr id 0, .list true 5 (byteAVs l)]) hM rfl) ?_
  rintro _ _ ⟨rfl, rfl⟩
  refine zN ?_
  refine zg ?_
  refine zM (.gptr id 0) ?_
  refine zM (.gptr id 0) ?_
  refine zr (znc (.gptr id 0)) ?_
  refine zr (zfG Tryz.underlying88 sizeOf_22) ?_
  refine AOps.grabG trivial rfl (by decide) rfl Tryz.underlying22 rfl setM_get rfl rfl setM_setM ?_
  refine zM (.lit (.int .u8 (ch.toNat : Int))) ?_
  refine zbS [] (byteAVs [ch]) Tryz.underlying22 Tryz.i5 ?_
  refine zap (m1 := l.length) (m2 := 1) 1 (byteAVs l) (byteAVs [ch]) (byteAVs (l ++ [ch])) Tryz.underlying22 Tryz.underlying22 Tryz.i5 (byteAVs_len _) rfl (by simp [byteAVs]) ?_
  refine zr (znc (.gptr id 0)) ?_
  refine zr (zfG Tryz.underlying88 sizeOf_22) ?_
  refine AOps.storeOwn trivial rfl rfl rfl setM_get sizeOf_22 rfl (Nat.le_of_ble_eq_true rfl) setM_setM ?_
  refine zN ?_
  refine zg ?_
  refine zM (.lit .nilIface) ?_
  refine zN ?_
  refine AWp.ret ?_
  exact ⟨.inl rfl, _, ResOf.one 4 (.lit .nilIface) rfl rfl, ⟨rfl, hM'⟩⟩

set_option maxRecDepth 20000 in
theorem WriteString_nil (M : Nat → Option (List AV)) (id : Nat) (hid : id % 10000 = 88) (t : List UInt8) (hl : t.length ≤ 140737488355328) (p : AV) (hp : p = .lit (.pointer none) ∨ p = .gptr id 0) (M' : Nat → Option (List AV)) (hM : M id = some [p, .lit (.slice none 0 0)]) (hM' : setM M id [.gptr id 0, .list true 5 (byteAVs (([] : List UInt8) ++ t))] = M')  : ACall Tryz.prog 56 [.gptr id 0, .str t] M (fun r M1 => r = .tuple [zI t.length, .lit .nilIface] ∧ M1 = M') := by
  have hps : p.scalar = true := by rcases hp with rfl | rfl <;> rfl
  refine ACall.of Tryz.func56 rfl (n := 19) rfl rfl rfl ?_
  refine zg ?_
  refine zM (zI 0) ?_
  refine zM (.lit .nilIface) ?_
  refine zN ?_
  refine zg ?_
  refine zM (.gptr id 0) ?_
  refine zc [.gptr id 0] Tryz.call70 (copyCheck_any id hid p (.lit (.slice none 0 0)) rfl hp M (setM M id [.gptr id 0, .lit (.slice none 0 0)]) hM rfl) ?_
  rintro _ _ ⟨rfl, rfl⟩
  refine zN ?_
  refine zg ?_
  refine zM (.gptr id 0) ?_
  refine zM (.gptr id 0) ?_
  refine zr (znc (.gptr id 0)) ?_
  refine zr (zfG Tryz.underlying88 sizeOf_22) ?_
  refine zr (zlG (.lit (.slice none 0 0)) Tryz.underlying22 sizeOf_22 setM_get) ?_
  refine zM (.str t) ?_
  refine AOps.asList (r := 12) 5 rfl ?_
  refine AOps.appS (bytes := 1) trivial rfl (by decide) (by decide) rfl rfl rfl rfl Tryz.underlying22 Tryz.underlying9 Tryz.i5 rfl rfl rfl rfl (xs := (byteAVs ([] : List UInt8))) (l := t) (zs := (byteAVs (([] : List UInt8) ++ t))) rfl rfl (m1 := 0) (m2 := t.length) rfl rfl (by first | omega | (unfold maxLen; omega)) (by omega) (by simp [byteAVs]) ?_
  refine zr (znc (.gptr id 0)) ?_
  refine zr (zfG Tryz.underlying88 sizeOf_22) ?_
  refine AOps.storeOwn trivial rfl rfl rfl setM_get sizeOf_22 rfl (Nat.le_of_ble_eq_true rfl) setM_setM ?_
  refine zN ?_
  refine zg ?_
  refine zM (.str t) ?_
  refine zr (zS t t.length Tryz.underlying9) ?_
  refine zM (zI (t.length : Int)) ?_
  refine zM (.lit .nilIface) ?_
  refine zN ?_
  refine AWp.ret ?_
  exact ⟨.inl rfl, _, ResOf.two 4 5 (zI (t.length : Int)) (.lit .nilIface) rfl rfl (.inl rfl) (.inl rfl) (by decide), ⟨rfl, hM'⟩⟩

set_option maxRecDepth 20000 in
theorem WriteString_list (M : Nat → Option (List AV)) (id : Nat) (hid : id % 10000 = 88) (l t : List UInt8) (hl : l.length + t.length ≤ 140737488355328) (p : AV) (hp : p = .lit (.pointer none) ∨ p = .gptr id 0) (M' : Nat → Option (List AV)) (hM : M id = some [p, .list true 5 (byteAVs l)]) (hM' : setM M id [.gptr id 0, .list true 5 (byteAVs (l ++ t))] = M')  : ACall Tryz.prog 56 [.gptr id 0, .str t] M (fun r M1 => r = .tuple [zI t.length, .lit .nilIface] ∧ M1 = M') := by
  have hps : p.scalar = true := by rcases hp with rfl | rfl <;> rfl
  refine ACall.of Tryz.func56 rfl (n := 19) rfl rfl rfl ?_
  refine zg ?_
  refine zM (zI 0) ?_
  refine zM (.lit .nilIface) ?_
  refine zN ?_
  refine zg ?_
  refine zM (.gptr id 0) ?_
  refine zc [.gptr id 0] Tryz.call70 (copyCheck_any id hid p (.list true 5 (byteAVs l)) rfl hp M (setM M id [.gptr id 0, .list true 5 (byteAVs l)]) hM rfl) ?_
  rintro _ _ ⟨rfl, rfl⟩
  refine zN ?_
  refine zg ?_
  refine zM (.gptr id 0) ?_
  refine zM (.gptr id 0) ?_
  refine zr (znc (.gptr id 0)) ?_
  refine zr (zfG Tryz.underlying88 sizeOf_22) ?_
  refine AOps.grabG trivial rfl (by decide) rfl Tryz.underlying22 rfl setM_get rfl rfl setM_setM ?_
  refine zM (.str t) ?_
  refine AOps.appS (bytes := 1) trivial rfl (by decide) (by decide) rfl rfl rfl rfl Tryz.underlying22 Tryz.underlying9 Tryz.i5 rfl rfl rfl rfl (xs := (byteAVs l)) (l := t) (zs := (byteAVs (l ++ t))) rfl rfl (m1 := l.length) (m2 := t.length) (byteAVs_len _) rfl (by first | omega | (unfold maxLen; omega)) (by omega) (by simp [byteAVs]) ?_
  refine zr (znc (.gptr id 0)) ?_
  refine zr (zfG Tryz.underlying88 sizeOf_22) ?_
  refine AOps.storeOwn trivial rfl rfl rfl setM_get sizeOf_22 rfl (Nat.le_of_ble_eq_true rfl) setM_setM ?_
  refine zN ?_
  refine zg ?_
  refine zM (.str t) ?_
  refine zr (zS t t.length Tryz.underlying9) ?_
  refine zM (zI (t.length : Int)) ?_
  refine zM (.lit .nilIface) ?_
  refine zN ?_
  refine AWp.ret ?_
  exact ⟨.inl rfl, _, ResOf.two 4 5 (zI (t.length : Int)) (.lit .nilIface) rfl rfl (.inl rfl) (.inl rfl) (by decide), ⟨rfl, hM'⟩⟩

/-- What a builder's buffer reads as. -/
def bufAV (l : List UInt8) : AV := if l = [] then .lit (.slice none 0 0) else .list true 5 (byteAVs l)
theorem bufAV_ne {l : List UInt8} (h : l ≠ []) : bufAV l = .list true 5 (byteAVs l) := if_neg h
theorem WriteByte_any (id : Nat) (hid : id % 10000 = 88) (l : List UInt8) (hl : l.length < 140737488355328) (ch : UInt8) (p : AV) (hp : p = .lit (.pointer none) ∨ p = .gptr id 0) (M M' : Nat → Option (List AV)) (hM : M id = some [p, bufAV l]) (hM' : setM M id [.gptr id 0, bufAV (l ++ [ch])] = M') :
    ACall Tryz.prog 55 [.gptr id 0, .lit (.int .u8 (ch.toNat : Int))] M (fun r M1 => r = .lit .nilIface ∧ M1 = M') := by
  rw [bufAV_ne (by simp)] at hM'
  by_cases h : l = []
  · subst h
    exact WriteByte_nil M id hid ch p hp M' hM hM'
  · rw [bufAV_ne h] at hM
    exact WriteByte_list M id hid l hl ch p hp M' hM hM'
theorem WriteString_any (id : Nat) (hid : id % 10000 = 88) (l t : List UInt8) (hl : l.length + t.length ≤ 140737488355328) (hne : l ++ t ≠ []) (p : AV) (hp : p = .lit (.pointer none) ∨ p = .gptr id 0) (M M' : Nat → Option (List AV)) (hM : M id = some [p, bufAV l]) (hM' : setM M id [.gptr id 0, bufAV (l ++ t)] = M') :
    ACall Tryz.prog 56 [.gptr id 0, .str t] M (fun r M1 => r = .tuple [zI t.length, .lit .nilIface] ∧ M1 = M') := by
  rw [bufAV_ne hne] at hM'
  by_cases h : l = []
  · subst h
    exact WriteString_nil M id hid t (by simpa using hl) p hp M' hM hM'
  · rw [bufAV_ne h] at hM
    exact WriteString_list M id hid l t hl p hp M' hM hM'

theorem WriteByte_to (id : Nat) (hid : id % 10000 = 88) (l l2 : List UInt8) (ch : UInt8) (h2 : l ++ [ch] = l2) (hl : l.length < 140737488355328) (p : AV) (hp : p = .lit (.pointer none) ∨ p = .gptr id 0) (M M' : Nat → Option (List AV)) (hM : M id = some [p, bufAV l]) (hM' : setM M id [.gptr id 0, bufAV l2] = M') :
    ACall Tryz.prog 55 [.gptr id 0, .lit (.int .u8 (ch.toNat : Int))] M (fun r M1 => r = .lit .nilIface ∧ M1 = M') := by
  subst h2
  exact WriteByte_any id hid l hl ch p hp M M' hM hM'
theorem WriteString_to (id : Nat) (hid : id % 10000 = 88) (l t l2 : List UInt8) (h2 : l ++ t = l2) (hne : l ++ t ≠ []) (hl : l.length + t.length ≤ 140737488355328) (p : AV) (hp : p = .lit (.pointer none) ∨ p = .gptr id 0) (M M' : Nat → Option (List AV)) (hM : M id = some [p, bufAV l]) (hM' : setM M id [.gptr id 0, bufAV l2] = M') :
    ACall Tryz.prog 56 [.gptr id 0, .str t] M (fun r M1 => r = .tuple [zI t.length, .lit .nilIface] ∧ M1 = M') := by
  subst h2
  exact WriteString_any id hid l t hl hne p hp M M' hM hM'
end
section
open Go.RowKit

set_option maxHeartbeats 2000000 in
set_option maxRecDepth 100000 in
theorem String_row (b g cap : Nat) (pv : Value) (cur : Array Value) (l : List UInt8) (w : World) (hbk : w.heap[b]? = some (.cells #[pv, .slice (some ⟨g, 0, none⟩) l.length cap] 88 (0, 0)))
    (hg : w.heap[g]? = some (.cells cur 5 (0, 0))) (h0 : l ≠ []) (hn : l.length ≤ cur.size) (hcap : cap ≠ 0) (h63 : l.length ≤ 9223372036854775807) (hc : ∀ j x, l[j]? = some x → w.cell? ⟨g, j, none⟩ = some (.int .u8 x.toNat)) :
    Calls Tryz.prog 57 #[.pointer (some ⟨b, 0, none⟩)] w fun e w' => e = .returned (.string ⟨l.toArray⟩) ∧ w' = w.drew.freeze ⟨g, 0, none⟩ l.length := by
  have c1 : w.drew.cell? ⟨b, 1, none⟩ = some (.slice (some ⟨g, 0, none⟩) l.length cap) := by
    have : w.drew.heap[b]? = some (.cells #[pv, .slice (some ⟨g, 0, none⟩) l.length cap] 88 (0, 0)) := hbk
    rw [Lib.cell_of_heap this]; rfl
  have hSD : (Builtin.unsafeSliceData_ #[22] 106 #[.slice (some ⟨g, 0, none⟩) l.length cap]).run Tryz.prog w.drew = .ok (.pointer (some ⟨g, 0, none⟩)) w.drew :=
    Lib.run_unsafeSliceData_row _ _ _ _ _ _ hcap
  have hUS : (Builtin.unsafeString_ #[106, 3] 9 #[.pointer (some ⟨g, 0, none⟩), .int .i64 l.length]).run Tryz.prog w.drew = .ok (.string ⟨l.toArray⟩) (w.drew.freeze ⟨g, 0, none⟩ l.length) := by
    refine Lib.run_unsafeString_row w.drew _ _ _ 5 Tryz.underlying106 (by kernel_rfl) g cur.size (by have hg' : w.drew.heap[g]? = some (.cells cur 5 (0, 0)) := hg; simp [World.shape?, hg']) l h0 hn h63 ?_
    intro j x hx
    rw [Addr.add_mid, Nat.zero_add]
    exact hc j x hx
  have mixed : Tryz.prog.follows .mixedOrders = true := by kernel_rfl
  go_enter Tryz.func57, Tryz.ntmps57
  go_wp2
  go_region_o
  all_goals (go_wp2; go_ret; exact ⟨rfl, rfl⟩)

set_option maxHeartbeats 2000000 in
set_option maxRecDepth 100000 in
theorem String_nil (b : Nat) (pv : Value) (w : World) (hbk : w.heap[b]? = some (.cells #[pv, .slice none 0 0] 88 (0, 0))) :
    Calls Tryz.prog 57 #[.pointer (some ⟨b, 0, none⟩)] w fun e w' => e = .returned (.string ⟨#[]⟩) ∧ w' = w.drew := by
  have c1 : w.drew.cell? ⟨b, 1, none⟩ = some (.slice none 0 0) := by
    have : w.drew.heap[b]? = some (.cells #[pv, .slice none 0 0] 88 (0, 0)) := hbk
    rw [Lib.cell_of_heap this]; rfl
  have hSD : (Builtin.unsafeSliceData_ #[22] 106 #[.slice none 0 0]).run Tryz.prog w.drew = .ok (.pointer none) w.drew := rfl
  have hUS : ∀ W : World, (Builtin.unsafeString_ #[106, 3] 9 #[.pointer none, .int .i64 0]).run Tryz.prog W = .ok (.string .empty) W := fun W => Lib.run_unsafeString_none W _ _ _ none
  have mixed : Tryz.prog.follows .mixedOrders = true := by kernel_rfl
  go_enter Tryz.func57, Tryz.ntmps57
  go_wp2
  go_region_o
  all_goals (go_wp2; go_ret; exact ⟨rfl, rfl⟩)
end
section
open Go.RowKit

/-- An object less. -/
def delM (M : Nat → Option (List AV)) (id : Nat) : Nat → Option (List AV) := fun i => if i = id then none else M i
theorem delM_ne {M : Nat → Option (List AV)} {id i : Nat} (h : i ≠ id) : delM M id i = M i := by simp [delM, h]
theorem delM_set {M : Nat → Option (List AV)} {id : Nat} {cs : List AV} (h : M id = none) : delM (setM M id cs) id = M := by
  funext i; simp only [delM, setM]
  by_cases e : i = id
  · subst e; simp [h]
  · simp [e]
/-- Nobody owns what the object owned. -/
def Gh.forget (G : Gh) (id : Nat) : Gh := { G with owner := fun b => match G.owner b with | some (.mb i) => if i = id then none else some (.mb i) | some (.mc i j) => if i = id then none else some (.mc i j) | q => q }
theorem forget_own {G : Gh} {id b : Nat} {q : Pos} (h : G.owner b = some q) (h1 : q ≠ .mb id) (h2 : ∀ j, q ≠ .mc id j) : (G.forget id).owner b = some q := by
  show (match G.owner b with | some (.mb i) => if i = id then none else some (Pos.mb i) | some (.mc i j) => if i = id then none else some (.mc i j) | q => q) = some q
  rw [h]
  cases q with
  | mb i => simp only; rw [if_neg (fun e => h1 (by rw [e]))]
  | mc i j => simp only; rw [if_neg (fun e => h2 j (by rw [e]))]
  | _ => rfl
theorem forget_none {G : Gh} {id b : Nat} (h : G.owner b = none) : (G.forget id).owner b = none := by
  show (match G.owner b with | some (.mb i) => if i = id then none else some (Pos.mb i) | some (.mc i j) => if i = id then none else some (.mc i j) | q => q) = none
  rw [h]

theorem String_any (id : Nat) (hid : id % 10000 = 88) (l : List UInt8) (hl : l.length ≤ 140737488355328) (p : AV) (M M' : Nat → Option (List AV)) (hM : M id = some [p, bufAV l]) (hM' : delM M id = M') :
    ACall Tryz.prog 57 [.gptr id 0] M (fun r M1 => r = .str l ∧ M1 = M') := by
  subst hM'
  intro G w vs hm hfx hlen hrel
  obtain ⟨v, rfl, hv⟩ := arg1 hlen hrel
  cases hv with
  | gptr _ _ b hb =>
  obtain ⟨b', hb', hX⟩ := hm.obj id _ hM
  rcases hX with ⟨hH, arr0, hty⟩ | ⟨S, e, _⟩
  rotate_left
  · simp [mapA] at e
  rw [hb] at hb'
  cases hb'
  obtain ⟨arr, T, hh, hsz, ho1, ht1, hsc, hrr⟩ := hH
  rw [hh] at hty
  injection hty with hty
  injection hty with _ hT _
  rw [hid] at hT
  subst hT
  obtain ⟨pv, sv, rfl⟩ : ∃ pv sv, arr = #[pv, sv] := by
    obtain ⟨la⟩ := arr
    match la, hsz with
    | [x, y], _ => exact ⟨x, y, rfl⟩
  have hs1 := hrr 1 (bufAV l) sv rfl rfl
  -- what is to be shown of whatever world behind that keeps all but the row
  have key : ∀ (w' : World) (g : Nat), (∀ a, w'.cell? a = w.cell? a) → w'.heap.size = w.heap.size → w'.os = w.os → w'.tape = w.tape → w'.output = w.output → (∀ b, (G.owner b = none ∨ ∃ q, G.owner b = some q ∧ q ≠ .mb id ∧ ∀ j, q ≠ .mc id j) → w'.heap[b]? = w.heap[b]?) →
      ∃ r M1 G' u, Ending.returned (.string ⟨l.toArray⟩) = .returned u ∧ (r = .str l ∧ M1 = delM M id) ∧ r.isL = false ∧ RelS Tryz.prog G' w' .res r u ∧ RelM Tryz.prog G' w' M1 ∧ Keep G w G' w' := by
    intro w' g hcell hz hos htp hout hoth
    have st : Stab G w (G.forget id) w' := ⟨fun _ => Nat.le_refl _, fun b o _ => hcell _, fun _ _ h => h⟩
    refine ⟨_, _, G.forget id, _, rfl, ⟨rfl, rfl⟩, rfl, RelV.str _, ⟨fun i cs hi => ?_, fun b hb => ?_, hm.fin⟩, ⟨hos, htp, hout, by omega, fun b hb hn => ⟨forget_none hn, hoth b (.inl hn), rfl⟩, st⟩⟩
    · by_cases e : i = id
      · subst e; simp [delM] at hi
      · rw [delM_ne e] at hi
        obtain ⟨b2, hb2, hh2⟩ := hm.obj i cs hi
        have n1 : (Pos.mb i) ≠ .mb id := fun h => e (by injection h)
        have hk := hoth b2 (.inr ⟨_, hh2.own, n1, fun j h => by cases h⟩)
        refine ⟨b2, hb2, hh2.move st (by omega) hk ((forget_own hh2.own n1 (fun j h => by cases h)).trans hh2.own.symm) rfl (fun c b h1 h2 => ?_)⟩
        have n2 : ∀ j, (Pos.mc i c) ≠ .mc id j := fun j h => e (by injection h)
        exact ⟨forget_own h2 (fun h => by cases h) n2, hoth b (.inr ⟨_, h2, (fun h => by cases h), n2⟩), rfl⟩
    · exact ⟨(hm.far b (by omega)).1, forget_none (hm.far b (by omega)).2⟩
  have hd : ∀ B : Nat, Below B w w.drew := fun B => Below.drew (Below.refl B w)
  by_cases h0 : l = []
  · subst h0
    have hs : sv = .slice none 0 0 := relO_lit hs1
    subst hs
    refine (String_nil b pv w hh).mono ?_
    rintro e w' ⟨rfl, rfl⟩
    exact key w.drew 0 (fun _ => rfl) rfl rfl (hd 0).tape rfl (fun _ _ => rfl)
  · rw [bufAV_ne h0] at hs1
    rcases hs1 with ⟨size, us, hsE, hle, hsc2, hown, hr, hbk⟩ | ⟨he, _⟩
    · obtain ⟨hul, hown2⟩ := hown
      have hsize : size = 1 := by
        have := (sizeOf_5 : SizeOf _ _ _)
        unfold SizeOf at hsE this
        rw [hsE] at this
        simpa using this
      subst hsize
      rw [byteAVs_len] at hul hown2
      have hl0 : l.length ≠ 0 := by simpa using h0
      rcases hown2 with ⟨_, hz⟩ | ⟨g, cap, cur, rfl, _, hg, hcap, hcm, hcs, htk⟩
      · exact absurd hz hl0
      · obtain ⟨hb1, hb2, hb3⟩ := hbk g rfl
        have hcell : ∀ j x, l[j]? = some x → w.cell? ⟨g, j, none⟩ = some (.int .u8 x.toNat) := by
          intro j x hx
          have hjl := (List.getElem?_eq_some_iff.1 hx).1
          have hav : ((byteAVs l).flatMap AV.cells)[j]? = some (.lit (.int .u8 x.toNat)) := by rw [byteAVs_flat, byteAVs_get, hx]; rfl
          have hju : j < us.length := by omega
          have e1 := relV_lit (hr j _ us[j] hav (List.getElem?_eq_getElem hju))
          have e2 : cur.toList[j]? = some us[j] := by
            have : (cur.toList.take (l.length * 1))[j]? = some us[j] := by rw [htk]; exact List.getElem?_eq_getElem hju
            rwa [List.getElem?_take_of_lt (by omega)] at this
          rw [Lib.cell_of_heap hg, ← e1]
          simpa using e2
        refine (String_row b g cap pv cur l w hh hg h0 (by omega) (by omega) (by omega) hcell).mono ?_
        rintro e w' ⟨rfl, rfl⟩
        refine key _ g (fun a => by rw [cell_freeze]; rfl) (by rw [size_freeze]; rfl) ?_ ?_ ?_ (fun b hb => ?_)
        · unfold World.freeze; split <;> rfl
        · unfold World.freeze; split <;> exact (hd 0).tape
        · unfold World.freeze; split <;> rfl
        · rw [heap_freeze (fun e => ?_)]
          · rfl
          · subst e
            rcases hb with hb | ⟨q, hq, _, h2⟩
            · rw [hb2] at hb; cases hb
            · rw [hb2] at hq; cases hq; exact h2 1 rfl
    · exact absurd (by simpa [byteAVs] using he) h0
end
end Go.Proofs.YtmmfkpbkacfegaaGreatDoor
