/- T1b. -/
import Derived.Test.YtgphopeclplahaaGreatDoorPT1
set_option maxHeartbeats 8000000
namespace Go.Proofs.YtgphopeclplahaaGreatDoor
open Go.RowKit
def g_ref03_Read_k2 (x5 : Int) : Option (Int × Bool) :=
  some (w64 x5, true)
def g_ref03_Read_l3 (k390 : Int → Option (Int × Bool)) : Nat → Int → Int → Option (Int × Bool)
  | 0, _, _ => none
  | m3 + 1, x6, x7 =>
    bif decide (x6 > 1075) then
      (g_ref03_Read_l3 k390 m3) (w64 (x6 - 1)) (IntKind.u64.wrap (x7 * 2))
    else
      k390 x7
def g_ref03_Read_k1 (x3 : Int) (x4 : Int) : Option (Int × Bool) :=
  g_ref03_Read_l3 g_ref03_Read_k2 FUEL x3 x4
def g_ref03_Read_l4 (k490 : Int → Int → Option (Int × Bool)) : Nat → Int → Int → Option (Int × Bool)
  | 0, _, _ => none
  | m4 + 1, x8, x9 =>
    bif decide (x8 < 1075) then
      (g_ref03_Read_l4 k490 m4) (w64 (x8 + 1)) (IntKind.u64.wrap (x9.tdiv 2))
    else
      k490 x8 x9
def g_ref03_Read (a0 : Nat) : Option (Int × Bool) :=
  bO (g_ref03_Kind a0) fun v1 =>
  bif v1 == 1 then
    some (0, false)
  else
    bif decide (v1 ≤ 5) then
      some (0, true)
    else
      bO (g_ref03_parts a0) fun v2 =>
      bif decide (v2.2.1 ≥ 1086) then
        some (9223372036854775807, true)
      else
        bif decide (v2.2.1 < 1023) then
          some (0, true)
        else
          g_ref03_Read_l4 g_ref03_Read_k1 FUEL v2.2.1 (IntKind.u64.wrap (v2.2.2 + 4503599627370496))
theorem g_ref03_Read_w {a0 : Nat} {r : Int × Bool} (h : g_ref03_Read a0 = some r) : PCall Tryz.prog 40 [zF a0] (.tuple [zI r.1, zB r.2]) := by
  refine PCall.body Tryz.func40 rfl rfl rfl rfl fun base => ?_
  unfold g_ref03_Read at h
  refine CWp.seq ?_
  refine CWp.region ?_
  refine rn 2 rfl ?_
  refine COps.done [0] [] rfl ?_
  refine CWp.seq ?_
  refine CWp.region ?_
  refine rn 1 rfl ?_
  obtain ⟨v1, hv1, h⟩ := bI h
  refine pCall Tryz.call31 (g_ref03_Kind_w hv1) rfl ?_
  refine rn 1 rfl ?_
  refine COps.done [0, 4] [] rfl ?_
  refine CWp.seq ?_
  refine CWp.seq ?_
  refine CWp.region ?_
  refine rn 2 rfl ?_
  refine COps.done [0, 4, 12] [] rfl ?_
  refine CWp.cond h rfl (fun h => ?_) (fun h => ?_)
  · refine CWp.seq ?_
    refine CWp.region ?_
    refine rn 2 rfl ?_
    refine COps.done [2, 3] [] rfl ?_
    refine CWp.ret ?_
    cases h
    exact ⟨.inl rfl, rfl, rfl⟩
  · refine CWp.skip ?_
    refine CWp.seq ?_
    refine CWp.seq ?_
    refine CWp.region ?_
    refine rn 2 rfl ?_
    refine COps.done [0, 14] [] rfl ?_
    refine CWp.cond h rfl (fun h => ?_) (fun h => ?_)
    · refine CWp.seq ?_
      refine CWp.region ?_
      refine rn 2 rfl ?_
      refine COps.done [2, 3] [] rfl ?_
      refine CWp.ret ?_
      cases h
      exact ⟨.inl rfl, rfl, rfl⟩
    · refine CWp.skip ?_
      refine CWp.seq ?_
      refine CWp.region ?_
      refine rn 1 rfl ?_
      obtain ⟨v2, hv2, h⟩ := bI h
      refine pCall Tryz.call56 (g_ref03_parts_w hv2) rfl ?_
      refine rn 7 rfl ?_
      refine COps.done [6, 7] [] rfl ?_
      refine CWp.seq ?_
      refine CWp.seq ?_
      refine CWp.region ?_
      refine rn 2 rfl ?_
      refine COps.done [6, 7, 22] [] rfl ?_
      refine CWp.cond h rfl (fun h => ?_) (fun h => ?_)
      · refine CWp.seq ?_
        refine CWp.region ?_
        refine rn 2 rfl ?_
        refine COps.done [2, 3] [] rfl ?_
        refine CWp.ret ?_
        cases h
        exact ⟨.inl rfl, rfl, rfl⟩
      · refine CWp.skip ?_
        refine CWp.seq ?_
        refine CWp.seq ?_
        refine CWp.region ?_
        refine rn 2 rfl ?_
        refine COps.done [6, 7, 24] [] rfl ?_
        refine CWp.cond h rfl (fun h => ?_) (fun h => ?_)
        · refine CWp.seq ?_
          refine CWp.region ?_
          refine rn 2 rfl ?_
          refine COps.done [2, 3] [] rfl ?_
          refine CWp.ret ?_
          cases h
          exact ⟨.inl rfl, rfl, rfl⟩
        · refine CWp.skip ?_
          refine CWp.seq ?_
          refine CWp.region ?_
          refine rn 3 rfl ?_
          refine COps.done [6, 8] [] rfl ?_
          refine CWp.mid (fun e => ∃ x3 x4, e = ⟨[(6, [], zI x3), (8, [], .lit (.int .u64 x4))], [], [], [], base⟩ ∧ g_ref03_Read_k1 x3 x4 = some r) ?_ ?_
          · refine CWp.block ?_
            refine CWp.loop (fun m4 e => ∃ x8 x9, e = ⟨[(6, [], zI x8), (8, [], .lit (.int .u64 x9))], [], [], [], base⟩ ∧ g_ref03_Read_l4 (g_ref03_Read_k1) m4 x8 x9 = some r) FUEL ⟨_, _, rfl, h⟩ ?_ ?_
            · rintro m4 _ ⟨x8, x9, rfl, h⟩
              rw [g_ref03_Read_l4] at h
              refine CWp.seq ?_
              refine CWp.seq ?_
              refine CWp.region ?_
              refine rn 2 rfl ?_
              refine COps.done [6, 8, 28] [] rfl ?_
              refine CWp.cond h rfl (fun h => ?_) (fun h => ?_)
              · refine CWp.skip ?_
                refine CWp.block ?_
                refine CWp.seq ?_
                refine CWp.region ?_
                refine rn 3 rfl ?_
                refine COps.done [6, 8] [] rfl ?_
                refine CWp.region ?_
                refine rn 3 rfl ?_
                refine COps.done [6, 8] [] rfl ?_
                exact ⟨_, _, rfl, h⟩
              · refine CWp.keep [6, 8] [] rfl ?_
                refine CWp.exit ?_
                exact ⟨_, _, rfl, h⟩
            · rintro _ ⟨_, _, _, h⟩
              rw [g_ref03_Read_l4] at h; cases h
          · rintro _ ⟨x3, x4, rfl, h⟩
            unfold g_ref03_Read_k1 at h
            refine CWp.mid (fun e => ∃ x5, e = ⟨[(8, [], .lit (.int .u64 x5))], [], [], [], base⟩ ∧ g_ref03_Read_k2 x5 = some r) ?_ ?_
            · refine CWp.block ?_
              refine CWp.loop (fun m3 e => ∃ x6 x7, e = ⟨[(6, [], zI x6), (8, [], .lit (.int .u64 x7))], [], [], [], base⟩ ∧ g_ref03_Read_l3 (g_ref03_Read_k2) m3 x6 x7 = some r) FUEL ⟨_, _, rfl, h⟩ ?_ ?_
              · rintro m3 _ ⟨x6, x7, rfl, h⟩
                rw [g_ref03_Read_l3] at h
                refine CWp.seq ?_
                refine CWp.seq ?_
                refine CWp.region ?_
                refine rn 2 rfl ?_
                refine COps.done [6, 8, 34] [] rfl ?_
                refine CWp.cond h rfl (fun h => ?_) (fun h => ?_)
                · refine CWp.skip ?_
                  refine CWp.block ?_
                  refine CWp.seq ?_
                  refine CWp.region ?_
                  refine rn 3 rfl ?_
                  refine COps.done [6, 8] [] rfl ?_
                  refine CWp.region ?_
                  refine rn 3 rfl ?_
                  refine COps.done [6, 8] [] rfl ?_
                  exact ⟨_, _, rfl, h⟩
                · refine CWp.keep [8] [] rfl ?_
                  refine CWp.exit ?_
                  exact ⟨_, rfl, h⟩
              · rintro _ ⟨_, _, _, h⟩
                rw [g_ref03_Read_l3] at h; cases h
            · rintro _ ⟨x5, rfl, h⟩
              unfold g_ref03_Read_k2 at h
              refine CWp.seq ?_
              refine CWp.region ?_
              refine rn 4 rfl ?_
              refine COps.done [2, 3] [] rfl ?_
              refine CWp.ret ?_
              cases h
              exact ⟨.inl rfl, rfl, rfl⟩
def g_ref05_Digits_r : Nat → Int → Option (List UInt8)
  | 0, _ => none
  | m + 1, a0 =>
    bif decide (a0 < 10) then
      some [u8 (w64 (48 + a0))]
    else
      bO (g_ref05_Digits_r m (w64 (a0.tdiv 10))) fun v1 =>
      bO (g_ref05_Digits_r m (a0.tmod 10)) fun v2 =>
      bO (appO v1 v2) fun v3 =>
      some v3
def g_ref05_Digits (a0 : Int) : Option (List UInt8) := g_ref05_Digits_r FUEL a0
theorem g_ref05_Digits_rw (m : Nat) : ∀ {a0 : Int} {r : List UInt8} (_h : g_ref05_Digits_r m a0 = some r), PCall Tryz.prog 54 [zI a0] (.str r) := by
  induction m with
  | zero => intro a0 r h; rw [g_ref05_Digits_r] at h; cases h
  | succ m ih =>
  intro a0 r h
  refine PCall.body Tryz.func54 rfl rfl rfl rfl fun base => ?_
  rw [g_ref05_Digits_r] at h
  refine CWp.seq ?_
  refine CWp.region ?_
  refine rn 1 rfl ?_
  refine COps.done [0] [] rfl ?_
  refine CWp.seq ?_
  refine CWp.seq ?_
  refine CWp.region ?_
  refine rn 2 rfl ?_
  refine COps.done [0, 4] [] rfl ?_
  refine CWp.cond h rfl (fun h => ?_) (fun h => ?_)
  · refine CWp.seq ?_
    refine CWp.region ?_
    refine rn 3 rfl ?_
    refine cU8 7 ?_
    refine rn 1 rfl ?_
    refine rd (rStr (l := [u8 (w64 (48 + a0))])) ?_
    refine rn 1 rfl ?_
    refine COps.done [2] [] rfl ?_
    refine CWp.ret ?_
    cases h
    exact ⟨.inl rfl, rfl, rfl⟩
  · refine CWp.skip ?_
    refine CWp.seq ?_
    refine CWp.region ?_
    refine rn 2 rfl ?_
    obtain ⟨v1, hv1, h⟩ := bI h
    refine pCall Tryz.call54 (ih hv1) rfl ?_
    refine rn 2 rfl ?_
    obtain ⟨v2, hv2, h⟩ := bI h
    refine pCall Tryz.call54 (ih hv2) rfl ?_
    obtain ⟨v3, hv3, h⟩ := bI h
    refine rd (rCat hv3) ?_
    refine rn 1 rfl ?_
    refine COps.done [2] [] rfl ?_
    refine CWp.ret ?_
    cases h
    exact ⟨.inl rfl, rfl, rfl⟩
theorem g_ref05_Digits_w {a0 : Int} {r : List UInt8} (h : g_ref05_Digits a0 = some r) : PCall Tryz.prog 54 [zI a0] (.str r) := g_ref05_Digits_rw FUEL h
def g_ref05_Print_k1 (a0 : Int) (x2 : List UInt8) : Option (List UInt8) :=
  bO (g_ref05_Unit x2) fun v3 =>
  bO (quoO .i64 a0 v3) fun v4 =>
  bO (g_ref05_Digits v4) fun v5 =>
  bO (appO v5 x2) fun v6 =>
  some v6
def g_ref05_Print_k3 (x8 : Int) (q2 : (List UInt8) → Int → Option (List UInt8)) (x9 : List UInt8) : Option (List UInt8) :=
  q2 x9 (w64 (x8 - 1))
def g_ref05_Print_l2 (a0 : Int) (v1 : List (List UInt8)) (k290 : (List UInt8) → Option (List UInt8)) : Nat → (List UInt8) → Int → Option (List UInt8)
  | 0, _, _ => none
  | m2 + 1, x7, x8 =>
    bif decide (x8 ≥ 0) then
      bO (idx v1 x8) fun v10 =>
      bO (g_ref05_Unit v10) fun v11 =>
      bO (remO a0 v11) fun v12 =>
      bif v12 == 0 then
        bO (idx v1 x8) fun v13 =>
        g_ref05_Print_k3 x8 (g_ref05_Print_l2 a0 v1 k290 m2) v13
      else
        g_ref05_Print_k3 x8 (g_ref05_Print_l2 a0 v1 k290 m2) x7
    else
      k290 x7
def g_ref05_Print (a0 : Int) : Option (List UInt8) :=
  bif decide (a0 ≤ 0) then
    some [48]
  else
    bO (g_ref05_Names) fun v1 =>
    g_ref05_Print_l2 a0 v1 (g_ref05_Print_k1 a0) FUEL ([] : List UInt8) 7
theorem g_ref05_Print_w {a0 : Int} {r : List UInt8} (h : g_ref05_Print a0 = some r) : PCall Tryz.prog 41 [zI a0] (.str r) := by
  refine PCall.body Tryz.func41 rfl rfl rfl rfl fun base => ?_
  unfold g_ref05_Print at h
  refine CWp.seq ?_
  refine CWp.region ?_
  refine rn 1 rfl ?_
  refine COps.done [0] [] rfl ?_
  refine CWp.seq ?_
  refine CWp.seq ?_
  refine CWp.region ?_
  refine rn 2 rfl ?_
  refine COps.done [0, 7] [] rfl ?_
  refine CWp.cond h rfl (fun h => ?_) (fun h => ?_)
  · refine CWp.seq ?_
    refine CWp.region ?_
    refine rn 1 rfl ?_
    refine COps.done [2] [] rfl ?_
    refine CWp.ret ?_
    cases h
    exact ⟨.inl rfl, rfl, rfl⟩
  · refine CWp.skip ?_
    refine CWp.seq ?_
    refine CWp.region ?_
    refine rn 1 rfl ?_
    refine COps.done [0, 3] [] rfl ?_
    refine CWp.seq ?_
    refine CWp.region ?_
    obtain ⟨v1, hv1, h⟩ := bI h
    refine pCall Tryz.call71 (g_ref05_Names_w hv1) rfl ?_
    refine rh 1 [] [4] rfl trivial ?_
    refine COps.done [0, 3, 4] [] rfl ?_
    refine CWp.mid (fun e => ∃ x2, e = ⟨[(0, [], zI a0), (3, [], .str x2)], [], [], [], base⟩ ∧ g_ref05_Print_k1 a0 x2 = some r) ?_ ?_
    · refine CWp.seq ?_
      refine CWp.region ?_
      refine rn 1 rfl ?_
      refine COps.done [0, 3, 4, 5] [] rfl ?_
      refine CWp.block ?_
      refine CWp.loop (fun m2 e => ∃ x7 x8, e = ⟨[(0, [], zI a0), (3, [], .str x7), (4, [], .list true 9 (v1.map AV.str)), (5, [], zI x8)], [], [], [], base⟩ ∧ g_ref05_Print_l2 a0 v1 (g_ref05_Print_k1 a0) m2 x7 x8 = some r) FUEL ⟨_, _, rfl, h⟩ ?_ ?_
      · rintro m2 _ ⟨x7, x8, rfl, h⟩
        rw [g_ref05_Print_l2] at h
        refine CWp.seq ?_
        refine CWp.seq ?_
        refine CWp.region ?_
        refine rn 2 rfl ?_
        refine COps.done [0, 3, 4, 5, 10] [] rfl ?_
        refine CWp.cond h rfl (fun h => ?_) (fun h => ?_)
        · refine CWp.skip ?_
          refine CWp.mid (fun e => ∃ x9, e = ⟨[(0, [], zI a0), (3, [], .str x9), (4, [], .list true 9 (v1.map AV.str)), (5, [], zI x8)], [], [], [], base⟩ ∧ g_ref05_Print_k3 x8 (g_ref05_Print_l2 a0 v1 (g_ref05_Print_k1 a0) m2) x9 = some r) ?_ ?_
          · refine CWp.block ?_
            refine CWp.seq ?_
            refine CWp.region ?_
            obtain ⟨v10, hv10, h⟩ := bI h
            refine rn 3 rfl ?_
            refine rd (rIx hv10) ?_
            refine rn 1 rfl ?_
            obtain ⟨v11, hv11, h⟩ := bI h
            refine pCall Tryz.call63 (g_ref05_Unit_w hv11) rfl ?_
            obtain ⟨v12, hv12, h⟩ := bI h
            refine rd (rRem hv12) ?_
            refine rn 1 rfl ?_
            refine COps.done [0, 3, 4, 5, 20] [] rfl ?_
            refine CWp.cond h rfl (fun h => ?_) (fun h => ?_)
            · refine CWp.region ?_
              obtain ⟨v13, hv13, h⟩ := bI h
              refine rn 2 rfl ?_
              refine rd (rIx hv13) ?_
              refine rn 2 rfl ?_
              refine COps.done [0, 3, 4, 5] [] rfl ?_
              exact ⟨_, rfl, h⟩
            · refine CWp.keep [0, 3, 4, 5] [] rfl ?_
              refine CWp.skip ?_
              exact ⟨_, rfl, h⟩
          · rintro _ ⟨x9, rfl, h⟩
            unfold g_ref05_Print_k3 at h
            refine CWp.region ?_
            refine rn 3 rfl ?_
            refine COps.done [0, 3, 4, 5] [] rfl ?_
            exact ⟨_, _, rfl, h⟩
        · refine CWp.keep [0, 3] [] rfl ?_
          refine CWp.exit ?_
          exact ⟨_, rfl, h⟩
      · rintro _ ⟨_, _, _, h⟩
        rw [g_ref05_Print_l2] at h; cases h
    · rintro _ ⟨x2, rfl, h⟩
      unfold g_ref05_Print_k1 at h
      refine CWp.seq ?_
      refine CWp.region ?_
      refine rn 2 rfl ?_
      obtain ⟨v3, hv3, h⟩ := bI h
      refine pCall Tryz.call63 (g_ref05_Unit_w hv3) rfl ?_
      obtain ⟨v4, hv4, h⟩ := bI h
      refine rd (rQuo hv4) ?_
      obtain ⟨v5, hv5, h⟩ := bI h
      refine pCall Tryz.call54 (g_ref05_Digits_w hv5) rfl ?_
      obtain ⟨v6, hv6, h⟩ := bI h
      refine rn 1 rfl ?_
      refine rd (rCat hv6) ?_
      refine rn 1 rfl ?_
      refine COps.done [2] [] rfl ?_
      refine CWp.ret ?_
      cases h
      exact ⟨.inl rfl, rfl, rfl⟩
def g_ref26_Show (a0 : Nat) : Option ((List UInt8) × Bool) :=
  bO (g_ref03_Kind a0) fun v1 =>
  bif v1 == 1 then
    some ([110, 97, 110], true)
  else
    bif v1 == 2 then
      some ([45, 105, 110, 102], true)
    else
      bif v1 == 7 then
        some ([105, 110, 102], true)
      else
        bif v1 == 4 then
          some ([45, 48], true)
        else
          bO (g_ref03_Read a0) fun v2 =>
          bO (bif ((v1 == 3) || (decide (v2.1 > 9007199254740992))) then some default else (g_ref03_Alike (FloatKind.f64.nearest v2.1) a0)) fun v3 =>
          bif ((v1 == 3) || (decide (v2.1 > 9007199254740992))) || (!v3) then
            some (([] : List UInt8), false)
          else
            bO (g_ref05_Print v2.1) fun v4 =>
            some (v4, true)
theorem g_ref26_Show_w {a0 : Nat} {r : (List UInt8) × Bool} (h : g_ref26_Show a0 = some r) : PCall Tryz.prog 19 [zF a0] (.tuple [.str r.1, zB r.2]) := by
  refine PCall.body Tryz.func19 rfl rfl rfl rfl fun base => ?_
  unfold g_ref26_Show at h
  refine CWp.seq ?_
  refine CWp.region ?_
  refine rn 2 rfl ?_
  refine COps.done [0] [] rfl ?_
  refine CWp.seq ?_
  refine CWp.region ?_
  refine rn 1 rfl ?_
  obtain ⟨v1, hv1, h⟩ := bI h
  refine pCall Tryz.call31 (g_ref03_Kind_w hv1) rfl ?_
  refine rn 1 rfl ?_
  refine COps.done [0, 4] [] rfl ?_
  refine CWp.seq ?_
  refine CWp.seq ?_
  refine CWp.region ?_
  refine rn 2 rfl ?_
  refine COps.done [0, 4, 10] [] rfl ?_
  refine CWp.cond h rfl (fun h => ?_) (fun h => ?_)
  · refine CWp.seq ?_
    refine CWp.region ?_
    refine rn 2 rfl ?_
    refine COps.done [2, 3] [] rfl ?_
    refine CWp.ret ?_
    cases h
    exact ⟨.inl rfl, rfl, rfl⟩
  · refine CWp.skip ?_
    refine CWp.seq ?_
    refine CWp.seq ?_
    refine CWp.region ?_
    refine rn 2 rfl ?_
    refine COps.done [0, 4, 12] [] rfl ?_
    refine CWp.cond h rfl (fun h => ?_) (fun h => ?_)
    · refine CWp.seq ?_
      refine CWp.region ?_
      refine rn 2 rfl ?_
      refine COps.done [2, 3] [] rfl ?_
      refine CWp.ret ?_
      cases h
      exact ⟨.inl rfl, rfl, rfl⟩
    · refine CWp.skip ?_
      refine CWp.seq ?_
      refine CWp.seq ?_
      refine CWp.region ?_
      refine rn 2 rfl ?_
      refine COps.done [0, 4, 14] [] rfl ?_
      refine CWp.cond h rfl (fun h => ?_) (fun h => ?_)
      · refine CWp.seq ?_
        refine CWp.region ?_
        refine rn 2 rfl ?_
        refine COps.done [2, 3] [] rfl ?_
        refine CWp.ret ?_
        cases h
        exact ⟨.inl rfl, rfl, rfl⟩
      · refine CWp.skip ?_
        refine CWp.seq ?_
        refine CWp.seq ?_
        refine CWp.region ?_
        refine rn 2 rfl ?_
        refine COps.done [0, 4, 16] [] rfl ?_
        refine CWp.cond h rfl (fun h => ?_) (fun h => ?_)
        · refine CWp.seq ?_
          refine CWp.region ?_
          refine rn 2 rfl ?_
          refine COps.done [2, 3] [] rfl ?_
          refine CWp.ret ?_
          cases h
          exact ⟨.inl rfl, rfl, rfl⟩
        · refine CWp.skip ?_
          refine CWp.seq ?_
          refine CWp.region ?_
          refine rn 1 rfl ?_
          obtain ⟨v2, hv2, h⟩ := bI h
          refine pCall Tryz.call40 (g_ref03_Read_w hv2) rfl ?_
          refine rn 5 rfl ?_
          refine COps.done [0, 4, 5] [] rfl ?_
          refine CWp.seq ?_
          refine CWp.seq ?_
          refine CWp.region ?_
          refine rn 10 rfl ?_
          refine COps.keepG [5, 28, 30, 31] rfl ?_
          obtain ⟨v3, hv3, h⟩ := bI h
          refine pCallg 28 false [] Tryz.call16 (fun ht => g_ref03_Alike_w (gdf hv3 (ht.1 _ rfl))) rfl ?_
          refine rn 2 rfl ?_
          refine COps.done [5, 34] [] rfl ?_
          refine CWp.cond h rfl (fun h => ?_) (fun h => ?_)
          · refine CWp.seq ?_
            refine CWp.region ?_
            refine rn 2 rfl ?_
            refine COps.done [2, 3] [] rfl ?_
            refine CWp.ret ?_
            cases h
            exact ⟨.inl rfl, rfl, rfl⟩
          · refine CWp.skip ?_
            refine CWp.seq ?_
            refine CWp.region ?_
            refine rn 1 rfl ?_
            obtain ⟨v4, hv4, h⟩ := bI h
            refine pCall Tryz.call41 (g_ref05_Print_w hv4) rfl ?_
            refine rn 2 rfl ?_
            refine COps.done [2, 3] [] rfl ?_
            refine CWp.ret ?_
            cases h
            exact ⟨.inl rfl, rfl, rfl⟩
def g_ref26_sameRaw_k2 : Option Bool :=
  some true
def g_ref26_sameRaw_k4 (x1 : Int) (q3 : Int → Option Bool) : Option Bool :=
  q3 (w64 (x1 + 1))
def g_ref26_sameRaw_l3 (a0 : SRaw) (a1 : SRaw) (k390 : Option Bool) : Nat → Int → Option Bool
  | 0, _ => none
  | m3 + 1, x1 =>
    bif decide (x1 < (a0.use.length : Int)) then
      bO (idx a0.use x1) fun v2 =>
      bO (idx a1.use x1) fun v3 =>
      bif !(v2.id == v3.id) then
        some false
      else
        bO (idx a0.use x1) fun v4 =>
        bO (idx a1.use x1) fun v5 =>
        bO (g_ref03_Alike v4.amount.a v5.amount.a) fun v6 =>
        bif !v6 then
          some false
        else
          bO (idx a0.use x1) fun v7 =>
          bO (idx a1.use x1) fun v8 =>
          bO (g_ref03_Alike v7.amount.b v8.amount.b) fun v9 =>
          bif !v9 then
            some false
          else
            bO (idx a0.use x1) fun v10 =>
            bO (idx a1.use x1) fun v11 =>
            bO (g_ref03_Alike v10.amount.c v11.amount.c) fun v12 =>
            bif !v12 then
              some false
            else
              g_ref26_sameRaw_k4 x1 (g_ref26_sameRaw_l3 a0 a1 k390 m3)
    else
      k390
def g_ref26_sameRaw_k1 (a0 : SRaw) (a1 : SRaw) : Option Bool :=
  g_ref26_sameRaw_l3 a0 a1 g_ref26_sameRaw_k2 FUEL 0
def g_ref26_sameRaw (a0 : SRaw) (a1 : SRaw) : Option Bool :=
  bif (a0.time != a1.time) || ((a0.use.length : Int) != (a1.use.length : Int)) then
    some false
  else
    bO (g_ref03_Alike a0.avail.a a1.avail.a) fun v13 =>
    bif !v13 then
      some false
    else
      bO (g_ref03_Alike a0.avail.b a1.avail.b) fun v14 =>
      bif !v14 then
        some false
      else
        bO (g_ref03_Alike a0.avail.c a1.avail.c) fun v15 =>
        bif !v15 then
          some false
        else
          g_ref26_sameRaw_k1 a0 a1
theorem g_ref26_sameRaw_w {a0 : SRaw} {a1 : SRaw} {r : Bool} (h : g_ref26_sameRaw a0 a1 = some r) : PCall Tryz.prog 46 [eSRaw a0, eSRaw a1] (zB r) := by
  refine PCall.body Tryz.func46 rfl rfl rfl rfl fun base => ?_
  unfold g_ref26_sameRaw at h
  refine CWp.seq ?_
  refine CWp.region ?_
  refine rn 3 rfl ?_
  refine COps.done [2, 3] [2, 3] rfl ?_
  refine CWp.seq ?_
  refine CWp.seq ?_
  refine CWp.region ?_
  refine rh 14 [a0.use.length, a1.use.length] [] rfl ⟨List.length_map .., List.length_map .., trivial⟩ ?_
  refine COps.done [2, 3, 21] [2, 3] rfl ?_
  refine CWp.cond h rfl (fun h => ?_) (fun h => ?_)
  · refine CWp.seq ?_
    refine CWp.region ?_
    refine rn 1 rfl ?_
    refine COps.done [4] [] rfl ?_
    refine CWp.ret ?_
    cases h
    exact ⟨.inl rfl, rfl, rfl⟩
  · refine CWp.skip ?_
    refine CWp.mid (fun e => e = ⟨[(2, [], .lptr 2 0), (3, [], .lptr 3 0)], [], [(2, [zI a0.time, zF a0.avail.a, zF a0.avail.b, zF a0.avail.c, .list false 114 (a0.use.map eSUsage)]), (3, [zI a1.time, zF a1.avail.a, zF a1.avail.b, zF a1.avail.c, .list false 114 (a1.use.map eSUsage)])], [], base⟩ ∧ g_ref26_sameRaw_k1 a0 a1 = some r) ?_ ?_
    · refine CWp.seq ?_
      refine CWp.region ?_
      refine rn 1 rfl ?_
      refine COps.done [2, 3, 5] [2, 3] rfl ?_
      refine CWp.block ?_
      refine CWp.unroll 4 ?_
      refine crd ?_
      refine CWp.seq ?_
      refine CWp.seq ?_
      refine CWp.region ?_
      refine rn 2 rfl ?_
      refine COps.done [2, 3, 5, 23] [2, 3] rfl ?_
      refine CWp.condT rfl (by decide) ?_
      refine CWp.skip ?_
      refine CWp.seq ?_
      refine CWp.block ?_
      refine CWp.seq ?_
      refine CWp.drawn 10 (by kernel_rfl) ?_
      refine pn 8 rfl ?_
      obtain ⟨v13, hv13, h⟩ := bI h
      refine qCall Tryz.call16 (g_ref03_Alike_w hv13) rfl ?_
      refine pn 1 rfl ?_
      refine COpsE.nil ?_
      refine COps.done [2, 3, 5, 35] [2, 3] rfl ?_
      refine CWp.cond h rfl (fun h => ?_) (fun h => ?_)
      · refine CWp.seq ?_
        refine CWp.region ?_
        refine rn 1 rfl ?_
        refine COps.done [4] [] rfl ?_
        refine CWp.ret ?_
        cases h
        exact ⟨.inl rfl, rfl, rfl⟩
      · refine CWp.skip ?_
        refine CWp.region ?_
        refine rn 3 rfl ?_
        refine COps.done [2, 3, 5] [2, 3] rfl ?_
        refine crd ?_
        refine CWp.seq ?_
        refine CWp.seq ?_
        refine CWp.region ?_
        refine rn 2 rfl ?_
        refine COps.done [2, 3, 5, 23] [2, 3] rfl ?_
        refine CWp.condT rfl (by decide) ?_
        refine CWp.skip ?_
        refine CWp.seq ?_
        refine CWp.block ?_
        refine CWp.seq ?_
        refine CWp.drawn 10 (by kernel_rfl) ?_
        refine pn 8 rfl ?_
        obtain ⟨v14, hv14, h⟩ := bI h
        refine qCall Tryz.call16 (g_ref03_Alike_w hv14) rfl ?_
        refine pn 1 rfl ?_
        refine COpsE.nil ?_
        refine COps.done [2, 3, 5, 35] [2, 3] rfl ?_
        refine CWp.cond h rfl (fun h => ?_) (fun h => ?_)
        · refine CWp.seq ?_
          refine CWp.region ?_
          refine rn 1 rfl ?_
          refine COps.done [4] [] rfl ?_
          refine CWp.ret ?_
          cases h
          exact ⟨.inl rfl, rfl, rfl⟩
        · refine CWp.skip ?_
          refine CWp.region ?_
          refine rn 3 rfl ?_
          refine COps.done [2, 3, 5] [2, 3] rfl ?_
          refine crd ?_
          refine CWp.seq ?_
          refine CWp.seq ?_
          refine CWp.region ?_
          refine rn 2 rfl ?_
          refine COps.done [2, 3, 5, 23] [2, 3] rfl ?_
          refine CWp.condT rfl (by decide) ?_
          refine CWp.skip ?_
          refine CWp.seq ?_
          refine CWp.block ?_
          refine CWp.seq ?_
          refine CWp.drawn 10 (by kernel_rfl) ?_
          refine pn 8 rfl ?_
          obtain ⟨v15, hv15, h⟩ := bI h
          refine qCall Tryz.call16 (g_ref03_Alike_w hv15) rfl ?_
          refine pn 1 rfl ?_
          refine COpsE.nil ?_
          refine COps.done [2, 3, 5, 35] [2, 3] rfl ?_
          refine CWp.cond h rfl (fun h => ?_) (fun h => ?_)
          · refine CWp.seq ?_
            refine CWp.region ?_
            refine rn 1 rfl ?_
            refine COps.done [4] [] rfl ?_
            refine CWp.ret ?_
            cases h
            exact ⟨.inl rfl, rfl, rfl⟩
          · refine CWp.skip ?_
            refine CWp.region ?_
            refine rn 3 rfl ?_
            refine COps.done [2, 3, 5] [2, 3] rfl ?_
            refine crd ?_
            refine CWp.seq ?_
            refine CWp.seq ?_
            refine CWp.region ?_
            refine rn 2 rfl ?_
            refine COps.done [2, 3, 5, 23] [2, 3] rfl ?_
            refine CWp.condF rfl (by decide) ?_
            refine CWp.keep [2, 3] [2, 3] rfl ?_
            refine CWp.exit ?_
            exact ⟨rfl, h⟩
    · rintro _ ⟨rfl, h⟩
      unfold g_ref26_sameRaw_k1 at h
      refine CWp.mid (fun e => e = ⟨[], [], [], [], base⟩ ∧ g_ref26_sameRaw_k2 = some r) ?_ ?_
      · refine CWp.seq ?_
        refine CWp.region ?_
        refine rn 1 rfl ?_
        refine COps.done [2, 3, 6] [2, 3] rfl ?_
        refine CWp.block ?_
        refine CWp.loop (fun m3 e => ∃ x1, e = ⟨[(2, [], .lptr 2 0), (3, [], .lptr 3 0), (6, [], zI x1)], [], [(2, [zI a0.time, zF a0.avail.a, zF a0.avail.b, zF a0.avail.c, .list false 114 (a0.use.map eSUsage)]), (3, [zI a1.time, zF a1.avail.a, zF a1.avail.b, zF a1.avail.c, .list false 114 (a1.use.map eSUsage)])], [], base⟩ ∧ g_ref26_sameRaw_l3 a0 a1 (g_ref26_sameRaw_k2) m3 x1 = some r) FUEL ⟨_, rfl, h⟩ ?_ ?_
        · rintro m3 _ ⟨x1, rfl, h⟩
          rw [g_ref26_sameRaw_l3] at h
          refine CWp.seq ?_
          refine CWp.seq ?_
          refine CWp.region ?_
          refine rh 5 [a0.use.length] [] rfl ⟨List.length_map .., trivial⟩ ?_
          refine COps.done [2, 3, 6, 40] [2, 3] rfl ?_
          refine CWp.cond h rfl (fun h => ?_) (fun h => ?_)
          · refine CWp.skip ?_
            refine CWp.mid (fun e => e = ⟨[(2, [], .lptr 2 0), (3, [], .lptr 3 0), (6, [], zI x1)], [], [(2, [zI a0.time, zF a0.avail.a, zF a0.avail.b, zF a0.avail.c, .list false 114 (a0.use.map eSUsage)]), (3, [zI a1.time, zF a1.avail.a, zF a1.avail.b, zF a1.avail.c, .list false 114 (a1.use.map eSUsage)])], [], base⟩ ∧ g_ref26_sameRaw_k4 x1 (g_ref26_sameRaw_l3 a0 a1 (g_ref26_sameRaw_k2) m3) = some r) ?_ ?_
            · refine CWp.block ?_
              refine CWp.seq ?_
              refine CWp.seq ?_
              refine CWp.drawn 13 (by kernel_rfl) ?_
              obtain ⟨v2, hv2, h⟩ := bI h
              refine pn 3 rfl ?_
              refine pd (rIx hv2) ?_
              obtain ⟨v3, hv3, h⟩ := bI h
              refine pn 5 rfl ?_
              refine pd (rIx hv3) ?_
              refine pn 3 rfl ?_
              refine COpsE.nil ?_
              refine COps.done [2, 3, 6, 55] [2, 3] rfl ?_
              refine CWp.cond h rfl (fun h => ?_) (fun h => ?_)
              · refine CWp.seq ?_
                refine CWp.region ?_
                refine rn 1 rfl ?_
                refine COps.done [4] [] rfl ?_
                refine CWp.ret ?_
                cases h
                exact ⟨.inl rfl, rfl, rfl⟩
              · refine CWp.skip ?_
                refine CWp.seq ?_
                refine CWp.region ?_
                refine rn 1 rfl ?_
                refine COps.done [2, 3, 6, 7] [2, 3] rfl ?_
                refine CWp.block ?_
                refine CWp.unroll 4 ?_
                refine crd ?_
                refine CWp.seq ?_
                refine CWp.seq ?_
                refine CWp.region ?_
                refine rn 2 rfl ?_
                refine COps.done [2, 3, 6, 7, 57] [2, 3] rfl ?_
                refine CWp.condT rfl (by decide) ?_
                refine CWp.skip ?_
                refine CWp.seq ?_
                refine CWp.block ?_
                refine CWp.seq ?_
                refine CWp.drawn 18 (by kernel_rfl) ?_
                obtain ⟨v4, hv4, h⟩ := bI h
                refine pn 4 rfl ?_
                refine pd (rIx hv4) ?_
                obtain ⟨v5, hv5, h⟩ := bI h
                refine pn 7 rfl ?_
                refine pd (rIx hv5) ?_
                refine pn 3 rfl ?_
                obtain ⟨v6, hv6, h⟩ := bI h
                refine qCall Tryz.call16 (g_ref03_Alike_w hv6) rfl ?_
                refine pn 1 rfl ?_
                refine COpsE.nil ?_
                refine COps.done [2, 3, 6, 7, 77] [2, 3] rfl ?_
                refine CWp.cond h rfl (fun h => ?_) (fun h => ?_)
                · refine CWp.seq ?_
                  refine CWp.region ?_
                  refine rn 1 rfl ?_
                  refine COps.done [4] [] rfl ?_
                  refine CWp.ret ?_
                  cases h
                  exact ⟨.inl rfl, rfl, rfl⟩
                · refine CWp.skip ?_
                  refine CWp.region ?_
                  refine rn 3 rfl ?_
                  refine COps.done [2, 3, 6, 7] [2, 3] rfl ?_
                  refine crd ?_
                  refine CWp.seq ?_
                  refine CWp.seq ?_
                  refine CWp.region ?_
                  refine rn 2 rfl ?_
                  refine COps.done [2, 3, 6, 7, 57] [2, 3] rfl ?_
                  refine CWp.condT rfl (by decide) ?_
                  refine CWp.skip ?_
                  refine CWp.seq ?_
                  refine CWp.block ?_
                  refine CWp.seq ?_
                  refine CWp.drawn 18 (by kernel_rfl) ?_
                  obtain ⟨v7, hv7, h⟩ := bI h
                  refine pn 4 rfl ?_
                  refine pd (rIx hv7) ?_
                  obtain ⟨v8, hv8, h⟩ := bI h
                  refine pn 7 rfl ?_
                  refine pd (rIx hv8) ?_
                  refine pn 3 rfl ?_
                  obtain ⟨v9, hv9, h⟩ := bI h
                  refine qCall Tryz.call16 (g_ref03_Alike_w hv9) rfl ?_
                  refine pn 1 rfl ?_
                  refine COpsE.nil ?_
                  refine COps.done [2, 3, 6, 7, 77] [2, 3] rfl ?_
                  refine CWp.cond h rfl (fun h => ?_) (fun h => ?_)
                  · refine CWp.seq ?_
                    refine CWp.region ?_
                    refine rn 1 rfl ?_
                    refine COps.done [4] [] rfl ?_
                    refine CWp.ret ?_
                    cases h
                    exact ⟨.inl rfl, rfl, rfl⟩
                  · refine CWp.skip ?_
                    refine CWp.region ?_
                    refine rn 3 rfl ?_
                    refine COps.done [2, 3, 6, 7] [2, 3] rfl ?_
                    refine crd ?_
                    refine CWp.seq ?_
                    refine CWp.seq ?_
                    refine CWp.region ?_
                    refine rn 2 rfl ?_
                    refine COps.done [2, 3, 6, 7, 57] [2, 3] rfl ?_
                    refine CWp.condT rfl (by decide) ?_
                    refine CWp.skip ?_
                    refine CWp.seq ?_
                    refine CWp.block ?_
                    refine CWp.seq ?_
                    refine CWp.drawn 18 (by kernel_rfl) ?_
                    obtain ⟨v10, hv10, h⟩ := bI h
                    refine pn 4 rfl ?_
                    refine pd (rIx hv10) ?_
                    obtain ⟨v11, hv11, h⟩ := bI h
                    refine pn 7 rfl ?_
                    refine pd (rIx hv11) ?_
                    refine pn 3 rfl ?_
                    obtain ⟨v12, hv12, h⟩ := bI h
                    refine qCall Tryz.call16 (g_ref03_Alike_w hv12) rfl ?_
                    refine pn 1 rfl ?_
                    refine COpsE.nil ?_
                    refine COps.done [2, 3, 6, 7, 77] [2, 3] rfl ?_
                    refine CWp.cond h rfl (fun h => ?_) (fun h => ?_)
                    · refine CWp.seq ?_
                      refine CWp.region ?_
                      refine rn 1 rfl ?_
                      refine COps.done [4] [] rfl ?_
                      refine CWp.ret ?_
                      cases h
                      exact ⟨.inl rfl, rfl, rfl⟩
                    · refine CWp.skip ?_
                      refine CWp.region ?_
                      refine rn 3 rfl ?_
                      refine COps.done [2, 3, 6, 7] [2, 3] rfl ?_
                      refine crd ?_
                      refine CWp.seq ?_
                      refine CWp.seq ?_
                      refine CWp.region ?_
                      refine rn 2 rfl ?_
                      refine COps.done [2, 3, 6, 7, 57] [2, 3] rfl ?_
                      refine CWp.condF rfl (by decide) ?_
                      refine CWp.keep [2, 3, 6] [2, 3] rfl ?_
                      refine CWp.exit ?_
                      exact ⟨rfl, h⟩
            · rintro _ ⟨rfl, h⟩
              unfold g_ref26_sameRaw_k4 at h
              refine CWp.region ?_
              refine rn 3 rfl ?_
              refine COps.done [2, 3, 6] [2, 3] rfl ?_
              exact ⟨_, rfl, h⟩
          · refine CWp.keep [] [] rfl ?_
            refine CWp.exit ?_
            exact ⟨rfl, h⟩
        · rintro _ ⟨_, _, h⟩
          rw [g_ref26_sameRaw_l3] at h; cases h
      · rintro _ ⟨rfl, h⟩
        unfold g_ref26_sameRaw_k2 at h
        refine CWp.seq ?_
        refine CWp.region ?_
        refine rn 1 rfl ?_
        refine COps.done [4] [] rfl ?_
        refine CWp.ret ?_
        cases h
        exact ⟨.inl rfl, rfl, rfl⟩
def g_ref26_Same_k1 : Option Bool :=
  some true
def g_ref26_Same_k3 (x1 : Int) (q2 : Int → Option Bool) : Option Bool :=
  q2 (w64 (x1 + 1))
def g_ref26_Same_l5 (a0 : List SAct) (a1 : List SAct) (x1 : Int) (k590 : Option Bool) : Nat → Int → Option Bool
  | 0, _ => none
  | m5 + 1, x5 =>
    bO (idx a0 x1) fun v6 =>
    bif decide (x5 < (v6.keep.length : Int)) then
      bO (idx a0 x1) fun v7 =>
      bO (idx v7.keep x5) fun v8 =>
      bO (idx a1 x1) fun v9 =>
      bO (idx v9.keep x5) fun v10 =>
      bif v8 != v10 then
        some false
      else
        (g_ref26_Same_l5 a0 a1 x1 k590 m5) (w64 (x5 + 1))
    else
      k590
def g_ref26_Same_k4 (a0 : List SAct) (a1 : List SAct) (x1 : Int) (q2 : Int → Option Bool) : Option Bool :=
  g_ref26_Same_l5 a0 a1 x1 (g_ref26_Same_k3 x1 q2) FUEL 0
def g_ref26_Same_l6 (a0 : List SAct) (a1 : List SAct) (x1 : Int) (k690 : Option Bool) : Nat → Int → Option Bool
  | 0, _ => none
  | m6 + 1, x11 =>
    bO (idx a0 x1) fun v12 =>
    bif decide (x11 < (v12.well.length : Int)) then
      bO (idx a0 x1) fun v13 =>
      bO (idx v13.well x11) fun v14 =>
      bO (idx a1 x1) fun v15 =>
      bO (idx v15.well x11) fun v16 =>
      bif !(v14 == v16) then
        some false
      else
        (g_ref26_Same_l6 a0 a1 x1 k690 m6) (w64 (x11 + 1))
    else
      k690
def g_ref26_Same_l2 (a0 : List SAct) (a1 : List SAct) (k290 : Option Bool) : Nat → Int → Option Bool
  | 0, _ => none
  | m2 + 1, x1 =>
    bif decide (x1 < (a0.length : Int)) then
      bO (idx a0 x1) fun v2 =>
      bO (idx a1 x1) fun v3 =>
      bO (bif ((((((v2.do_ != v3.do_) || (!(qSPod v2.pod v3.pod))) || (!(v2.id == v3.id))) || (v2.steps != v3.steps)) || ((v2.well.length : Int) != (v3.well.length : Int))) || ((v2.keep.length : Int) != (v3.keep.length : Int))) then some default else (g_ref26_sameRaw v2.raw v3.raw)) fun v4 =>
      bif ((((((v2.do_ != v3.do_) || (!(qSPod v2.pod v3.pod))) || (!(v2.id == v3.id))) || (v2.steps != v3.steps)) || ((v2.well.length : Int) != (v3.well.length : Int))) || ((v2.keep.length : Int) != (v3.keep.length : Int))) || (!v4) then
        some false
      else
        g_ref26_Same_l6 a0 a1 x1 (g_ref26_Same_k4 a0 a1 x1 (g_ref26_Same_l2 a0 a1 k290 m2)) FUEL 0
    else
      k290
def g_ref26_Same (a0 : List SAct) (a1 : List SAct) : Option Bool :=
  bif (a0.length : Int) != (a1.length : Int) then
    some false
  else
    g_ref26_Same_l2 a0 a1 g_ref26_Same_k1 FUEL 0
theorem g_ref26_Same_w {a0 : List SAct} {a1 : List SAct} {r : Bool} (h : g_ref26_Same a0 a1 = some r) : PCall Tryz.prog 22 [.list false 50 (a0.map eSAct), .list false 50 (a1.map eSAct)] (zB r) := by
  refine PCall.body Tryz.func22 rfl rfl rfl rfl fun base => ?_
  unfold g_ref26_Same at h
  refine CWp.seq ?_
  refine CWp.region ?_
  refine rn 1 rfl ?_
  refine COps.done [0, 1] [] rfl ?_
  refine CWp.seq ?_
  refine CWp.seq ?_
  refine CWp.region ?_
  refine rh 5 [a0.length, a1.length] [] rfl ⟨List.length_map .., List.length_map .., trivial⟩ ?_
  refine COps.done [0, 1, 12] [] rfl ?_
  refine CWp.cond h rfl (fun h => ?_) (fun h => ?_)
  · refine CWp.seq ?_
    refine CWp.region ?_
    refine rn 1 rfl ?_
    refine COps.done [4] [] rfl ?_
    refine CWp.ret ?_
    cases h
    exact ⟨.inl rfl, rfl, rfl⟩
  · refine CWp.skip ?_
    refine CWp.mid (fun e => e = ⟨[], [], [], [], base⟩ ∧ g_ref26_Same_k1 = some r) ?_ ?_
    · refine CWp.seq ?_
      refine CWp.region ?_
      refine rn 1 rfl ?_
      refine COps.done [0, 1, 5] [] rfl ?_
      refine CWp.block ?_
      refine CWp.loop (fun m2 e => ∃ x1, e = ⟨[(0, [], .list false 50 (a0.map eSAct)), (1, [], .list false 50 (a1.map eSAct)), (5, [], zI x1)], [], [], [], base⟩ ∧ g_ref26_Same_l2 a0 a1 (g_ref26_Same_k1) m2 x1 = some r) FUEL ⟨_, rfl, h⟩ ?_ ?_
      · rintro m2 _ ⟨x1, rfl, h⟩
        rw [g_ref26_Same_l2] at h
        refine CWp.seq ?_
        refine CWp.seq ?_
        refine CWp.region ?_
        refine rh 4 [a0.length] [] rfl ⟨List.length_map .., trivial⟩ ?_
        refine COps.done [0, 1, 5, 16] [] rfl ?_
        refine CWp.cond h rfl (fun h => ?_) (fun h => ?_)
        · refine CWp.skip ?_
          refine CWp.mid (fun e => e = ⟨[(0, [], .list false 50 (a0.map eSAct)), (1, [], .list false 50 (a1.map eSAct)), (5, [], zI x1)], [], [], [], base⟩ ∧ g_ref26_Same_k3 x1 (g_ref26_Same_l2 a0 a1 (g_ref26_Same_k1) m2) = some r) ?_ ?_
          · refine CWp.block ?_
            refine CWp.seq ?_
            refine CWp.seq ?_
            refine CWp.drawn 94 (by kernel_rfl) ?_
            obtain ⟨v2, hv2, h⟩ := bI h
            refine pn 2 rfl ?_
            refine pd (rIx hv2) ?_
            obtain ⟨v3, hv3, h⟩ := bI h
            refine pn 4 rfl ?_
            refine pd (rIx hv3) ?_
            refine pn 6 rfl ?_
            refine pdg 30 false [] (fun ht => rIx hv2) ?_
            refine pn 4 rfl ?_
            refine pdg 30 false [] (fun ht => rIx hv3) ?_
            refine pn 2 rfl ?_
            refine pdg 30 false [] (fun _ => rNe (a := v2.pod) (b := v3.pod) EqSPod) ?_
            refine pn 4 rfl ?_
            refine pdg 43 false [] (fun ht => rIx hv2) ?_
            refine pn 4 rfl ?_
            refine pdg 43 false [] (fun ht => rIx hv3) ?_
            refine pn 7 rfl ?_
            refine pdg 56 false [] (fun ht => rIx hv2) ?_
            refine pn 4 rfl ?_
            refine pdg 56 false [] (fun ht => rIx hv3) ?_
            refine pn 7 rfl ?_
            refine pdg 69 false [] (fun ht => rIx hv2) ?_
            refine ph 5 [v2.well.length] rfl ⟨List.length_map .., trivial⟩ ?_
            refine pdg 69 false [] (fun ht => rIx hv3) ?_
            refine ph 8 [v3.well.length] rfl ⟨List.length_map .., trivial⟩ ?_
            refine pdg 84 false [] (fun ht => rIx hv2) ?_
            refine ph 5 [v2.keep.length] rfl ⟨List.length_map .., trivial⟩ ?_
            refine pdg 84 false [] (fun ht => rIx hv3) ?_
            refine ph 8 [v3.keep.length] rfl ⟨List.length_map .., trivial⟩ ?_
            refine pdg 99 false [] (fun ht => rIx hv2) ?_
            refine pn 4 rfl ?_
            refine pdg 99 false [] (fun ht => rIx hv3) ?_
            refine pn 2 rfl ?_
            obtain ⟨v4, hv4, h⟩ := bI h
            refine qCallg 99 false [] Tryz.call46 (fun ht => g_ref26_sameRaw_w (gdf hv4 (ht.1 _ rfl))) rfl ?_
            refine pn 2 rfl ?_
            refine COpsE.nil ?_
            refine COps.done [0, 1, 5, 112] [] rfl ?_
            refine CWp.cond h rfl (fun h => ?_) (fun h => ?_)
            · refine CWp.seq ?_
              refine CWp.region ?_
              refine rn 1 rfl ?_
              refine COps.done [4] [] rfl ?_
              refine CWp.ret ?_
              cases h
              exact ⟨.inl rfl, rfl, rfl⟩
            · refine CWp.skip ?_
              refine CWp.mid (fun e => e = ⟨[(0, [], .list false 50 (a0.map eSAct)), (1, [], .list false 50 (a1.map eSAct)), (5, [], zI x1)], [], [], [], base⟩ ∧ g_ref26_Same_k4 a0 a1 x1 (g_ref26_Same_l2 a0 a1 (g_ref26_Same_k1) m2) = some r) ?_ ?_
              · refine CWp.seq ?_
                refine CWp.region ?_
                refine rn 1 rfl ?_
                refine COps.done [0, 1, 5, 6] [] rfl ?_
                refine CWp.block ?_
                refine CWp.loop (fun m6 e => ∃ x11, e = ⟨[(0, [], .list false 50 (a0.map eSAct)), (1, [], .list false 50 (a1.map eSAct)), (5, [], zI x1), (6, [], zI x11)], [], [], [], base⟩ ∧ g_ref26_Same_l6 a0 a1 x1 (g_ref26_Same_k4 a0 a1 x1 (g_ref26_Same_l2 a0 a1 (g_ref26_Same_k1) m2)) m6 x11 = some r) FUEL ⟨_, rfl, h⟩ ?_ ?_
                · rintro m6 _ ⟨x11, rfl, h⟩
                  rw [g_ref26_Same_l6] at h
                  refine CWp.seq ?_
                  refine CWp.seq ?_
                  refine CWp.region ?_
                  obtain ⟨v12, hv12, h⟩ := bI h
                  refine rn 3 rfl ?_
                  refine rd (rIx hv12) ?_
                  refine rh 4 [v12.well.length] [] rfl ⟨List.length_map .., trivial⟩ ?_
                  refine COps.done [0, 1, 5, 6, 120] [] rfl ?_
                  refine CWp.cond h rfl (fun h => ?_) (fun h => ?_)
                  · refine CWp.skip ?_
                    refine CWp.seq ?_
                    refine CWp.block ?_
                    refine CWp.seq ?_
                    refine CWp.drawn 17 (by kernel_rfl) ?_
                    obtain ⟨v13, hv13, h⟩ := bI h
                    refine pn 2 rfl ?_
                    refine pd (rIx hv13) ?_
                    obtain ⟨v14, hv14, h⟩ := bI h
                    refine pn 3 rfl ?_
                    refine pd (rIx hv14) ?_
                    obtain ⟨v15, hv15, h⟩ := bI h
                    refine pn 3 rfl ?_
                    refine pd (rIx hv15) ?_
                    obtain ⟨v16, hv16, h⟩ := bI h
                    refine pn 3 rfl ?_
                    refine pd (rIx hv16) ?_
                    refine pn 2 rfl ?_
                    refine COpsE.nil ?_
                    refine COps.done [0, 1, 5, 6, 139] [] rfl ?_
                    refine CWp.cond h rfl (fun h => ?_) (fun h => ?_)
                    · refine CWp.seq ?_
                      refine CWp.region ?_
                      refine rn 1 rfl ?_
                      refine COps.done [4] [] rfl ?_
                      refine CWp.ret ?_
                      cases h
                      exact ⟨.inl rfl, rfl, rfl⟩
                    · refine CWp.skip ?_
                      refine CWp.region ?_
                      refine rn 3 rfl ?_
                      refine COps.done [0, 1, 5, 6] [] rfl ?_
                      exact ⟨_, rfl, h⟩
                  · refine CWp.keep [0, 1, 5] [] rfl ?_
                    refine CWp.exit ?_
                    exact ⟨rfl, h⟩
                · rintro _ ⟨_, _, h⟩
                  rw [g_ref26_Same_l6] at h; cases h
              · rintro _ ⟨rfl, h⟩
                unfold g_ref26_Same_k4 at h
                refine CWp.seq ?_
                refine CWp.region ?_
                refine rn 1 rfl ?_
                refine COps.done [0, 1, 5, 7] [] rfl ?_
                refine CWp.block ?_
                refine CWp.loop (fun m5 e => ∃ x5, e = ⟨[(0, [], .list false 50 (a0.map eSAct)), (1, [], .list false 50 (a1.map eSAct)), (5, [], zI x1), (7, [], zI x5)], [], [], [], base⟩ ∧ g_ref26_Same_l5 a0 a1 x1 (g_ref26_Same_k3 x1 (g_ref26_Same_l2 a0 a1 (g_ref26_Same_k1) m2)) m5 x5 = some r) FUEL ⟨_, rfl, h⟩ ?_ ?_
                · rintro m5 _ ⟨x5, rfl, h⟩
                  rw [g_ref26_Same_l5] at h
                  refine CWp.seq ?_
                  refine CWp.seq ?_
                  refine CWp.region ?_
                  obtain ⟨v6, hv6, h⟩ := bI h
                  refine rn 3 rfl ?_
                  refine rd (rIx hv6) ?_
                  refine rh 4 [v6.keep.length] [] rfl ⟨List.length_map .., trivial⟩ ?_
                  refine COps.done [0, 1, 5, 7, 147] [] rfl ?_
                  refine CWp.cond h rfl (fun h => ?_) (fun h => ?_)
                  · refine CWp.skip ?_
                    refine CWp.seq ?_
                    refine CWp.block ?_
                    refine CWp.seq ?_
                    refine CWp.drawn 17 (by kernel_rfl) ?_
                    obtain ⟨v7, hv7, h⟩ := bI h
                    refine pn 2 rfl ?_
                    refine pd (rIx hv7) ?_
                    obtain ⟨v8, hv8, h⟩ := bI h
                    refine pn 3 rfl ?_
                    refine pd (rIx hv8) ?_
                    obtain ⟨v9, hv9, h⟩ := bI h
                    refine pn 3 rfl ?_
                    refine pd (rIx hv9) ?_
                    obtain ⟨v10, hv10, h⟩ := bI h
                    refine pn 3 rfl ?_
                    refine pd (rIx hv10) ?_
                    refine pn 2 rfl ?_
                    refine COpsE.nil ?_
                    refine COps.done [0, 1, 5, 7, 166] [] rfl ?_
                    refine CWp.cond h rfl (fun h => ?_) (fun h => ?_)
                    · refine CWp.seq ?_
                      refine CWp.region ?_
                      refine rn 1 rfl ?_
                      refine COps.done [4] [] rfl ?_
                      refine CWp.ret ?_
                      cases h
                      exact ⟨.inl rfl, rfl, rfl⟩
                    · refine CWp.skip ?_
                      refine CWp.region ?_
                      refine rn 3 rfl ?_
                      refine COps.done [0, 1, 5, 7] [] rfl ?_
                      exact ⟨_, rfl, h⟩
                  · refine CWp.keep [0, 1, 5] [] rfl ?_
                    refine CWp.exit ?_
                    exact ⟨rfl, h⟩
                · rintro _ ⟨_, _, h⟩
                  rw [g_ref26_Same_l5] at h; cases h
          · rintro _ ⟨rfl, h⟩
            unfold g_ref26_Same_k3 at h
            refine CWp.region ?_
            refine rn 3 rfl ?_
            refine COps.done [0, 1, 5] [] rfl ?_
            exact ⟨_, rfl, h⟩
        · refine CWp.keep [] [] rfl ?_
          refine CWp.exit ?_
          exact ⟨rfl, h⟩
      · rintro _ ⟨_, _, h⟩
        rw [g_ref26_Same_l2] at h; cases h
    · rintro _ ⟨rfl, h⟩
      unfold g_ref26_Same_k1 at h
      refine CWp.seq ?_
      refine CWp.region ?_
      refine rn 1 rfl ?_
      refine COps.done [4] [] rfl ?_
      refine CWp.ret ?_
      cases h
      exact ⟨.inl rfl, rfl, rfl⟩
def g_ref17_Few_k1 (a0 : SRaw) : Option Bool :=
  some (decide ((a0.use.length : Int) ≤ 140))
def g_ref17_Few_l2 (a0 : SRaw) (k290 : Option Bool) : Nat → Int → Option Bool
  | 0, _ => none
  | m2 + 1, x1 =>
    bif (decide (x1 < (a0.use.length : Int))) && (decide (x1 < 200)) then
      bO (idx a0.use x1) fun v2 =>
      bif decide ((v2.id.length : Int) > 60) then
        some false
      else
        (g_ref17_Few_l2 a0 k290 m2) (w64 (x1 + 1))
    else
      k290
def g_ref17_Few (a0 : SRaw) : Option Bool :=
  g_ref17_Few_l2 a0 (g_ref17_Few_k1 a0) FUEL 0
theorem g_ref17_Few_w {a0 : SRaw} {r : Bool} (h : g_ref17_Few a0 = some r) : PCall Tryz.prog 48 [eSRaw a0] (zB r) := by
  refine PCall.body Tryz.func48 rfl rfl rfl rfl fun base => ?_
  unfold g_ref17_Few at h
  refine CWp.seq ?_
  refine CWp.region ?_
  refine rn 2 rfl ?_
  refine COps.done [1] [1] rfl ?_
  refine CWp.mid (fun e => e = ⟨[(1, [], .lptr 1 0)], [], [(1, [zI a0.time, zF a0.avail.a, zF a0.avail.b, zF a0.avail.c, .list false 114 (a0.use.map eSUsage)])], [], base⟩ ∧ g_ref17_Few_k1 a0 = some r) ?_ ?_
  · refine CWp.seq ?_
    refine CWp.region ?_
    refine rn 1 rfl ?_
    refine COps.done [1, 3] [1] rfl ?_
    refine CWp.block ?_
    refine CWp.loop (fun m2 e => ∃ x1, e = ⟨[(1, [], .lptr 1 0), (3, [], zI x1)], [], [(1, [zI a0.time, zF a0.avail.a, zF a0.avail.b, zF a0.avail.c, .list false 114 (a0.use.map eSUsage)])], [], base⟩ ∧ g_ref17_Few_l2 a0 (g_ref17_Few_k1 a0) m2 x1 = some r) FUEL ⟨_, rfl, h⟩ ?_ ?_
    · rintro m2 _ ⟨x1, rfl, h⟩
      rw [g_ref17_Few_l2] at h
      refine CWp.seq ?_
      refine CWp.seq ?_
      refine CWp.region ?_
      refine rh 9 [a0.use.length] [] rfl ⟨List.length_map .., trivial⟩ ?_
      refine COps.done [1, 3, 12] [1] rfl ?_
      refine CWp.cond h rfl (fun h => ?_) (fun h => ?_)
      · refine CWp.skip ?_
        refine CWp.seq ?_
        refine CWp.block ?_
        refine CWp.seq ?_
        refine CWp.region ?_
        obtain ⟨v2, hv2, h⟩ := bI h
        refine rn 3 rfl ?_
        refine rd (rIx hv2) ?_
        refine rn 4 rfl ?_
        refine COps.done [1, 3, 22] [1] rfl ?_
        refine CWp.cond h rfl (fun h => ?_) (fun h => ?_)
        · refine CWp.seq ?_
          refine CWp.region ?_
          refine rn 1 rfl ?_
          refine COps.done [2] [] rfl ?_
          refine CWp.ret ?_
          cases h
          exact ⟨.inl rfl, rfl, rfl⟩
        · refine CWp.skip ?_
          refine CWp.region ?_
          refine rn 3 rfl ?_
          refine COps.done [1, 3] [1] rfl ?_
          exact ⟨_, rfl, h⟩
      · refine CWp.keep [1] [1] rfl ?_
        refine CWp.exit ?_
        exact ⟨rfl, h⟩
    · rintro _ ⟨_, _, h⟩
      rw [g_ref17_Few_l2] at h; cases h
  · rintro _ ⟨rfl, h⟩
    unfold g_ref17_Few_k1 at h
    refine CWp.seq ?_
    refine CWp.region ?_
    refine rh 5 [a0.use.length] [] rfl ⟨List.length_map .., trivial⟩ ?_
    refine COps.done [2] [] rfl ?_
    refine CWp.ret ?_
    cases h
    exact ⟨.inl rfl, rfl, rfl⟩
def g_ref25_Few_k1 (a0 : List SAct) : Option Bool :=
  some (decide ((a0.length : Int) ≤ 60))
def g_ref25_Few_l2 (a0 : List SAct) (k290 : Option Bool) : Nat → Int → Option Bool
  | 0, _ => none
  | m2 + 1, x1 =>
    bif (decide (x1 < (a0.length : Int))) && (decide (x1 < 100)) then
      bO (idx a0 x1) fun v2 =>
      bO (bif (((decide ((v2.pod.id.length : Int) > 60)) || (decide ((v2.pod.image.length : Int) > 60))) || (decide ((v2.id.length : Int) > 60))) then some default else (g_ref17_Few v2.raw)) fun v3 =>
      bif (((((decide ((v2.pod.id.length : Int) > 60)) || (decide ((v2.pod.image.length : Int) > 60))) || (decide ((v2.id.length : Int) > 60))) || (!v3)) || (decide ((v2.well.length : Int) > 60))) || (decide ((v2.keep.length : Int) > 60)) then
        some false
      else
        (g_ref25_Few_l2 a0 k290 m2) (w64 (x1 + 1))
    else
      k290
def g_ref25_Few (a0 : List SAct) : Option Bool :=
  g_ref25_Few_l2 a0 (g_ref25_Few_k1 a0) FUEL 0
theorem g_ref25_Few_w {a0 : List SAct} {r : Bool} (h : g_ref25_Few a0 = some r) : PCall Tryz.prog 24 [.list false 50 (a0.map eSAct)] (zB r) := by
  refine PCall.body Tryz.func24 rfl rfl rfl rfl fun base => ?_
  unfold g_ref25_Few at h
  refine CWp.seq ?_
  refine CWp.region ?_
  refine rn 1 rfl ?_
  refine COps.done [0] [] rfl ?_
  refine CWp.mid (fun e => e = ⟨[(0, [], .list false 50 (a0.map eSAct))], [], [], [], base⟩ ∧ g_ref25_Few_k1 a0 = some r) ?_ ?_
  · refine CWp.seq ?_
    refine CWp.region ?_
    refine rn 1 rfl ?_
    refine COps.done [0, 3] [] rfl ?_
    refine CWp.block ?_
    refine CWp.loop (fun m2 e => ∃ x1, e = ⟨[(0, [], .list false 50 (a0.map eSAct)), (3, [], zI x1)], [], [], [], base⟩ ∧ g_ref25_Few_l2 a0 (g_ref25_Few_k1 a0) m2 x1 = some r) FUEL ⟨_, rfl, h⟩ ?_ ?_
    · rintro m2 _ ⟨x1, rfl, h⟩
      rw [g_ref25_Few_l2] at h
      refine CWp.seq ?_
      refine CWp.seq ?_
      refine CWp.region ?_
      refine rh 8 [a0.length] [] rfl ⟨List.length_map .., trivial⟩ ?_
      refine COps.done [0, 3, 11] [] rfl ?_
      refine CWp.cond h rfl (fun h => ?_) (fun h => ?_)
      · refine CWp.skip ?_
        refine CWp.seq ?_
        refine CWp.block ?_
        refine CWp.seq ?_
        refine CWp.region ?_
        obtain ⟨v2, hv2, h⟩ := bI h
        refine rn 2 rfl ?_
        refine rd (rIx hv2) ?_
        refine rn 8 rfl ?_
        refine rdg 22 false [] (fun ht => rIx hv2) ?_
        refine rn 9 rfl ?_
        refine rdg 32 false [] (fun ht => rIx hv2) ?_
        refine rn 8 rfl ?_
        refine rdg 41 false [] (fun ht => rIx hv2) ?_
        refine rn 2 rfl ?_
        refine COps.keepG [0, 3, 41, 46] rfl ?_
        obtain ⟨v3, hv3, h⟩ := bI h
        refine pCallg 41 false [] Tryz.call48 (fun ht => g_ref17_Few_w (gdf hv3 (ht.1 _ rfl))) rfl ?_
        refine rn 5 rfl ?_
        refine rdg 50 false [] (fun ht => rIx hv2) ?_
        refine rh 8 [v2.well.length] [] rfl ⟨List.length_map .., trivial⟩ ?_
        refine rdg 59 false [] (fun ht => rIx hv2) ?_
        refine rh 5 [v2.keep.length] [] rfl ⟨List.length_map .., trivial⟩ ?_
        refine COps.done [0, 3, 67] [] rfl ?_
        refine CWp.cond h rfl (fun h => ?_) (fun h => ?_)
        · refine CWp.seq ?_
          refine CWp.region ?_
          refine rn 1 rfl ?_
          refine COps.done [2] [] rfl ?_
          refine CWp.ret ?_
          cases h
          exact ⟨.inl rfl, rfl, rfl⟩
        · refine CWp.skip ?_
          refine CWp.region ?_
          refine rn 3 rfl ?_
          refine COps.done [0, 3] [] rfl ?_
          exact ⟨_, rfl, h⟩
      · refine CWp.keep [0] [] rfl ?_
        refine CWp.exit ?_
        exact ⟨rfl, h⟩
    · rintro _ ⟨_, _, h⟩
      rw [g_ref25_Few_l2] at h; cases h
  · rintro _ ⟨rfl, h⟩
    unfold g_ref25_Few_k1 at h
    refine CWp.seq ?_
    refine CWp.region ?_
    refine rh 4 [a0.length] [] rfl ⟨List.length_map .., trivial⟩ ?_
    refine COps.done [2] [] rfl ?_
    refine CWp.ret ?_
    cases h
    exact ⟨.inl rfl, rfl, rfl⟩
def g_ref26_bare_k1 (a0 : SAct) : Option Bool :=
  some ((a0.raw.time == 0) && ((a0.raw.use.length : Int) == 0))
def g_ref26_bare (a0 : SAct) : Option Bool :=
  bif ((((a0.do_ != 1) && (!(qSPod a0.pod (⟨([] : List UInt8), 0, false, (⟨0, 0, 0⟩ : V3 Int), (⟨0, 0, 0⟩ : V3 Int), ([] : List UInt8), 0⟩ : SPod)))) || ((a0.do_ != 2) && (!(a0.id == ([] : List UInt8))))) || ((a0.do_ != 5) && (decide ((a0.well.length : Int) > 0)))) || ((a0.do_ != 6) && ((a0.steps != 0) || (decide ((a0.keep.length : Int) > 0)))) then
    some false
  else
    bif a0.do_ == 4 then
      some true
    else
      bO (g_ref03_Kind a0.raw.avail.a) fun v1 =>
      bif v1 != 5 then
        some false
      else
        bO (g_ref03_Kind a0.raw.avail.b) fun v2 =>
        bif v2 != 5 then
          some false
        else
          bO (g_ref03_Kind a0.raw.avail.c) fun v3 =>
          bif v3 != 5 then
            some false
          else
            g_ref26_bare_k1 a0
theorem g_ref26_bare_w {a0 : SAct} {r : Bool} (h : g_ref26_bare a0 = some r) : PCall Tryz.prog 50 [eSAct a0] (zB r) := by
  refine PCall.body Tryz.func50 rfl rfl rfl rfl fun base => ?_
  unfold g_ref26_bare at h
  refine CWp.seq ?_
  refine CWp.region ?_
  refine rn 2 rfl ?_
  refine COps.done [1] [1] rfl ?_
  refine CWp.seq ?_
  refine CWp.seq ?_
  refine CWp.region ?_
  refine rn 7 rfl ?_
  refine rdg 7 true [] (fun _ => rNe (a := a0.pod) (b := (⟨([] : List UInt8), 0, false, (⟨0, 0, 0⟩ : V3 Int), (⟨0, 0, 0⟩ : V3 Int), ([] : List UInt8), 0⟩ : SPod)) EqSPod) ?_
  refine rh 38 [a0.well.length, a0.keep.length] [] rfl ⟨List.length_map .., List.length_map .., trivial⟩ ?_
  refine COps.done [1, 49] [1] rfl ?_
  refine CWp.cond h rfl (fun h => ?_) (fun h => ?_)
  · refine CWp.seq ?_
    refine CWp.region ?_
    refine rn 1 rfl ?_
    refine COps.done [2] [] rfl ?_
    refine CWp.ret ?_
    cases h
    exact ⟨.inl rfl, rfl, rfl⟩
  · refine CWp.skip ?_
    refine CWp.seq ?_
    refine CWp.seq ?_
    refine CWp.region ?_
    refine rn 3 rfl ?_
    refine COps.done [1, 52] [1] rfl ?_
    refine CWp.cond h rfl (fun h => ?_) (fun h => ?_)
    · refine CWp.seq ?_
      refine CWp.region ?_
      refine rn 1 rfl ?_
      refine COps.done [2] [] rfl ?_
      refine CWp.ret ?_
      cases h
      exact ⟨.inl rfl, rfl, rfl⟩
    · refine CWp.skip ?_
      refine CWp.mid (fun e => e = ⟨[(1, [], .lptr 1 0)], [], [(1, [zI a0.do_, .str a0.pod.id, zI a0.pod.prio, zB a0.pod.critical, zI a0.pod.req.a, zI a0.pod.req.b, zI a0.pod.req.c, zI a0.pod.lim.a, zI a0.pod.lim.b, zI a0.pod.lim.c, .str a0.pod.image, zI a0.pod.size, .str a0.id, zI a0.raw.time, zF a0.raw.avail.a, zF a0.raw.avail.b, zF a0.raw.avail.c, .list false 114 (a0.raw.use.map eSUsage), .list false 4 (a0.well.map zB), zI a0.steps, .list false 3 (a0.keep.map zI)])], [], base⟩ ∧ g_ref26_bare_k1 a0 = some r) ?_ ?_
      · refine CWp.seq ?_
        refine CWp.region ?_
        refine rn 1 rfl ?_
        refine COps.done [1, 3] [1] rfl ?_
        refine CWp.block ?_
        refine CWp.unroll 4 ?_
        refine crd ?_
        refine CWp.seq ?_
        refine CWp.seq ?_
        refine CWp.region ?_
        refine rn 2 rfl ?_
        refine COps.done [1, 3, 54] [1] rfl ?_
        refine CWp.condT rfl (by decide) ?_
        refine CWp.skip ?_
        refine CWp.seq ?_
        refine CWp.block ?_
        refine CWp.seq ?_
        refine CWp.region ?_
        refine rn 5 rfl ?_
        obtain ⟨v1, hv1, h⟩ := bI h
        refine pCall Tryz.call31 (g_ref03_Kind_w hv1) rfl ?_
        refine rn 1 rfl ?_
        refine COps.done [1, 3, 63] [1] rfl ?_
        refine CWp.cond h rfl (fun h => ?_) (fun h => ?_)
        · refine CWp.seq ?_
          refine CWp.region ?_
          refine rn 1 rfl ?_
          refine COps.done [2] [] rfl ?_
          refine CWp.ret ?_
          cases h
          exact ⟨.inl rfl, rfl, rfl⟩
        · refine CWp.skip ?_
          refine CWp.region ?_
          refine rn 3 rfl ?_
          refine COps.done [1, 3] [1] rfl ?_
          refine crd ?_
          refine CWp.seq ?_
          refine CWp.seq ?_
          refine CWp.region ?_
          refine rn 2 rfl ?_
          refine COps.done [1, 3, 54] [1] rfl ?_
          refine CWp.condT rfl (by decide) ?_
          refine CWp.skip ?_
          refine CWp.seq ?_
          refine CWp.block ?_
          refine CWp.seq ?_
          refine CWp.region ?_
          refine rn 5 rfl ?_
          obtain ⟨v2, hv2, h⟩ := bI h
          refine pCall Tryz.call31 (g_ref03_Kind_w hv2) rfl ?_
          refine rn 1 rfl ?_
          refine COps.done [1, 3, 63] [1] rfl ?_
          refine CWp.cond h rfl (fun h => ?_) (fun h => ?_)
          · refine CWp.seq ?_
            refine CWp.region ?_
            refine rn 1 rfl ?_
            refine COps.done [2] [] rfl ?_
            refine CWp.ret ?_
            cases h
            exact ⟨.inl rfl, rfl, rfl⟩
          · refine CWp.skip ?_
            refine CWp.region ?_
            refine rn 3 rfl ?_
            refine COps.done [1, 3] [1] rfl ?_
            refine crd ?_
            refine CWp.seq ?_
            refine CWp.seq ?_
            refine CWp.region ?_
            refine rn 2 rfl ?_
            refine COps.done [1, 3, 54] [1] rfl ?_
            refine CWp.condT rfl (by decide) ?_
            refine CWp.skip ?_
            refine CWp.seq ?_
            refine CWp.block ?_
            refine CWp.seq ?_
            refine CWp.region ?_
            refine rn 5 rfl ?_
            obtain ⟨v3, hv3, h⟩ := bI h
            refine pCall Tryz.call31 (g_ref03_Kind_w hv3) rfl ?_
            refine rn 1 rfl ?_
            refine COps.done [1, 3, 63] [1] rfl ?_
            refine CWp.cond h rfl (fun h => ?_) (fun h => ?_)
            · refine CWp.seq ?_
              refine CWp.region ?_
              refine rn 1 rfl ?_
              refine COps.done [2] [] rfl ?_
              refine CWp.ret ?_
              cases h
              exact ⟨.inl rfl, rfl, rfl⟩
            · refine CWp.skip ?_
              refine CWp.region ?_
              refine rn 3 rfl ?_
              refine COps.done [1, 3] [1] rfl ?_
              refine crd ?_
              refine CWp.seq ?_
              refine CWp.seq ?_
              refine CWp.region ?_
              refine rn 2 rfl ?_
              refine COps.done [1, 3, 54] [1] rfl ?_
              refine CWp.condF rfl (by decide) ?_
              refine CWp.keep [1] [1] rfl ?_
              refine CWp.exit ?_
              exact ⟨rfl, h⟩
      · rintro _ ⟨rfl, h⟩
        unfold g_ref26_bare_k1 at h
        refine CWp.seq ?_
        refine CWp.region ?_
        refine rh 12 [a0.raw.use.length] [] rfl ⟨List.length_map .., trivial⟩ ?_
        refine COps.done [2] [] rfl ?_
        refine CWp.ret ?_
        cases h
        exact ⟨.inl rfl, rfl, rfl⟩
def g_ref26_three_k1 (x1 : List UInt8) : Option ((List UInt8) × Bool) :=
  some (x1, true)
def g_ref26_three (a0 : V3 Int) : Option ((List UInt8) × Bool) :=
  bif decide (a0.a < 0) then
    some (([] : List UInt8), false)
  else
    bO (appO ([] : List UInt8) [32]) fun v2 =>
    bO (g_ref05_Print a0.a) fun v3 =>
    bO (appO v2 v3) fun v4 =>
    bif decide (a0.b < 0) then
      some (([] : List UInt8), false)
    else
      bO (appO v4 [32]) fun v5 =>
      bO (g_ref05_Print a0.b) fun v6 =>
      bO (appO v5 v6) fun v7 =>
      bif decide (a0.c < 0) then
        some (([] : List UInt8), false)
      else
        bO (appO v7 [32]) fun v8 =>
        bO (g_ref05_Print a0.c) fun v9 =>
        bO (appO v8 v9) fun v10 =>
        g_ref26_three_k1 v10
theorem g_ref26_three_w {a0 : V3 Int} {r : (List UInt8) × Bool} (h : g_ref26_three a0 = some r) : PCall Tryz.prog 95 [e3_Int a0] (.tuple [.str r.1, zB r.2]) := by
  refine PCall.body Tryz.func95 rfl rfl rfl rfl fun base => ?_
  unfold g_ref26_three at h
  refine CWp.seq ?_
  refine CWp.region ?_
  refine rn 3 rfl ?_
  refine COps.done [1] [1] rfl ?_
  refine CWp.seq ?_
  refine CWp.region ?_
  refine rn 1 rfl ?_
  refine COps.done [1, 4] [1] rfl ?_
  refine CWp.mid (fun e => ∃ x1, e = ⟨[(4, [], .str x1)], [], [], [], base⟩ ∧ g_ref26_three_k1 x1 = some r) ?_ ?_
  · refine CWp.seq ?_
    refine CWp.region ?_
    refine rn 1 rfl ?_
    refine COps.done [1, 4, 5] [1] rfl ?_
    refine CWp.block ?_
    refine CWp.unroll 4 ?_
    refine crd ?_
    refine CWp.seq ?_
    refine CWp.seq ?_
    refine CWp.region ?_
    refine rn 2 rfl ?_
    refine COps.done [1, 4, 5, 7] [1] rfl ?_
    refine CWp.condT rfl (by decide) ?_
    refine CWp.skip ?_
    refine CWp.seq ?_
    refine CWp.block ?_
    refine CWp.seq ?_
    refine CWp.seq ?_
    refine CWp.region ?_
    refine rn 4 rfl ?_
    refine COps.done [1, 4, 5, 13] [1] rfl ?_
    refine CWp.cond h rfl (fun h => ?_) (fun h => ?_)
    · refine CWp.seq ?_
      refine CWp.region ?_
      refine rn 2 rfl ?_
      refine COps.done [2, 3] [] rfl ?_
      refine CWp.ret ?_
      cases h
      exact ⟨.inl rfl, rfl, rfl⟩
    · refine CWp.skip ?_
      refine CWp.region ?_
      obtain ⟨v2, hv2, h⟩ := bI h
      refine rn 1 rfl ?_
      refine rd (rCat hv2) ?_
      refine rn 3 rfl ?_
      obtain ⟨v3, hv3, h⟩ := bI h
      refine pCall Tryz.call41 (g_ref05_Print_w hv3) rfl ?_
      obtain ⟨v4, hv4, h⟩ := bI h
      refine rd (rCat hv4) ?_
      refine rn 1 rfl ?_
      refine COps.done [1, 4, 5] [1] rfl ?_
      refine CWp.region ?_
      refine rn 3 rfl ?_
      refine COps.done [1, 4, 5] [1] rfl ?_
      refine crd ?_
      refine CWp.seq ?_
      refine CWp.seq ?_
      refine CWp.region ?_
      refine rn 2 rfl ?_
      refine COps.done [1, 4, 5, 7] [1] rfl ?_
      refine CWp.condT rfl (by decide) ?_
      refine CWp.skip ?_
      refine CWp.seq ?_
      refine CWp.block ?_
      refine CWp.seq ?_
      refine CWp.seq ?_
      refine CWp.region ?_
      refine rn 4 rfl ?_
      refine COps.done [1, 4, 5, 13] [1] rfl ?_
      refine CWp.cond h rfl (fun h => ?_) (fun h => ?_)
      · refine CWp.seq ?_
        refine CWp.region ?_
        refine rn 2 rfl ?_
        refine COps.done [2, 3] [] rfl ?_
        refine CWp.ret ?_
        cases h
        exact ⟨.inl rfl, rfl, rfl⟩
      · refine CWp.skip ?_
        refine CWp.region ?_
        obtain ⟨v5, hv5, h⟩ := bI h
        refine rn 1 rfl ?_
        refine rd (rCat hv5) ?_
        refine rn 3 rfl ?_
        obtain ⟨v6, hv6, h⟩ := bI h
        refine pCall Tryz.call41 (g_ref05_Print_w hv6) rfl ?_
        obtain ⟨v7, hv7, h⟩ := bI h
        refine rd (rCat hv7) ?_
        refine rn 1 rfl ?_
        refine COps.done [1, 4, 5] [1] rfl ?_
        refine CWp.region ?_
        refine rn 3 rfl ?_
        refine COps.done [1, 4, 5] [1] rfl ?_
        refine crd ?_
        refine CWp.seq ?_
        refine CWp.seq ?_
        refine CWp.region ?_
        refine rn 2 rfl ?_
        refine COps.done [1, 4, 5, 7] [1] rfl ?_
        refine CWp.condT rfl (by decide) ?_
        refine CWp.skip ?_
        refine CWp.seq ?_
        refine CWp.block ?_
        refine CWp.seq ?_
        refine CWp.seq ?_
        refine CWp.region ?_
        refine rn 4 rfl ?_
        refine COps.done [1, 4, 5, 13] [1] rfl ?_
        refine CWp.cond h rfl (fun h => ?_) (fun h => ?_)
        · refine CWp.seq ?_
          refine CWp.region ?_
          refine rn 2 rfl ?_
          refine COps.done [2, 3] [] rfl ?_
          refine CWp.ret ?_
          cases h
          exact ⟨.inl rfl, rfl, rfl⟩
        · refine CWp.skip ?_
          refine CWp.region ?_
          obtain ⟨v8, hv8, h⟩ := bI h
          refine rn 1 rfl ?_
          refine rd (rCat hv8) ?_
          refine rn 3 rfl ?_
          obtain ⟨v9, hv9, h⟩ := bI h
          refine pCall Tryz.call41 (g_ref05_Print_w hv9) rfl ?_
          obtain ⟨v10, hv10, h⟩ := bI h
          refine rd (rCat hv10) ?_
          refine rn 1 rfl ?_
          refine COps.done [1, 4, 5] [1] rfl ?_
          refine CWp.region ?_
          refine rn 3 rfl ?_
          refine COps.done [1, 4, 5] [1] rfl ?_
          refine crd ?_
          refine CWp.seq ?_
          refine CWp.seq ?_
          refine CWp.region ?_
          refine rn 2 rfl ?_
          refine COps.done [1, 4, 5, 7] [1] rfl ?_
          refine CWp.condF rfl (by decide) ?_
          refine CWp.keep [4] [] rfl ?_
          refine CWp.exit ?_
          exact ⟨_, rfl, h⟩
  · rintro _ ⟨x1, rfl, h⟩
    unfold g_ref26_three_k1 at h
    refine CWp.seq ?_
    refine CWp.region ?_
    refine rn 3 rfl ?_
    refine COps.done [2, 3] [] rfl ?_
    refine CWp.ret ?_
    cases h
    exact ⟨.inl rfl, rfl, rfl⟩
def g_ref26_far (a0 : Int) : Option Bool :=
  some ((decide (a0 < (-1099511627776))) || (decide (a0 > 1099511627776)))
theorem g_ref26_far_w {a0 : Int} {r : Bool} (h : g_ref26_far a0 = some r) : PCall Tryz.prog 53 [zI a0] (zB r) := by
  refine PCall.body Tryz.func53 rfl rfl rfl rfl fun base => ?_
  unfold g_ref26_far at h
  refine CWp.seq ?_
  refine CWp.region ?_
  refine rn 1 rfl ?_
  refine COps.done [0] [] rfl ?_
  refine CWp.seq ?_
  refine CWp.region ?_
  refine rn 7 rfl ?_
  refine COps.done [2] [] rfl ?_
  refine CWp.ret ?_
  cases h
  exact ⟨.inl rfl, rfl, rfl⟩
def g_ref26_Digits (a0 : Int) : Option (List UInt8) :=
  bif decide (a0 < 0) then
    bO (g_ref05_Digits (w64 (0 - a0))) fun v1 =>
    bO (appO [45] v1) fun v2 =>
    some v2
  else
    bO (g_ref05_Digits a0) fun v3 =>
    some v3
theorem g_ref26_Digits_w {a0 : Int} {r : List UInt8} (h : g_ref26_Digits a0 = some r) : PCall Tryz.prog 28 [zI a0] (.str r) := by
  refine PCall.body Tryz.func28 rfl rfl rfl rfl fun base => ?_
  unfold g_ref26_Digits at h
  refine CWp.seq ?_
  refine CWp.region ?_
  refine rn 1 rfl ?_
  refine COps.done [0] [] rfl ?_
  refine CWp.seq ?_
  refine CWp.seq ?_
  refine CWp.region ?_
  refine rn 2 rfl ?_
  refine COps.done [0, 4] [] rfl ?_
  refine CWp.cond h rfl (fun h => ?_) (fun h => ?_)
  · refine CWp.seq ?_
    refine CWp.region ?_
    refine rn 2 rfl ?_
    obtain ⟨v1, hv1, h⟩ := bI h
    refine pCall Tryz.call54 (g_ref05_Digits_w hv1) rfl ?_
    obtain ⟨v2, hv2, h⟩ := bI h
    refine rd (rCat hv2) ?_
    refine rn 1 rfl ?_
    refine COps.done [2] [] rfl ?_
    refine CWp.ret ?_
    cases h
    exact ⟨.inl rfl, rfl, rfl⟩
  · refine CWp.skip ?_
    refine CWp.seq ?_
    refine CWp.region ?_
    refine rn 1 rfl ?_
    obtain ⟨v3, hv3, h⟩ := bI h
    refine pCall Tryz.call54 (g_ref05_Digits_w hv3) rfl ?_
    refine rn 1 rfl ?_
    refine COps.done [2] [] rfl ?_
    refine CWp.ret ?_
    cases h
    exact ⟨.inl rfl, rfl, rfl⟩
def g_ref26_admit_k2 (a0 : SPod) (v1 : (List UInt8) × Bool) (x6 : List UInt8) (x7 : List UInt8) : Option ((List UInt8) × Bool) :=
  bO (appO [97, 100, 109, 105, 116, 32] a0.id) fun v8 =>
  bO (appO v8 [32]) fun v9 =>
  bO (appO v9 a0.image) fun v10 =>
  bO (appO v10 [32]) fun v11 =>
  bO (g_ref05_Print a0.size) fun v12 =>
  bO (appO v11 v12) fun v13 =>
  bO (appO v13 [32]) fun v14 =>
  bO (g_ref26_Digits a0.prio) fun v15 =>
  bO (appO v14 v15) fun v16 =>
  bO (appO v16 [32]) fun v17 =>
  bO (appO v17 x7) fun v18 =>
  bO (appO v18 v1.1) fun v19 =>
  bO (appO v19 x6) fun v20 =>
  some (v20, true)
def g_ref26_admit_k1 (a0 : SPod) (v1 : (List UInt8) × Bool) (x6 : List UInt8) : Option ((List UInt8) × Bool) :=
  bif a0.critical then
    g_ref26_admit_k2 a0 v1 x6 [99, 114, 105, 116, 105, 99, 97, 108]
  else
    g_ref26_admit_k2 a0 v1 x6 [112, 108, 97, 105, 110]
def g_ref26_admit (a0 : SPod) : Option ((List UInt8) × Bool) :=
  bO (g_ref26_three a0.req) fun v1 =>
  bO (g_ref26_three a0.lim) fun v2 =>
  bO (bif (((!v1.2) || (!v2.2)) || (decide (a0.size < 0))) then some default else (g_ref26_far a0.prio)) fun v3 =>
  bO (bif ((((!v1.2) || (!v2.2)) || (decide (a0.size < 0))) || v3) then some default else (g_ref26_Word a0.id)) fun v4 =>
  bO (bif (((((!v1.2) || (!v2.2)) || (decide (a0.size < 0))) || v3) || (!v4)) then some default else (g_ref26_Word a0.image)) fun v5 =>
  bif (((((!v1.2) || (!v2.2)) || (decide (a0.size < 0))) || v3) || (!v4)) || (!v5) then
    some (([] : List UInt8), false)
  else
    bif q3_Int a0.lim (⟨0, 0, 0⟩ : V3 Int) then
      g_ref26_admit_k1 a0 v1 ([] : List UInt8)
    else
      g_ref26_admit_k1 a0 v1 v2.1
theorem g_ref26_admit_w {a0 : SPod} {r : (List UInt8) × Bool} (h : g_ref26_admit a0 = some r) : PCall Tryz.prog 51 [eSPod a0] (.tuple [.str r.1, zB r.2]) := by
  refine PCall.body Tryz.func51 rfl rfl rfl rfl fun base => ?_
  unfold g_ref26_admit at h
  refine CWp.seq ?_
  refine CWp.region ?_
  refine rn 3 rfl ?_
  refine COps.done [1] [1] rfl ?_
  refine CWp.seq ?_
  refine CWp.region ?_
  refine rn 2 rfl ?_
  obtain ⟨v1, hv1, h⟩ := bI h
  refine pCall Tryz.call95 (g_ref26_three_w hv1) rfl ?_
  refine rn 5 rfl ?_
  refine COps.done [1, 4, 5] [1] rfl ?_
  refine CWp.seq ?_
  refine CWp.region ?_
  refine rn 2 rfl ?_
  obtain ⟨v2, hv2, h⟩ := bI h
  refine pCall Tryz.call95 (g_ref26_three_w hv2) rfl ?_
  refine rn 5 rfl ?_
  refine COps.done [1, 4, 5, 6, 7] [1] rfl ?_
  refine CWp.seq ?_
  refine CWp.seq ?_
  refine CWp.region ?_
  refine rn 14 rfl ?_
  refine COps.keepG [1, 4, 6, 32, 34] rfl ?_
  obtain ⟨v3, hv3, h⟩ := bI h
  refine pCallg 32 false [] Tryz.call53 (fun ht => g_ref26_far_w (gdf hv3 (ht.1 _ rfl))) rfl ?_
  refine rn 4 rfl ?_
  refine COps.keepG [1, 4, 6, 37, 39] rfl ?_
  obtain ⟨v4, hv4, h⟩ := bI h
  refine pCallg 37 false [] Tryz.call15 (fun ht => g_ref26_Word_w (gdf hv4 (ht.1 _ rfl))) rfl ?_
  refine rn 5 rfl ?_
  refine COps.keepG [1, 4, 6, 43, 45] rfl ?_
  obtain ⟨v5, hv5, h⟩ := bI h
  refine pCallg 43 false [] Tryz.call15 (fun ht => g_ref26_Word_w (gdf hv5 (ht.1 _ rfl))) rfl ?_
  refine rn 2 rfl ?_
  refine COps.done [1, 4, 6, 48] [1] rfl ?_
  refine CWp.cond h rfl (fun h => ?_) (fun h => ?_)
  · refine CWp.seq ?_
    refine CWp.region ?_
    refine rn 2 rfl ?_
    refine COps.done [2, 3] [] rfl ?_
    refine CWp.ret ?_
    cases h
    exact ⟨.inl rfl, rfl, rfl⟩
  · refine CWp.skip ?_
    refine CWp.mid (fun e => ∃ x6, e = ⟨[(1, [], .lptr 1 0), (4, [], .str v1.1), (6, [], .str x6)], [], [(1, [.str a0.id, zI a0.prio, zB a0.critical, zI a0.req.a, zI a0.req.b, zI a0.req.c, zI a0.lim.a, zI a0.lim.b, zI a0.lim.c, .str a0.image, zI a0.size])], [], base⟩ ∧ g_ref26_admit_k1 a0 v1 x6 = some r) ?_ ?_
    · refine CWp.seq ?_
      refine CWp.region ?_
      refine rn 3 rfl ?_
      refine rd (rEq (a := a0.lim) (b := (⟨0, 0, 0⟩ : V3 Int)) Eq3_Int) ?_
      refine COps.done [1, 4, 6, 52] [1] rfl ?_
      refine CWp.cond h rfl (fun h => ?_) (fun h => ?_)
      · refine CWp.region ?_
        refine rn 1 rfl ?_
        refine COps.done [1, 4, 6] [1] rfl ?_
        exact ⟨_, rfl, h⟩
      · refine CWp.keep [1, 4, 6] [1] rfl ?_
        refine CWp.skip ?_
        exact ⟨_, rfl, h⟩
    · rintro _ ⟨x6, rfl, h⟩
      unfold g_ref26_admit_k1 at h
      refine CWp.seq ?_
      refine CWp.region ?_
      refine rn 1 rfl ?_
      refine COps.done [1, 4, 6, 8] [1] rfl ?_
      refine CWp.mid (fun e => ∃ x7, e = ⟨[(1, [], .lptr 1 0), (4, [], .str v1.1), (6, [], .str x6), (8, [], .str x7)], [], [(1, [.str a0.id, zI a0.prio, zB a0.critical, zI a0.req.a, zI a0.req.b, zI a0.req.c, zI a0.lim.a, zI a0.lim.b, zI a0.lim.c, .str a0.image, zI a0.size])], [], base⟩ ∧ g_ref26_admit_k2 a0 v1 x6 x7 = some r) ?_ ?_
      · refine CWp.seq ?_
        refine CWp.region ?_
        refine rn 2 rfl ?_
        refine COps.done [1, 4, 6, 8, 54] [1] rfl ?_
        refine CWp.cond h rfl (fun h => ?_) (fun h => ?_)
        · refine CWp.region ?_
          refine rn 1 rfl ?_
          refine COps.done [1, 4, 6, 8] [1] rfl ?_
          exact ⟨_, rfl, h⟩
        · refine CWp.keep [1, 4, 6, 8] [1] rfl ?_
          refine CWp.skip ?_
          exact ⟨_, rfl, h⟩
      · rintro _ ⟨x7, rfl, h⟩
        unfold g_ref26_admit_k2 at h
        refine CWp.seq ?_
        refine CWp.drawn 26 (by kernel_rfl) ?_
        obtain ⟨v8, hv8, h⟩ := bI h
        refine pn 2 rfl ?_
        refine pd (rCat hv8) ?_
        obtain ⟨v9, hv9, h⟩ := bI h
        refine pd (rCat hv9) ?_
        obtain ⟨v10, hv10, h⟩ := bI h
        refine pn 2 rfl ?_
        refine pd (rCat hv10) ?_
        obtain ⟨v11, hv11, h⟩ := bI h
        refine pd (rCat hv11) ?_
        refine pn 2 rfl ?_
        obtain ⟨v12, hv12, h⟩ := bI h
        refine qCall Tryz.call41 (g_ref05_Print_w hv12) rfl ?_
        obtain ⟨v13, hv13, h⟩ := bI h
        refine pd (rCat hv13) ?_
        obtain ⟨v14, hv14, h⟩ := bI h
        refine pd (rCat hv14) ?_
        refine pn 2 rfl ?_
        obtain ⟨v15, hv15, h⟩ := bI h
        refine qCall Tryz.call28 (g_ref26_Digits_w hv15) rfl ?_
        obtain ⟨v16, hv16, h⟩ := bI h
        refine pd (rCat hv16) ?_
        obtain ⟨v17, hv17, h⟩ := bI h
        refine pd (rCat hv17) ?_
        obtain ⟨v18, hv18, h⟩ := bI h
        refine pn 1 rfl ?_
        refine pd (rCat hv18) ?_
        obtain ⟨v19, hv19, h⟩ := bI h
        refine pn 1 rfl ?_
        refine pd (rCat hv19) ?_
        obtain ⟨v20, hv20, h⟩ := bI h
        refine pn 1 rfl ?_
        refine pd (rCat hv20) ?_
        refine pn 2 rfl ?_
        refine COpsE.nil ?_
        refine COps.done [2, 3] [] rfl ?_
        refine CWp.ret ?_
        cases h
        exact ⟨.inl rfl, rfl, rfl⟩
def g_ref26_shown_k1 (x1 : List UInt8) : Option ((List UInt8) × Bool) :=
  some (x1, true)
def g_ref26_shown (a0 : V3 Nat) : Option ((List UInt8) × Bool) :=
  bO (g_ref26_Show a0.a) fun v2 =>
  bif !v2.2 then
    some (([] : List UInt8), false)
  else
    bO (appO ([] : List UInt8) [32]) fun v3 =>
    bO (appO v3 v2.1) fun v4 =>
    bO (g_ref26_Show a0.b) fun v5 =>
    bif !v5.2 then
      some (([] : List UInt8), false)
    else
      bO (appO v4 [32]) fun v6 =>
      bO (appO v6 v5.1) fun v7 =>
      bO (g_ref26_Show a0.c) fun v8 =>
      bif !v8.2 then
        some (([] : List UInt8), false)
      else
        bO (appO v7 [32]) fun v9 =>
        bO (appO v9 v8.1) fun v10 =>
        g_ref26_shown_k1 v10
theorem g_ref26_shown_w {a0 : V3 Nat} {r : (List UInt8) × Bool} (h : g_ref26_shown a0 = some r) : PCall Tryz.prog 96 [e3_Nat a0] (.tuple [.str r.1, zB r.2]) := by
  refine PCall.body Tryz.func96 rfl rfl rfl rfl fun base => ?_
  unfold g_ref26_shown at h
  refine CWp.seq ?_
  refine CWp.region ?_
  refine rn 3 rfl ?_
  refine COps.done [1] [1] rfl ?_
  refine CWp.seq ?_
  refine CWp.region ?_
  refine rn 1 rfl ?_
  refine COps.done [1, 4] [1] rfl ?_
  refine CWp.mid (fun e => ∃ x1, e = ⟨[(4, [], .str x1)], [], [], [], base⟩ ∧ g_ref26_shown_k1 x1 = some r) ?_ ?_
  · refine CWp.seq ?_
    refine CWp.region ?_
    refine rn 1 rfl ?_
    refine COps.done [1, 4, 5] [1] rfl ?_
    refine CWp.block ?_
    refine CWp.unroll 4 ?_
    refine crd ?_
    refine CWp.seq ?_
    refine CWp.seq ?_
    refine CWp.region ?_
    refine rn 2 rfl ?_
    refine COps.done [1, 4, 5, 9] [1] rfl ?_
    refine CWp.condT rfl (by decide) ?_
    refine CWp.skip ?_
    refine CWp.seq ?_
    refine CWp.block ?_
    refine CWp.seq ?_
    refine CWp.region ?_
    refine rn 3 rfl ?_
    obtain ⟨v2, hv2, h⟩ := bI h
    refine pCall Tryz.call19 (g_ref26_Show_w hv2) rfl ?_
    refine rn 5 rfl ?_
    refine COps.done [1, 4, 5, 6, 7] [1] rfl ?_
    refine CWp.seq ?_
    refine CWp.seq ?_
    refine CWp.region ?_
    refine rn 2 rfl ?_
    refine COps.done [1, 4, 5, 6, 20] [1] rfl ?_
    refine CWp.cond h rfl (fun h => ?_) (fun h => ?_)
    · refine CWp.seq ?_
      refine CWp.region ?_
      refine rn 2 rfl ?_
      refine COps.done [2, 3] [] rfl ?_
      refine CWp.ret ?_
      cases h
      exact ⟨.inl rfl, rfl, rfl⟩
    · refine CWp.skip ?_
      refine CWp.region ?_
      obtain ⟨v3, hv3, h⟩ := bI h
      refine rn 1 rfl ?_
      refine rd (rCat hv3) ?_
      obtain ⟨v4, hv4, h⟩ := bI h
      refine rn 1 rfl ?_
      refine rd (rCat hv4) ?_
      refine rn 1 rfl ?_
      refine COps.done [1, 4, 5] [1] rfl ?_
      refine CWp.region ?_
      refine rn 3 rfl ?_
      refine COps.done [1, 4, 5] [1] rfl ?_
      refine crd ?_
      refine CWp.seq ?_
      refine CWp.seq ?_
      refine CWp.region ?_
      refine rn 2 rfl ?_
      refine COps.done [1, 4, 5, 9] [1] rfl ?_
      refine CWp.condT rfl (by decide) ?_
      refine CWp.skip ?_
      refine CWp.seq ?_
      refine CWp.block ?_
      refine CWp.seq ?_
      refine CWp.region ?_
      refine rn 3 rfl ?_
      obtain ⟨v5, hv5, h⟩ := bI h
      refine pCall Tryz.call19 (g_ref26_Show_w hv5) rfl ?_
      refine rn 5 rfl ?_
      refine COps.done [1, 4, 5, 6, 7] [1] rfl ?_
      refine CWp.seq ?_
      refine CWp.seq ?_
      refine CWp.region ?_
      refine rn 2 rfl ?_
      refine COps.done [1, 4, 5, 6, 20] [1] rfl ?_
      refine CWp.cond h rfl (fun h => ?_) (fun h => ?_)
      · refine CWp.seq ?_
        refine CWp.region ?_
        refine rn 2 rfl ?_
        refine COps.done [2, 3] [] rfl ?_
        refine CWp.ret ?_
        cases h
        exact ⟨.inl rfl, rfl, rfl⟩
      · refine CWp.skip ?_
        refine CWp.region ?_
        obtain ⟨v6, hv6, h⟩ := bI h
        refine rn 1 rfl ?_
        refine rd (rCat hv6) ?_
        obtain ⟨v7, hv7, h⟩ := bI h
        refine rn 1 rfl ?_
        refine rd (rCat hv7) ?_
        refine rn 1 rfl ?_
        refine COps.done [1, 4, 5] [1] rfl ?_
        refine CWp.region ?_
        refine rn 3 rfl ?_
        refine COps.done [1, 4, 5] [1] rfl ?_
        refine crd ?_
        refine CWp.seq ?_
        refine CWp.seq ?_
        refine CWp.region ?_
        refine rn 2 rfl ?_
        refine COps.done [1, 4, 5, 9] [1] rfl ?_
        refine CWp.condT rfl (by decide) ?_
        refine CWp.skip ?_
        refine CWp.seq ?_
        refine CWp.block ?_
        refine CWp.seq ?_
        refine CWp.region ?_
        refine rn 3 rfl ?_
        obtain ⟨v8, hv8, h⟩ := bI h
        refine pCall Tryz.call19 (g_ref26_Show_w hv8) rfl ?_
        refine rn 5 rfl ?_
        refine COps.done [1, 4, 5, 6, 7] [1] rfl ?_
        refine CWp.seq ?_
        refine CWp.seq ?_
        refine CWp.region ?_
        refine rn 2 rfl ?_
        refine COps.done [1, 4, 5, 6, 20] [1] rfl ?_
        refine CWp.cond h rfl (fun h => ?_) (fun h => ?_)
        · refine CWp.seq ?_
          refine CWp.region ?_
          refine rn 2 rfl ?_
          refine COps.done [2, 3] [] rfl ?_
          refine CWp.ret ?_
          cases h
          exact ⟨.inl rfl, rfl, rfl⟩
        · refine CWp.skip ?_
          refine CWp.region ?_
          obtain ⟨v9, hv9, h⟩ := bI h
          refine rn 1 rfl ?_
          refine rd (rCat hv9) ?_
          obtain ⟨v10, hv10, h⟩ := bI h
          refine rn 1 rfl ?_
          refine rd (rCat hv10) ?_
          refine rn 1 rfl ?_
          refine COps.done [1, 4, 5] [1] rfl ?_
          refine CWp.region ?_
          refine rn 3 rfl ?_
          refine COps.done [1, 4, 5] [1] rfl ?_
          refine crd ?_
          refine CWp.seq ?_
          refine CWp.seq ?_
          refine CWp.region ?_
          refine rn 2 rfl ?_
          refine COps.done [1, 4, 5, 9] [1] rfl ?_
          refine CWp.condF rfl (by decide) ?_
          refine CWp.keep [4] [] rfl ?_
          refine CWp.exit ?_
          exact ⟨_, rfl, h⟩
  · rintro _ ⟨x1, rfl, h⟩
    unfold g_ref26_shown_k1 at h
    refine CWp.seq ?_
    refine CWp.region ?_
    refine rn 3 rfl ?_
    refine COps.done [2, 3] [] rfl ?_
    refine CWp.ret ?_
    cases h
    exact ⟨.inl rfl, rfl, rfl⟩
def g_ref26_sample_k1 (x6 : List UInt8) : Option ((List UInt8) × Bool) :=
  some (x6, true)
def g_ref26_sample_l2 (a0 : SRaw) (k290 : (List UInt8) → Option ((List UInt8) × Bool)) : Nat → (List UInt8) → Int → Option ((List UInt8) × Bool)
  | 0, _, _ => none
  | m2 + 1, x7, x8 =>
    bif decide (x8 < (a0.use.length : Int)) then
      bO (idx a0.use x8) fun v9 =>
      bO (g_ref26_shown v9.amount) fun v10 =>
      bO (bif (!v10.2) then some default else (idx a0.use x8)) fun v11 =>
      bO (bif (!v10.2) then some default else (g_ref26_Word v11.id)) fun v12 =>
      bif (!v10.2) || (!v12) then
        some (([] : List UInt8), false)
      else
        bO (appO x7 [32]) fun v13 =>
        bO (idx a0.use x8) fun v14 =>
        bO (appO v13 v14.id) fun v15 =>
        bO (appO v15 v10.1) fun v16 =>
        (g_ref26_sample_l2 a0 k290 m2) v16 (w64 (x8 + 1))
    else
      k290 x7
def g_ref26_sample (a0 : SRaw) : Option ((List UInt8) × Bool) :=
  bO (g_ref26_shown a0.avail) fun v1 =>
  bO (bif (!v1.2) then some default else (g_ref26_far a0.time)) fun v2 =>
  bif (!v1.2) || v2 then
    some (([] : List UInt8), false)
  else
    bO (g_ref26_Digits a0.time) fun v3 =>
    bO (appO [115, 97, 109, 112, 108, 101, 32] v3) fun v4 =>
    bO (appO v4 v1.1) fun v5 =>
    g_ref26_sample_l2 a0 g_ref26_sample_k1 FUEL v5 0
theorem g_ref26_sample_w {a0 : SRaw} {r : (List UInt8) × Bool} (h : g_ref26_sample a0 = some r) : PCall Tryz.prog 52 [eSRaw a0] (.tuple [.str r.1, zB r.2]) := by
  refine PCall.body Tryz.func52 rfl rfl rfl rfl fun base => ?_
  unfold g_ref26_sample at h
  refine CWp.seq ?_
  refine CWp.region ?_
  refine rn 3 rfl ?_
  refine COps.done [1] [1] rfl ?_
  refine CWp.seq ?_
  refine CWp.region ?_
  refine rn 2 rfl ?_
  obtain ⟨v1, hv1, h⟩ := bI h
  refine pCall Tryz.call96 (g_ref26_shown_w hv1) rfl ?_
  refine rn 5 rfl ?_
  refine COps.done [1, 4, 5] [1] rfl ?_
  refine CWp.seq ?_
  refine CWp.seq ?_
  refine CWp.region ?_
  refine rn 5 rfl ?_
  obtain ⟨v2, hv2, h⟩ := bI h
  refine pCallg 17 false [] Tryz.call53 (fun ht => g_ref26_far_w (gdf hv2 (ht.1 _ rfl))) rfl ?_
  refine rn 1 rfl ?_
  refine COps.done [1, 4, 21] [1] rfl ?_
  refine CWp.cond h rfl (fun h => ?_) (fun h => ?_)
  · refine CWp.seq ?_
    refine CWp.region ?_
    refine rn 2 rfl ?_
    refine COps.done [2, 3] [] rfl ?_
    refine CWp.ret ?_
    cases h
    exact ⟨.inl rfl, rfl, rfl⟩
  · refine CWp.skip ?_
    refine CWp.seq ?_
    refine CWp.region ?_
    refine rn 2 rfl ?_
    obtain ⟨v3, hv3, h⟩ := bI h
    refine pCall Tryz.call28 (g_ref26_Digits_w hv3) rfl ?_
    obtain ⟨v4, hv4, h⟩ := bI h
    refine rd (rCat hv4) ?_
    obtain ⟨v5, hv5, h⟩ := bI h
    refine rn 1 rfl ?_
    refine rd (rCat hv5) ?_
    refine rn 1 rfl ?_
    refine COps.done [1, 4] [1] rfl ?_
    refine CWp.mid (fun e => ∃ x6, e = ⟨[(4, [], .str x6)], [], [], [], base⟩ ∧ g_ref26_sample_k1 x6 = some r) ?_ ?_
    · refine CWp.seq ?_
      refine CWp.region ?_
      refine rn 1 rfl ?_
      refine COps.done [1, 4, 6] [1] rfl ?_
      refine CWp.block ?_
      refine CWp.loop (fun m2 e => ∃ x7 x8, e = ⟨[(1, [], .lptr 1 0), (4, [], .str x7), (6, [], zI x8)], [], [(1, [zI a0.time, zF a0.avail.a, zF a0.avail.b, zF a0.avail.c, .list false 114 (a0.use.map eSUsage)])], [], base⟩ ∧ g_ref26_sample_l2 a0 (g_ref26_sample_k1) m2 x7 x8 = some r) FUEL ⟨_, _, rfl, h⟩ ?_ ?_
      · rintro m2 _ ⟨x7, x8, rfl, h⟩
        rw [g_ref26_sample_l2] at h
        refine CWp.seq ?_
        refine CWp.seq ?_
        refine CWp.region ?_
        refine rh 5 [a0.use.length] [] rfl ⟨List.length_map .., trivial⟩ ?_
        refine COps.done [1, 4, 6, 32] [1] rfl ?_
        refine CWp.cond h rfl (fun h => ?_) (fun h => ?_)
        · refine CWp.skip ?_
          refine CWp.seq ?_
          refine CWp.block ?_
          refine CWp.seq ?_
          refine CWp.region ?_
          obtain ⟨v9, hv9, h⟩ := bI h
          refine rn 3 rfl ?_
          refine rd (rIx hv9) ?_
          refine rn 2 rfl ?_
          obtain ⟨v10, hv10, h⟩ := bI h
          refine pCall Tryz.call96 (g_ref26_shown_w hv10) rfl ?_
          refine rn 5 rfl ?_
          refine COps.done [1, 4, 6, 7, 8] [1] rfl ?_
          refine CWp.seq ?_
          refine CWp.seq ?_
          refine CWp.region ?_
          obtain ⟨v11, hv11, h⟩ := bI h
          refine rn 6 rfl ?_
          refine rdg 47 false [] (fun ht => rIx (gdf hv11 (ht.1 _ rfl))) ?_
          refine rn 2 rfl ?_
          obtain ⟨v12, hv12, h⟩ := bI h
          refine pCallg 47 false [] Tryz.call15 (fun ht => g_ref26_Word_w (gdf hv12 (ht.1 _ rfl))) rfl ?_
          refine rn 2 rfl ?_
          refine COps.done [1, 4, 6, 7, 56] [1] rfl ?_
          refine CWp.cond h rfl (fun h => ?_) (fun h => ?_)
          · refine CWp.seq ?_
            refine CWp.region ?_
            refine rn 2 rfl ?_
            refine COps.done [2, 3] [] rfl ?_
            refine CWp.ret ?_
            cases h
            exact ⟨.inl rfl, rfl, rfl⟩
          · refine CWp.skip ?_
            refine CWp.region ?_
            obtain ⟨v13, hv13, h⟩ := bI h
            refine rn 1 rfl ?_
            refine rd (rCat hv13) ?_
            obtain ⟨v14, hv14, h⟩ := bI h
            refine rn 3 rfl ?_
            refine rd (rIx hv14) ?_
            obtain ⟨v15, hv15, h⟩ := bI h
            refine rn 2 rfl ?_
            refine rd (rCat hv15) ?_
            obtain ⟨v16, hv16, h⟩ := bI h
            refine rn 1 rfl ?_
            refine rd (rCat hv16) ?_
            refine rn 1 rfl ?_
            refine COps.done [1, 4, 6] [1] rfl ?_
            refine CWp.region ?_
            refine rn 3 rfl ?_
            refine COps.done [1, 4, 6] [1] rfl ?_
            exact ⟨_, _, rfl, h⟩
        · refine CWp.keep [4] [] rfl ?_
          refine CWp.exit ?_
          exact ⟨_, rfl, h⟩
      · rintro _ ⟨_, _, _, h⟩
        rw [g_ref26_sample_l2] at h; cases h
    · rintro _ ⟨x6, rfl, h⟩
      unfold g_ref26_sample_k1 at h
      refine CWp.seq ?_
      refine CWp.region ?_
      refine rn 3 rfl ?_
      refine COps.done [2, 3] [] rfl ?_
      refine CWp.ret ?_
      cases h
      exact ⟨.inl rfl, rfl, rfl⟩
def g_ref26_One_k2 (x9 : List UInt8) : Option ((List UInt8) × Bool) :=
  some (x9, true)
def g_ref26_One_l3 (a0 : SAct) (k390 : (List UInt8) → Option ((List UInt8) × Bool)) : Nat → (List UInt8) → Int → Option ((List UInt8) × Bool)
  | 0, _, _ => none
  | m3 + 1, x10, x11 =>
    bif decide (x11 < (a0.keep.length : Int)) then
      bO (idx a0.keep x11) fun v12 =>
      bO (g_ref26_far v12) fun v13 =>
      bif v13 then
        some (([] : List UInt8), false)
      else
        bO (appO x10 [32]) fun v14 =>
        bO (idx a0.keep x11) fun v15 =>
        bO (g_ref26_Digits v15) fun v16 =>
        bO (appO v14 v16) fun v17 =>
        (g_ref26_One_l3 a0 k390 m3) v17 (w64 (x11 + 1))
    else
      k390 x10
def g_ref26_One_k1 (a0 : SAct) : Option ((List UInt8) × Bool) :=
  bO (bif (a0.do_ != 6) then some default else (g_ref26_far a0.steps)) fun v6 =>
  bif (a0.do_ != 6) || v6 then
    some (([] : List UInt8), false)
  else
    bO (g_ref26_Digits a0.steps) fun v7 =>
    bO (appO [99, 114, 97, 115, 104, 32] v7) fun v8 =>
    g_ref26_One_l3 a0 g_ref26_One_k2 FUEL v8 0
def g_ref26_One_k4 (x18 : List UInt8) : Option ((List UInt8) × Bool) :=
  some (x18, true)
def g_ref26_One_k6 (x20 : Int) (q5 : (List UInt8) → Int → Option ((List UInt8) × Bool)) (x21 : List UInt8) : Option ((List UInt8) × Bool) :=
  q5 x21 (w64 (x20 + 1))
def g_ref26_One_l5 (a0 : SAct) (k590 : (List UInt8) → Option ((List UInt8) × Bool)) : Nat → (List UInt8) → Int → Option ((List UInt8) × Bool)
  | 0, _, _ => none
  | m5 + 1, x19, x20 =>
    bif decide (x20 < (a0.well.length : Int)) then
      bO (idx a0.well x20) fun v22 =>
      bif v22 then
        bO (appO x19 [32, 111, 107]) fun v23 =>
        g_ref26_One_k6 x20 (g_ref26_One_l5 a0 k590 m5) v23
      else
        bO (appO x19 [32, 98, 97, 100]) fun v24 =>
        g_ref26_One_k6 x20 (g_ref26_One_l5 a0 k590 m5) v24
    else
      k590 x19
def g_ref26_One (a0 : SAct) : Option ((List UInt8) × Bool) :=
  bO (g_ref26_bare a0) fun v1 =>
  bif !v1 then
    some (([] : List UInt8), false)
  else
    bif a0.do_ == 1 then
      bO (g_ref26_admit a0.pod) fun v2 =>
      some (v2.1, v2.2)
    else
      bif a0.do_ == 2 then
        bO (appO [100, 101, 108, 101, 116, 101, 32] a0.id) fun v3 =>
        bO (g_ref26_Word a0.id) fun v4 =>
        some (v3, v4)
      else
        bif a0.do_ == 3 then
          some ([116, 105, 99, 107], true)
        else
          bif a0.do_ == 4 then
            bO (g_ref26_sample a0.raw) fun v5 =>
            some (v5.1, v5.2)
          else
            bif a0.do_ == 5 then
              g_ref26_One_l5 a0 g_ref26_One_k4 FUEL [102, 101, 101, 100] 0
            else
              g_ref26_One_k1 a0
theorem g_ref26_One_w {a0 : SAct} {r : (List UInt8) × Bool} (h : g_ref26_One a0 = some r) : PCall Tryz.prog 27 [eSAct a0] (.tuple [.str r.1, zB r.2]) := by
  refine PCall.body Tryz.func27 rfl rfl rfl rfl fun base => ?_
  unfold g_ref26_One at h
  refine CWp.seq ?_
  refine CWp.region ?_
  refine rn 3 rfl ?_
  refine COps.done [1] [1] rfl ?_
  refine CWp.seq ?_
  refine CWp.seq ?_
  refine CWp.region ?_
  refine rn 1 rfl ?_
  obtain ⟨v1, hv1, h⟩ := bI h
  refine pCall Tryz.call50 (g_ref26_bare_w hv1) rfl ?_
  refine rn 1 rfl ?_
  refine COps.done [1, 10] [1] rfl ?_
  refine CWp.cond h rfl (fun h => ?_) (fun h => ?_)
  · refine CWp.seq ?_
    refine CWp.region ?_
    refine rn 2 rfl ?_
    refine COps.done [2, 3] [] rfl ?_
    refine CWp.ret ?_
    cases h
    exact ⟨.inl rfl, rfl, rfl⟩
  · refine CWp.skip ?_
    refine CWp.seq ?_
    refine CWp.seq ?_
    refine CWp.region ?_
    refine rn 3 rfl ?_
    refine COps.done [1, 13] [1] rfl ?_
    refine CWp.cond h rfl (fun h => ?_) (fun h => ?_)
    · refine CWp.seq ?_
      refine CWp.region ?_
      refine rn 2 rfl ?_
      obtain ⟨v2, hv2, h⟩ := bI h
      refine pCall Tryz.call51 (g_ref26_admit_w hv2) rfl ?_
      refine rn 4 rfl ?_
      refine COps.done [2, 3] [] rfl ?_
      refine CWp.ret ?_
      cases h
      exact ⟨.inl rfl, rfl, rfl⟩
    · refine CWp.skip ?_
      refine CWp.seq ?_
      refine CWp.seq ?_
      refine CWp.region ?_
      refine rn 3 rfl ?_
      refine COps.done [1, 21] [1] rfl ?_
      refine CWp.cond h rfl (fun h => ?_) (fun h => ?_)
      · refine CWp.seq ?_
        refine CWp.drawn 8 (by kernel_rfl) ?_
        obtain ⟨v3, hv3, h⟩ := bI h
        refine pn 2 rfl ?_
        refine pd (rCat hv3) ?_
        refine pn 2 rfl ?_
        obtain ⟨v4, hv4, h⟩ := bI h
        refine qCall Tryz.call15 (g_ref26_Word_w hv4) rfl ?_
        refine pn 2 rfl ?_
        refine COpsE.nil ?_
        refine COps.done [2, 3] [] rfl ?_
        refine CWp.ret ?_
        cases h
        exact ⟨.inl rfl, rfl, rfl⟩
      · refine CWp.skip ?_
        refine CWp.seq ?_
        refine CWp.seq ?_
        refine CWp.region ?_
        refine rn 3 rfl ?_
        refine COps.done [1, 30] [1] rfl ?_
        refine CWp.cond h rfl (fun h => ?_) (fun h => ?_)
        · refine CWp.seq ?_
          refine CWp.region ?_
          refine rn 2 rfl ?_
          refine COps.done [2, 3] [] rfl ?_
          refine CWp.ret ?_
          cases h
          exact ⟨.inl rfl, rfl, rfl⟩
        · refine CWp.skip ?_
          refine CWp.seq ?_
          refine CWp.seq ?_
          refine CWp.region ?_
          refine rn 3 rfl ?_
          refine COps.done [1, 33] [1] rfl ?_
          refine CWp.cond h rfl (fun h => ?_) (fun h => ?_)
          · refine CWp.seq ?_
            refine CWp.region ?_
            refine rn 2 rfl ?_
            obtain ⟨v5, hv5, h⟩ := bI h
            refine pCall Tryz.call52 (g_ref26_sample_w hv5) rfl ?_
            refine rn 4 rfl ?_
            refine COps.done [2, 3] [] rfl ?_
            refine CWp.ret ?_
            cases h
            exact ⟨.inl rfl, rfl, rfl⟩
          · refine CWp.skip ?_
            refine CWp.mid (fun e => e = ⟨[(1, [], .lptr 1 0)], [], [(1, [zI a0.do_, .str a0.pod.id, zI a0.pod.prio, zB a0.pod.critical, zI a0.pod.req.a, zI a0.pod.req.b, zI a0.pod.req.c, zI a0.pod.lim.a, zI a0.pod.lim.b, zI a0.pod.lim.c, .str a0.pod.image, zI a0.pod.size, .str a0.id, zI a0.raw.time, zF a0.raw.avail.a, zF a0.raw.avail.b, zF a0.raw.avail.c, .list false 114 (a0.raw.use.map eSUsage), .list false 4 (a0.well.map zB), zI a0.steps, .list false 3 (a0.keep.map zI)])], [], base⟩ ∧ g_ref26_One_k1 a0 = some r) ?_ ?_
            · refine CWp.seq ?_
              refine CWp.region ?_
              refine rn 3 rfl ?_
              refine COps.done [1, 41] [1] rfl ?_
              refine CWp.cond h rfl (fun h => ?_) (fun h => ?_)
              · refine CWp.seq ?_
                refine CWp.region ?_
                refine rn 1 rfl ?_
                refine COps.done [1, 4] [1] rfl ?_
                refine CWp.mid (fun e => ∃ x18, e = ⟨[(4, [], .str x18)], [], [], [], base⟩ ∧ g_ref26_One_k4 x18 = some r) ?_ ?_
                · refine CWp.seq ?_
                  refine CWp.region ?_
                  refine rn 1 rfl ?_
                  refine COps.done [1, 4, 5] [1] rfl ?_
                  refine CWp.block ?_
                  refine CWp.loop (fun m5 e => ∃ x19 x20, e = ⟨[(1, [], .lptr 1 0), (4, [], .str x19), (5, [], zI x20)], [], [(1, [zI a0.do_, .str a0.pod.id, zI a0.pod.prio, zB a0.pod.critical, zI a0.pod.req.a, zI a0.pod.req.b, zI a0.pod.req.c, zI a0.pod.lim.a, zI a0.pod.lim.b, zI a0.pod.lim.c, .str a0.pod.image, zI a0.pod.size, .str a0.id, zI a0.raw.time, zF a0.raw.avail.a, zF a0.raw.avail.b, zF a0.raw.avail.c, .list false 114 (a0.raw.use.map eSUsage), .list false 4 (a0.well.map zB), zI a0.steps, .list false 3 (a0.keep.map zI)])], [], base⟩ ∧ g_ref26_One_l5 a0 (g_ref26_One_k4) m5 x19 x20 = some r) FUEL ⟨_, _, rfl, h⟩ ?_ ?_
                  · rintro m5 _ ⟨x19, x20, rfl, h⟩
                    rw [g_ref26_One_l5] at h
                    refine CWp.seq ?_
                    refine CWp.seq ?_
                    refine CWp.region ?_
                    refine rh 5 [a0.well.length] [] rfl ⟨List.length_map .., trivial⟩ ?_
                    refine COps.done [1, 4, 5, 46] [1] rfl ?_
                    refine CWp.cond h rfl (fun h => ?_) (fun h => ?_)
                    · refine CWp.skip ?_
                      refine CWp.mid (fun e => ∃ x21, e = ⟨[(1, [], .lptr 1 0), (4, [], .str x21), (5, [], zI x20)], [], [(1, [zI a0.do_, .str a0.pod.id, zI a0.pod.prio, zB a0.pod.critical, zI a0.pod.req.a, zI a0.pod.req.b, zI a0.pod.req.c, zI a0.pod.lim.a, zI a0.pod.lim.b, zI a0.pod.lim.c, .str a0.pod.image, zI a0.pod.size, .str a0.id, zI a0.raw.time, zF a0.raw.avail.a, zF a0.raw.avail.b, zF a0.raw.avail.c, .list false 114 (a0.raw.use.map eSUsage), .list false 4 (a0.well.map zB), zI a0.steps, .list false 3 (a0.keep.map zI)])], [], base⟩ ∧ g_ref26_One_k6 x20 (g_ref26_One_l5 a0 (g_ref26_One_k4) m5) x21 = some r) ?_ ?_
                      · refine CWp.block ?_
                        refine CWp.seq ?_
                        refine CWp.region ?_
                        obtain ⟨v22, hv22, h⟩ := bI h
                        refine rn 3 rfl ?_
                        refine rd (rIx hv22) ?_
                        refine rn 1 rfl ?_
                        refine COps.done [1, 4, 5, 53] [1] rfl ?_
                        refine CWp.cond h rfl (fun h => ?_) (fun h => ?_)
                        · refine CWp.region ?_
                          obtain ⟨v23, hv23, h⟩ := bI h
                          refine rn 1 rfl ?_
                          refine rd (rCat hv23) ?_
                          refine rn 1 rfl ?_
                          refine COps.done [1, 4, 5] [1] rfl ?_
                          exact ⟨_, rfl, h⟩
                        · refine CWp.region ?_
                          obtain ⟨v24, hv24, h⟩ := bI h
                          refine rn 1 rfl ?_
                          refine rd (rCat hv24) ?_
                          refine rn 1 rfl ?_
                          refine COps.done [1, 4, 5] [1] rfl ?_
                          exact ⟨_, rfl, h⟩
                      · rintro _ ⟨x21, rfl, h⟩
                        unfold g_ref26_One_k6 at h
                        refine CWp.region ?_
                        refine rn 3 rfl ?_
                        refine COps.done [1, 4, 5] [1] rfl ?_
                        exact ⟨_, _, rfl, h⟩
                    · refine CWp.keep [4] [] rfl ?_
                      refine CWp.exit ?_
                      exact ⟨_, rfl, h⟩
                  · rintro _ ⟨_, _, _, h⟩
                    rw [g_ref26_One_l5] at h; cases h
                · rintro _ ⟨x18, rfl, h⟩
                  unfold g_ref26_One_k4 at h
                  refine CWp.seq ?_
                  refine CWp.region ?_
                  refine rn 3 rfl ?_
                  refine COps.done [2, 3] [] rfl ?_
                  refine CWp.ret ?_
                  cases h
                  exact ⟨.inl rfl, rfl, rfl⟩
              · refine CWp.keep [1] [1] rfl ?_
                refine CWp.skip ?_
                exact ⟨rfl, h⟩
            · rintro _ ⟨rfl, h⟩
              unfold g_ref26_One_k1 at h
              refine CWp.seq ?_
              refine CWp.seq ?_
              refine CWp.region ?_
              refine rn 6 rfl ?_
              obtain ⟨v6, hv6, h⟩ := bI h
              refine pCallg 62 false [] Tryz.call53 (fun ht => g_ref26_far_w (gdf hv6 (ht.1 _ rfl))) rfl ?_
              refine rn 1 rfl ?_
              refine COps.done [1, 66] [1] rfl ?_
              refine CWp.cond h rfl (fun h => ?_) (fun h => ?_)
              · refine CWp.seq ?_
                refine CWp.region ?_
                refine rn 2 rfl ?_
                refine COps.done [2, 3] [] rfl ?_
                refine CWp.ret ?_
                cases h
                exact ⟨.inl rfl, rfl, rfl⟩
              · refine CWp.skip ?_
                refine CWp.seq ?_
                refine CWp.region ?_
                refine rn 2 rfl ?_
                obtain ⟨v7, hv7, h⟩ := bI h
                refine pCall Tryz.call28 (g_ref26_Digits_w hv7) rfl ?_
                obtain ⟨v8, hv8, h⟩ := bI h
                refine rd (rCat hv8) ?_
                refine rn 1 rfl ?_
                refine COps.done [1, 6] [1] rfl ?_
                refine CWp.mid (fun e => ∃ x9, e = ⟨[(6, [], .str x9)], [], [], [], base⟩ ∧ g_ref26_One_k2 x9 = some r) ?_ ?_
                · refine CWp.seq ?_
                  refine CWp.region ?_
                  refine rn 1 rfl ?_
                  refine COps.done [1, 6, 7] [1] rfl ?_
                  refine CWp.block ?_
                  refine CWp.loop (fun m3 e => ∃ x10 x11, e = ⟨[(1, [], .lptr 1 0), (6, [], .str x10), (7, [], zI x11)], [], [(1, [zI a0.do_, .str a0.pod.id, zI a0.pod.prio, zB a0.pod.critical, zI a0.pod.req.a, zI a0.pod.req.b, zI a0.pod.req.c, zI a0.pod.lim.a, zI a0.pod.lim.b, zI a0.pod.lim.c, .str a0.pod.image, zI a0.pod.size, .str a0.id, zI a0.raw.time, zF a0.raw.avail.a, zF a0.raw.avail.b, zF a0.raw.avail.c, .list false 114 (a0.raw.use.map eSUsage), .list false 4 (a0.well.map zB), zI a0.steps, .list false 3 (a0.keep.map zI)])], [], base⟩ ∧ g_ref26_One_l3 a0 (g_ref26_One_k2) m3 x10 x11 = some r) FUEL ⟨_, _, rfl, h⟩ ?_ ?_
                  · rintro m3 _ ⟨x10, x11, rfl, h⟩
                    rw [g_ref26_One_l3] at h
                    refine CWp.seq ?_
                    refine CWp.seq ?_
                    refine CWp.region ?_
                    refine rh 5 [a0.keep.length] [] rfl ⟨List.length_map .., trivial⟩ ?_
                    refine COps.done [1, 6, 7, 75] [1] rfl ?_
                    refine CWp.cond h rfl (fun h => ?_) (fun h => ?_)
                    · refine CWp.skip ?_
                      refine CWp.seq ?_
                      refine CWp.block ?_
                      refine CWp.seq ?_
                      refine CWp.seq ?_
                      refine CWp.region ?_
                      obtain ⟨v12, hv12, h⟩ := bI h
                      refine rn 3 rfl ?_
                      refine rd (rIx hv12) ?_
                      refine rn 1 rfl ?_
                      obtain ⟨v13, hv13, h⟩ := bI h
                      refine pCall Tryz.call53 (g_ref26_far_w hv13) rfl ?_
                      refine COps.done [1, 6, 7, 83] [1] rfl ?_
                      refine CWp.cond h rfl (fun h => ?_) (fun h => ?_)
                      · refine CWp.seq ?_
                        refine CWp.region ?_
                        refine rn 2 rfl ?_
                        refine COps.done [2, 3] [] rfl ?_
                        refine CWp.ret ?_
                        cases h
                        exact ⟨.inl rfl, rfl, rfl⟩
                      · refine CWp.skip ?_
                        refine CWp.region ?_
                        obtain ⟨v14, hv14, h⟩ := bI h
                        refine rn 1 rfl ?_
                        refine rd (rCat hv14) ?_
                        obtain ⟨v15, hv15, h⟩ := bI h
                        refine rn 3 rfl ?_
                        refine rd (rIx hv15) ?_
                        refine rn 1 rfl ?_
                        obtain ⟨v16, hv16, h⟩ := bI h
                        refine pCall Tryz.call28 (g_ref26_Digits_w hv16) rfl ?_
                        obtain ⟨v17, hv17, h⟩ := bI h
                        refine rd (rCat hv17) ?_
                        refine rn 1 rfl ?_
                        refine COps.done [1, 6, 7] [1] rfl ?_
                        refine CWp.region ?_
                        refine rn 3 rfl ?_
                        refine COps.done [1, 6, 7] [1] rfl ?_
                        exact ⟨_, _, rfl, h⟩
                    · refine CWp.keep [6] [] rfl ?_
                      refine CWp.exit ?_
                      exact ⟨_, rfl, h⟩
                  · rintro _ ⟨_, _, _, h⟩
                    rw [g_ref26_One_l3] at h; cases h
                · rintro _ ⟨x9, rfl, h⟩
                  unfold g_ref26_One_k2 at h
                  refine CWp.seq ?_
                  refine CWp.region ?_
                  refine rn 3 rfl ?_
                  refine COps.done [2, 3] [] rfl ?_
                  refine CWp.ret ?_
                  cases h
                  exact ⟨.inl rfl, rfl, rfl⟩
def g_ref26_Print_k1 (x1 : List UInt8) : Option ((List UInt8) × Bool) :=
  some (x1, true)
def g_ref26_Print_l2 (a0 : List SAct) (k290 : (List UInt8) → Option ((List UInt8) × Bool)) : Nat → (List UInt8) → Int → Option ((List UInt8) × Bool)
  | 0, _, _ => none
  | m2 + 1, x2, x3 =>
    bif decide (x3 < (a0.length : Int)) then
      bO (idx a0 x3) fun v4 =>
      bO (g_ref26_One v4) fun v5 =>
      bif !v5.2 then
        some (([] : List UInt8), false)
      else
        bO (appO x2 v5.1) fun v6 =>
        bO (appO v6 [10]) fun v7 =>
        (g_ref26_Print_l2 a0 k290 m2) v7 (w64 (x3 + 1))
    else
      k290 x2
def g_ref26_Print (a0 : List SAct) : Option ((List UInt8) × Bool) :=
  g_ref26_Print_l2 a0 g_ref26_Print_k1 FUEL ([] : List UInt8) 0
theorem g_ref26_Print_w {a0 : List SAct} {r : (List UInt8) × Bool} (h : g_ref26_Print a0 = some r) : PCall Tryz.prog 26 [.list false 50 (a0.map eSAct)] (.tuple [.str r.1, zB r.2]) := by
  refine PCall.body Tryz.func26 rfl rfl rfl rfl fun base => ?_
  unfold g_ref26_Print at h
  refine CWp.seq ?_
  refine CWp.region ?_
  refine rn 2 rfl ?_
  refine COps.done [0] [] rfl ?_
  refine CWp.seq ?_
  refine CWp.region ?_
  refine rn 1 rfl ?_
  refine COps.done [0, 4] [] rfl ?_
  refine CWp.mid (fun e => ∃ x1, e = ⟨[(4, [], .str x1)], [], [], [], base⟩ ∧ g_ref26_Print_k1 x1 = some r) ?_ ?_
  · refine CWp.seq ?_
    refine CWp.region ?_
    refine rn 1 rfl ?_
    refine COps.done [0, 4, 5] [] rfl ?_
    refine CWp.block ?_
    refine CWp.loop (fun m2 e => ∃ x2 x3, e = ⟨[(0, [], .list false 50 (a0.map eSAct)), (4, [], .str x2), (5, [], zI x3)], [], [], [], base⟩ ∧ g_ref26_Print_l2 a0 (g_ref26_Print_k1) m2 x2 x3 = some r) FUEL ⟨_, _, rfl, h⟩ ?_ ?_
    · rintro m2 _ ⟨x2, x3, rfl, h⟩
      rw [g_ref26_Print_l2] at h
      refine CWp.seq ?_
      refine CWp.seq ?_
      refine CWp.region ?_
      refine rh 4 [a0.length] [] rfl ⟨List.length_map .., trivial⟩ ?_
      refine COps.done [0, 4, 5, 11] [] rfl ?_
      refine CWp.cond h rfl (fun h => ?_) (fun h => ?_)
      · refine CWp.skip ?_
        refine CWp.seq ?_
        refine CWp.block ?_
        refine CWp.seq ?_
        refine CWp.region ?_
        obtain ⟨v4, hv4, h⟩ := bI h
        refine rn 2 rfl ?_
        refine rd (rIx hv4) ?_
        refine rn 1 rfl ?_
        obtain ⟨v5, hv5, h⟩ := bI h
        refine pCall Tryz.call27 (g_ref26_One_w hv5) rfl ?_
        refine rn 5 rfl ?_
        refine COps.done [0, 4, 5, 6, 7] [] rfl ?_
        refine CWp.seq ?_
        refine CWp.seq ?_
        refine CWp.region ?_
        refine rn 2 rfl ?_
        refine COps.done [0, 4, 5, 6, 23] [] rfl ?_
        refine CWp.cond h rfl (fun h => ?_) (fun h => ?_)
        · refine CWp.seq ?_
          refine CWp.region ?_
          refine rn 2 rfl ?_
          refine COps.done [2, 3] [] rfl ?_
          refine CWp.ret ?_
          cases h
          exact ⟨.inl rfl, rfl, rfl⟩
        · refine CWp.skip ?_
          refine CWp.region ?_
          obtain ⟨v6, hv6, h⟩ := bI h
          refine rn 2 rfl ?_
          refine rd (rCat hv6) ?_
          obtain ⟨v7, hv7, h⟩ := bI h
          refine rd (rCat hv7) ?_
          refine rn 1 rfl ?_
          refine COps.done [0, 4, 5] [] rfl ?_
          refine CWp.region ?_
          refine rn 3 rfl ?_
          refine COps.done [0, 4, 5] [] rfl ?_
          exact ⟨_, _, rfl, h⟩
      · refine CWp.keep [4] [] rfl ?_
        refine CWp.exit ?_
        exact ⟨_, rfl, h⟩
    · rintro _ ⟨_, _, _, h⟩
      rw [g_ref26_Print_l2] at h; cases h
  · rintro _ ⟨x1, rfl, h⟩
    unfold g_ref26_Print_k1 at h
    refine CWp.seq ?_
    refine CWp.region ?_
    refine rn 3 rfl ?_
    refine COps.done [2, 3] [] rfl ?_
    refine CWp.ret ?_
    cases h
    exact ⟨.inl rfl, rfl, rfl⟩
def g_law26_ScriptPrints_k1 (v4 : (List UInt8) × Int) (v5 : (List UInt8) × Bool) : Option Bool :=
  some (((v4.1 == v5.1) && ((v4.2 == 0) == v5.2)) && (v5.2 || (v4.2 == 1)))
def g_law26_ScriptPrints_l2 (a0 : List SAct) (k290 : Option Bool) : Nat → Int → Option Bool
  | 0, _ => none
  | m2 + 1, x6 =>
    bif decide (x6 < (a0.length : Int)) then
      bO (idx a0 x6) fun v7 =>
      bO (g_ref26_One v7) fun v8 =>
      bO (idx a0 x6) fun v9 =>
      bO (g_script_Right v9) fun v10 =>
      bif !(v10 == v8.2) then
        some false
      else
        (g_law26_ScriptPrints_l2 a0 k290 m2) (w64 (x6 + 1))
    else
      k290
def g_law26_ScriptPrints (a0 : List SAct) : Option Bool :=
  bO (g_law26_awake) fun v1 =>
  bO (bif (!v1) then some default else (g_ref25_Few a0)) fun v2 =>
  bif (!v1) || (!v2) then
    bO (g_law26_awake) fun v3 =>
    some v3
  else
    bO (g_script_Print a0) fun v4 =>
    bO (g_ref26_Print a0) fun v5 =>
    g_law26_ScriptPrints_l2 a0 (g_law26_ScriptPrints_k1 v4 v5) FUEL 0
theorem g_law26_ScriptPrints_w {a0 : List SAct} {r : Bool} (h : g_law26_ScriptPrints a0 = some r) : PCall Tryz.prog 5 [.list false 50 (a0.map eSAct)] (zB r) := by
  refine PCall.body Tryz.func5 rfl rfl rfl rfl fun base => ?_
  unfold g_law26_ScriptPrints at h
  refine CWp.seq ?_
  refine CWp.region ?_
  refine rn 1 rfl ?_
  refine COps.done [0] [] rfl ?_
  refine CWp.seq ?_
  refine CWp.seq ?_
  refine CWp.region ?_
  obtain ⟨v1, hv1, h⟩ := bI h
  refine pCall Tryz.call11 (g_law26_awake_w hv1) rfl ?_
  refine rn 3 rfl ?_
  obtain ⟨v2, hv2, h⟩ := bI h
  refine pCallg 12 false [] Tryz.call24 (fun ht => g_ref25_Few_w (gdf hv2 (ht.1 _ rfl))) rfl ?_
  refine rn 2 rfl ?_
  refine COps.done [0, 16] [] rfl ?_
  refine CWp.cond h rfl (fun h => ?_) (fun h => ?_)
  · refine CWp.seq ?_
    refine CWp.region ?_
    obtain ⟨v3, hv3, h⟩ := bI h
    refine pCall Tryz.call11 (g_law26_awake_w hv3) rfl ?_
    refine rn 1 rfl ?_
    refine COps.done [2] [] rfl ?_
    refine CWp.ret ?_
    cases h
    exact ⟨.inl rfl, rfl, rfl⟩
  · refine CWp.skip ?_
    refine CWp.seq ?_
    refine CWp.region ?_
    refine rn 1 rfl ?_
    obtain ⟨v4, hv4, h⟩ := bI h
    refine pCall Tryz.call25 (g_script_Print_w hv4) rfl ?_
    refine rn 5 rfl ?_
    refine COps.done [0, 3, 4] [] rfl ?_
    refine CWp.seq ?_
    refine CWp.region ?_
    refine rn 1 rfl ?_
    obtain ⟨v5, hv5, h⟩ := bI h
    refine pCall Tryz.call26 (g_ref26_Print_w hv5) rfl ?_
    refine rn 5 rfl ?_
    refine COps.done [0, 3, 4, 5, 6] [] rfl ?_
    refine CWp.mid (fun e => e = ⟨[(3, [], .str v4.1), (4, [], zI v4.2), (5, [], .str v5.1), (6, [], zB v5.2)], [], [], [], base⟩ ∧ g_law26_ScriptPrints_k1 v4 v5 = some r) ?_ ?_
    · refine CWp.seq ?_
      refine CWp.region ?_
      refine rn 1 rfl ?_
      refine COps.done [0, 3, 4, 5, 6, 7] [] rfl ?_
      refine CWp.block ?_
      refine CWp.loop (fun m2 e => ∃ x6, e = ⟨[(0, [], .list false 50 (a0.map eSAct)), (3, [], .str v4.1), (4, [], zI v4.2), (5, [], .str v5.1), (6, [], zB v5.2), (7, [], zI x6)], [], [], [], base⟩ ∧ g_law26_ScriptPrints_l2 a0 (g_law26_ScriptPrints_k1 v4 v5) m2 x6 = some r) FUEL ⟨_, rfl, h⟩ ?_ ?_
      · rintro m2 _ ⟨x6, rfl, h⟩
        rw [g_law26_ScriptPrints_l2] at h
        refine CWp.seq ?_
        refine CWp.seq ?_
        refine CWp.region ?_
        refine rh 4 [a0.length] [] rfl ⟨List.length_map .., trivial⟩ ?_
        refine COps.done [0, 3, 4, 5, 6, 7, 31] [] rfl ?_
        refine CWp.cond h rfl (fun h => ?_) (fun h => ?_)
        · refine CWp.skip ?_
          refine CWp.seq ?_
          refine CWp.block ?_
          refine CWp.seq ?_
          refine CWp.region ?_
          obtain ⟨v7, hv7, h⟩ := bI h
          refine rn 2 rfl ?_
          refine rd (rIx hv7) ?_
          refine rn 1 rfl ?_
          obtain ⟨v8, hv8, h⟩ := bI h
          refine pCall Tryz.call27 (g_ref26_One_w hv8) rfl ?_
          refine rn 5 rfl ?_
          refine COps.done [0, 3, 4, 5, 6, 7, 9] [] rfl ?_
          refine CWp.seq ?_
          refine CWp.region ?_
          obtain ⟨v9, hv9, h⟩ := bI h
          refine rn 2 rfl ?_
          refine rd (rIx hv9) ?_
          refine rn 1 rfl ?_
          obtain ⟨v10, hv10, h⟩ := bI h
          refine pCall Tryz.call23 (g_script_Right_w hv10) rfl ?_
          refine rn 2 rfl ?_
          refine COps.done [0, 3, 4, 5, 6, 7, 48] [] rfl ?_
          refine CWp.cond h rfl (fun h => ?_) (fun h => ?_)
          · refine CWp.seq ?_
            refine CWp.region ?_
            refine rn 1 rfl ?_
            refine COps.done [2] [] rfl ?_
            refine CWp.ret ?_
            cases h
            exact ⟨.inl rfl, rfl, rfl⟩
          · refine CWp.skip ?_
            refine CWp.region ?_
            refine rn 3 rfl ?_
            refine COps.done [0, 3, 4, 5, 6, 7] [] rfl ?_
            exact ⟨_, rfl, h⟩
        · refine CWp.keep [3, 4, 5, 6] [] rfl ?_
          refine CWp.exit ?_
          exact ⟨rfl, h⟩
      · rintro _ ⟨_, _, h⟩
        rw [g_law26_ScriptPrints_l2] at h; cases h
    · rintro _ ⟨rfl, h⟩
      unfold g_law26_ScriptPrints_k1 at h
      refine CWp.seq ?_
      refine CWp.region ?_
      refine rn 17 rfl ?_
      refine COps.done [2] [] rfl ?_
      refine CWp.ret ?_
      cases h
      exact ⟨.inl rfl, rfl, rfl⟩
def g_law26_ScriptBack (a0 : List SAct) : Option Bool :=
  bO (g_law26_awake) fun v1 =>
  bO (bif (!v1) then some default else (g_ref25_Few a0)) fun v2 =>
  bif (!v1) || (!v2) then
    bO (g_law26_awake) fun v3 =>
    some v3
  else
    bO (g_script_Print a0) fun v4 =>
    bif v4.2 != 0 then
      some ((v4.1.length : Int) == 0)
    else
      bO (bytesO v4.1) fun _v5 =>
      bO (g_script_Read v4.1) fun v6 =>
      bif decide ((v4.1.length : Int) > 65536) then
        some (v6.2.2 == 2)
      else
        bO (g_script_Print v6.1) fun v7 =>
        bO (bif ((v6.2.2 == 0) && (v6.2.1 == 0)) then (g_ref26_Same a0 v6.1) else some default) fun v8 =>
        some (((((v6.2.2 == 0) && (v6.2.1 == 0)) && v8) && (v7.2 == 0)) && (v7.1 == v4.1))
theorem g_law26_ScriptBack_w {a0 : List SAct} {r : Bool} (h : g_law26_ScriptBack a0 = some r) : PCall Tryz.prog 6 [.list false 50 (a0.map eSAct)] (zB r) := by
  refine PCall.body Tryz.func6 rfl rfl rfl rfl fun base => ?_
  unfold g_law26_ScriptBack at h
  refine CWp.seq ?_
  refine CWp.region ?_
  refine rn 1 rfl ?_
  refine COps.done [0] [] rfl ?_
  refine CWp.seq ?_
  refine CWp.seq ?_
  refine CWp.region ?_
  obtain ⟨v1, hv1, h⟩ := bI h
  refine pCall Tryz.call11 (g_law26_awake_w hv1) rfl ?_
  refine rn 3 rfl ?_
  obtain ⟨v2, hv2, h⟩ := bI h
  refine pCallg 12 false [] Tryz.call24 (fun ht => g_ref25_Few_w (gdf hv2 (ht.1 _ rfl))) rfl ?_
  refine rn 2 rfl ?_
  refine COps.done [0, 16] [] rfl ?_
  refine CWp.cond h rfl (fun h => ?_) (fun h => ?_)
  · refine CWp.seq ?_
    refine CWp.region ?_
    obtain ⟨v3, hv3, h⟩ := bI h
    refine pCall Tryz.call11 (g_law26_awake_w hv3) rfl ?_
    refine rn 1 rfl ?_
    refine COps.done [2] [] rfl ?_
    refine CWp.ret ?_
    cases h
    exact ⟨.inl rfl, rfl, rfl⟩
  · refine CWp.skip ?_
    refine CWp.seq ?_
    refine CWp.region ?_
    refine rn 1 rfl ?_
    obtain ⟨v4, hv4, h⟩ := bI h
    refine pCall Tryz.call25 (g_script_Print_w hv4) rfl ?_
    refine rn 5 rfl ?_
    refine COps.done [0, 3, 4] [] rfl ?_
    refine CWp.seq ?_
    refine CWp.seq ?_
    refine CWp.region ?_
    refine rn 2 rfl ?_
    refine COps.done [0, 3, 24] [] rfl ?_
    refine CWp.cond h rfl (fun h => ?_) (fun h => ?_)
    · refine CWp.seq ?_
      refine CWp.region ?_
      refine rn 4 rfl ?_
      refine COps.done [2] [] rfl ?_
      refine CWp.ret ?_
      cases h
      exact ⟨.inl rfl, rfl, rfl⟩
    · refine CWp.skip ?_
      refine CWp.seq ?_
      refine CWp.region ?_
      obtain ⟨v5, hv5, h⟩ := bI h
      refine rn 1 rfl ?_
      refine cBytes (bytesO_ok hv5).1 ?_
      obtain ⟨v6, hv6, h⟩ := bI h
      refine pCall Tryz.call20 (g_script_Read_w hv6) rfl ?_
      refine rn 7 rfl ?_
      refine COps.done [0, 3, 5, 6, 7] [] rfl ?_
      refine CWp.seq ?_
      refine CWp.seq ?_
      refine CWp.region ?_
      refine rn 3 rfl ?_
      refine COps.done [0, 3, 5, 6, 7, 37] [] rfl ?_
      refine CWp.cond h rfl (fun h => ?_) (fun h => ?_)
      · refine CWp.seq ?_
        refine CWp.region ?_
        refine rn 3 rfl ?_
        refine COps.done [2] [] rfl ?_
        refine CWp.ret ?_
        cases h
        exact ⟨.inl rfl, rfl, rfl⟩
      · refine CWp.skip ?_
        refine CWp.seq ?_
        refine CWp.region ?_
        refine rn 1 rfl ?_
        obtain ⟨v7, hv7, h⟩ := bI h
        refine pCall Tryz.call25 (g_script_Print_w hv7) rfl ?_
        refine rn 5 rfl ?_
        refine COps.done [0, 3, 5, 6, 7, 8, 9] [] rfl ?_
        refine CWp.seq ?_
        refine CWp.region ?_
        refine rn 9 rfl ?_
        refine COps.keepG [3, 8, 9, 51, 52, 53] rfl ?_
        obtain ⟨v8, hv8, h⟩ := bI h
        refine pCallg 51 true [] Tryz.call22 (fun ht => g_ref26_Same_w (gd hv8 (ht.1 _ rfl))) rfl ?_
        refine rn 11 rfl ?_
        refine COps.done [2] [] rfl ?_
        refine CWp.ret ?_
        cases h
        exact ⟨.inl rfl, rfl, rfl⟩
def g_law26_ScriptRests_k1 (a0 : SAct) (x5 : Int) (x6 : List UInt8) (x7 : Nat) (x8 : List Bool) (x9 : Int) : Option Bool :=
  bO (g_script_Right (⟨a0.do_, (⟨a0.pod.id, a0.pod.prio, a0.pod.critical, a0.pod.req, a0.pod.lim, a0.pod.image, x5⟩ : SPod), x6, (⟨a0.raw.time, (⟨a0.raw.avail.a, x7, a0.raw.avail.c⟩ : V3 Nat), a0.raw.use⟩ : SRaw), x8, x9, a0.keep⟩ : SAct)) fun v10 =>
  some (!v10)
def g_law26_ScriptRests (a0 : SAct) (a1 : Int) (a2 : Int) : Option Bool :=
  bO (g_law26_awake) fun v1 =>
  bO (bif (!v1) then some default else (g_ref25_Few [a0])) fun v2 =>
  bO (bif ((!v1) || (!v2)) then some default else (g_script_Right a0)) fun v3 =>
  bif (((!v1) || (!v2)) || (!v3)) || (a2 == 0) then
    bO (g_law26_awake) fun v4 =>
    some v4
  else
    bif ((w64 (a1.tmod 5)) == 0) && (a0.do_ != 1) then
      g_law26_ScriptRests_k1 a0 a2 a0.id a0.raw.avail.b a0.well a0.steps
    else
      bif ((w64 (a1.tmod 5)) == 1) && (a0.do_ != 2) then
        g_law26_ScriptRests_k1 a0 a0.pod.size [120] a0.raw.avail.b a0.well a0.steps
      else
        bif ((w64 (a1.tmod 5)) == 2) && (a0.do_ != 4) then
          bO (g_math_Copysign 0 13830554455654793216) fun v11 =>
          g_law26_ScriptRests_k1 a0 a0.pod.size a0.id v11 a0.well a0.steps
        else
          bif ((w64 (a1.tmod 5)) == 3) && (a0.do_ != 5) then
            g_law26_ScriptRests_k1 a0 a0.pod.size a0.id a0.raw.avail.b [false] a0.steps
          else
            bif ((w64 (a1.tmod 5)) == 4) && (a0.do_ != 6) then
              g_law26_ScriptRests_k1 a0 a0.pod.size a0.id a0.raw.avail.b a0.well a2
            else
              some true
theorem g_law26_ScriptRests_w {a0 : SAct} {a1 : Int} {a2 : Int} {r : Bool} (h : g_law26_ScriptRests a0 a1 a2 = some r) : PCall Tryz.prog 9 [eSAct a0, .lit (.int .u8 a1), zI a2] (zB r) := by
  refine PCall.body Tryz.func9 rfl rfl rfl rfl fun base => ?_
  unfold g_law26_ScriptRests at h
  refine CWp.seq ?_
  refine CWp.region ?_
  refine rn 2 rfl ?_
  refine COps.done [1, 2, 3] [3] rfl ?_
  refine CWp.seq ?_
  refine CWp.seq ?_
  refine CWp.region ?_
  obtain ⟨v1, hv1, h⟩ := bI h
  refine pCall Tryz.call11 (g_law26_awake_w hv1) rfl ?_
  refine rn 4 rfl ?_
  obtain ⟨v2, hv2, h⟩ := bI h
  refine pCallg 11 false [] Tryz.call24 (fun ht => g_ref25_Few_w (gdf hv2 (ht.1 _ rfl))) rfl ?_
  refine rn 4 rfl ?_
  refine COps.keepG [1, 2, 3, 17, 18] rfl ?_
  obtain ⟨v3, hv3, h⟩ := bI h
  refine pCallg 17 false [] Tryz.call23 (fun ht => g_script_Right_w (gdf hv3 (ht.1 _ rfl))) rfl ?_
  refine rn 6 rfl ?_
  refine COps.done [1, 2, 3, 25] [3] rfl ?_
  refine CWp.cond h rfl (fun h => ?_) (fun h => ?_)
  · refine CWp.seq ?_
    refine CWp.region ?_
    obtain ⟨v4, hv4, h⟩ := bI h
    refine pCall Tryz.call11 (g_law26_awake_w hv4) rfl ?_
    refine rn 1 rfl ?_
    refine COps.done [6] [] rfl ?_
    refine CWp.ret ?_
    cases h
    exact ⟨.inl rfl, rfl, rfl⟩
  · refine CWp.skip ?_
    refine CWp.seq ?_
    refine CWp.region ?_
    refine rn 4 rfl ?_
    refine COps.done [2, 3, 7] [3] rfl ?_
    refine CWp.seq ?_
    refine CWp.region ?_
    refine rn 3 rfl ?_
    refine COps.done [2, 3, 7, 8] [3, 8] rfl ?_
    refine CWp.mid (fun e => ∃ x5 x6 x7 x8 x9, e = ⟨[(8, [], .lptr 8 0)], [], [(8, [zI a0.do_, .str a0.pod.id, zI a0.pod.prio, zB a0.pod.critical, zI a0.pod.req.a, zI a0.pod.req.b, zI a0.pod.req.c, zI a0.pod.lim.a, zI a0.pod.lim.b, zI a0.pod.lim.c, .str a0.pod.image, zI x5, .str x6, zI a0.raw.time, zF a0.raw.avail.a, zF x7, zF a0.raw.avail.c, .list false 114 (a0.raw.use.map eSUsage), .list false 4 (x8.map zB), zI x9, .list false 3 (a0.keep.map zI)])], [], base⟩ ∧ g_law26_ScriptRests_k1 a0 x5 x6 x7 x8 x9 = some r) ?_ ?_
    · refine CWp.seq ?_
      refine CWp.region ?_
      refine rn 7 rfl ?_
      refine COps.done [2, 3, 7, 8, 37] [3, 8] rfl ?_
      refine CWp.cond h rfl (fun h => ?_) (fun h => ?_)
      · refine CWp.region ?_
        refine rn 4 rfl ?_
        refine COps.done [8] [8] rfl ?_
        exact ⟨_, _, _, _, _, rfl, h⟩
      · refine CWp.seq ?_
        refine CWp.region ?_
        refine rn 7 rfl ?_
        refine COps.done [2, 3, 7, 8, 47] [3, 8] rfl ?_
        refine CWp.cond h rfl (fun h => ?_) (fun h => ?_)
        · refine CWp.region ?_
          refine rn 2 rfl ?_
          refine COps.done [8] [8] rfl ?_
          exact ⟨_, _, _, _, _, rfl, h⟩
        · refine CWp.seq ?_
          refine CWp.region ?_
          refine rn 7 rfl ?_
          refine COps.done [2, 3, 7, 8, 55] [3, 8] rfl ?_
          refine CWp.cond h rfl (fun h => ?_) (fun h => ?_)
          · refine CWp.region ?_
            obtain ⟨v11, hv11, h⟩ := bI h
            refine pCall Tryz.call30 (g_math_Copysign_w hv11) rfl ?_
            refine rn 4 rfl ?_
            refine COps.done [8] [8] rfl ?_
            exact ⟨_, _, _, _, _, rfl, h⟩
          · refine CWp.seq ?_
            refine CWp.region ?_
            refine rn 7 rfl ?_
            refine COps.done [2, 3, 7, 8, 66] [3, 8] rfl ?_
            refine CWp.cond h rfl (fun h => ?_) (fun h => ?_)
            · refine CWp.region ?_
              refine rn 3 rfl ?_
              refine COps.done [8] [8] rfl ?_
              exact ⟨_, _, _, _, _, rfl, h⟩
            · refine CWp.seq ?_
              refine CWp.region ?_
              refine rn 7 rfl ?_
              refine COps.done [2, 8, 75] [8] rfl ?_
              refine CWp.cond h rfl (fun h => ?_) (fun h => ?_)
              · refine CWp.region ?_
                refine rn 3 rfl ?_
                refine COps.done [8] [8] rfl ?_
                exact ⟨_, _, _, _, _, rfl, h⟩
              · refine CWp.seq ?_
                refine CWp.region ?_
                refine rn 1 rfl ?_
                refine COps.done [6] [] rfl ?_
                refine CWp.ret ?_
                cases h
                exact ⟨.inl rfl, rfl, rfl⟩
    · rintro _ ⟨x5, x6, x7, x8, x9, rfl, h⟩
      unfold g_law26_ScriptRests_k1 at h
      refine CWp.seq ?_
      refine CWp.region ?_
      refine rn 1 rfl ?_
      obtain ⟨v10, hv10, h⟩ := bI h
      refine pCall Tryz.call23 (g_script_Right_w hv10) rfl ?_
      refine rn 2 rfl ?_
      refine COps.done [6] [] rfl ?_
      refine CWp.ret ?_
      cases h
      exact ⟨.inl rfl, rfl, rfl⟩
end Go.Proofs.YtgphopeclplahaaGreatDoor
