/- U0, U1, U2, U3, UZ, T1b. -/
import Derived.Test.YtdjojfibjbjpdaaGreatDoorM7
set_option maxHeartbeats 2000000
namespace Go.Proofs.YtdjojfibjbjpdaaGreatDoor
section
open Go.RowKit
def g_lex_blank (a0 : Int) : Option Bool :=
  some (((a0 == 32) || (a0 == 9)) || (a0 == 13))
theorem g_lex_blank_w {a0 : Int} {r : Bool} (h : g_lex_blank a0 = some r) : PCall Tryz.prog 35 [.lit (.int .u8 a0)] (zB r) := by
  refine PCall.body Tryz.func35 rfl rfl rfl rfl fun base => ?_
  unfold g_lex_blank at h
  refine srd 1 rfl [0] [] rfl (srd 11 rfl [2] [] rfl ?_)
  cases h; exact CWp.ret ⟨.inl rfl, rfl, rfl⟩
def g_lex_readable_k1 (a0 : List UInt8) : Option Bool :=
  some (decide ((a0.length : Int) ≤ 65536))
def g_lex_readable_l2 (a0 : List UInt8) (k290 : Option Bool) : Nat → Int → Option Bool
  | 0, _ => none
  | m2 + 1, x1 =>
    bif decide (x1 < (a0.length : Int)) then
      bO (idx a0 x1) fun v2 =>
      bO (g_lex_blank (v2.toNat : Int)) fun v3 =>
      bif ((!v3) && ((v2.toNat : Int) != 10)) && ((decide ((v2.toNat : Int) < 32)) || (decide ((v2.toNat : Int) > 126))) then
        some false
      else
        (g_lex_readable_l2 a0 k290 m2) (w64 (x1 + 1))
    else
      k290
def g_lex_readable (a0 : List UInt8) : Option Bool :=
  g_lex_readable_l2 a0 (g_lex_readable_k1 a0) FUEL 0
theorem g_lex_readable_w {a0 : List UInt8} {r : Bool} (h : g_lex_readable a0 = some r) : PCall Tryz.prog 33 [.list false 5 (a0.map zU8)] (zB r) := by
  refine PCall.body Tryz.func33 rfl rfl rfl rfl fun base => ?_
  unfold g_lex_readable at h
  refine srd 1 rfl [0] [] rfl (CWp.mid (fun e => e = ⟨[(0, [], .list false 5 (a0.map zU8))], [], [], [], base⟩ ∧ g_lex_readable_k1 a0 = some r) ?_ ?_)
  · refine CWp.seq (CWp.region (rh 3 [a0.length] [] rfl ⟨List.length_map .., trivial⟩ (COps.done [0, 5, 6, 7] [] rfl (CWp.block (CWp.loop (fun m2 e => ∃ x1, e = ⟨[(0, [], .list false 5 (a0.map zU8)), (5, [], .list false 5 (a0.map zU8)), (6, [], zI (a0.length : Int)), (7, [], zI x1)], [], [], [], base⟩ ∧ g_lex_readable_l2 a0 (g_lex_readable_k1 a0) m2 x1 = some r) FUEL ⟨_, rfl, h⟩ ?_ ?_)))))
    · rintro m2 _ ⟨x1, rfl, h⟩
      rw [g_lex_readable_l2] at h
      refine srd 1 rfl [0, 5, 6, 7, 8] [] rfl (CWp.seq (CWp.cond h rfl (fun h => ?_) (fun h => ?_)))
      · refine CWp.skip (CWp.seq (CWp.block (CWp.seq (CWp.region ?_))))
        obtain ⟨v2, hv2, h⟩ := bI h
        refine rd (rIx hv2) ?_
        refine rn 2 rfl (COps.done [0, 4, 5, 6, 7] [] rfl (CWp.seq (CWp.region (rn 1 rfl ?_))))
        obtain ⟨v3, hv3, h⟩ := bI h
        refine pCall Tryz.call35 (g_lex_blank_w hv3) rfl ?_
        refine rn 13 rfl (COps.done [0, 5, 6, 7, 25] [] rfl (CWp.cond h rfl (fun h => ?_) (fun h => ?_)))
        · refine srd 1 rfl [2] [] rfl ?_
          cases h; exact CWp.ret ⟨.inl rfl, rfl, rfl⟩
        refine CWp.skip ?_
        refine CWp.region (rn 2 rfl (COps.done [0, 5, 6, 7] [] rfl ?_))
        exact ⟨_, rfl, h⟩
      refine CWp.keep [0] [] rfl (CWp.exit ?_)
      exact ⟨rfl, h⟩
    rintro _ ⟨_, _, h⟩
    rw [g_lex_readable_l2] at h; cases h
  rintro _ ⟨rfl, h⟩
  unfold g_lex_readable_k1 at h
  refine CWp.seq (CWp.region (rh 4 [a0.length] [] rfl ⟨List.length_map .., trivial⟩ (COps.done [2] [] rfl ?_)))
  cases h; exact CWp.ret ⟨.inl rfl, rfl, rfl⟩
def g_lex_Lines_k1 (x2 : List (List SField)) : Option ((List (List SField)) × Int) :=
  some (x2, 0)
def g_lex_Lines_k3 (x4 : Int) (q2 : Int → (List (List SField)) → Option ((List (List SField)) × Int)) (x6 : List (List SField)) : Option ((List (List SField)) × Int) :=
  q2 (w64 (x4 + 1)) x6
def g_lex_Lines_k4 (x4 : Int) (x5 : List (List SField)) (q2 : Int → (List (List SField)) → Option ((List (List SField)) × Int)) (x8 : List SField) : Option ((List (List SField)) × Int) :=
  bif decide ((x8.length : Int) > 0) then
    bO (appO x5 [x8]) fun v9 =>
    g_lex_Lines_k3 x4 q2 v9
  else
    g_lex_Lines_k3 x4 q2 x5
def g_lex_Lines_k6 (q5 : (List SField) → Int → Option ((List (List SField)) × Int)) (x12 : List SField) (x13 : Int) : Option ((List (List SField)) × Int) :=
  q5 x12 (w64 (x13 + 1))
def g_lex_Lines_k7 (k591 : (List (List SField)) → Option ((List (List SField)) × Int)) (x17 : List (List SField)) : Option ((List (List SField)) × Int) :=
  k591 x17
def g_lex_Lines_k8 (x4 : Int) (v7 : List UInt8) (x10 : List SField) (x11 : Int) (q5 : (List SField) → Int → Option ((List (List SField)) × Int)) (x19 : Int) : Option ((List (List SField)) × Int) :=
  bO (slO v7 x11 x19) fun v20 =>
  bO (appO x10 [(⟨v20, w64 (x4 + 1), w64 (x11 + 1)⟩ : SField)]) fun v21 =>
  g_lex_Lines_k6 q5 v21 x19
def g_lex_Lines_l9 (v7 : List UInt8) (k990 : Int → Option ((List (List SField)) × Int)) : Nat → Int → Option ((List (List SField)) × Int)
  | 0, _ => none
  | m9 + 1, x22 =>
    bO (bif (decide (x22 < (v7.length : Int))) then (idx v7 x22) else some default) fun v23 =>
    bO (bif (decide (x22 < (v7.length : Int))) then (g_lex_blank (v23.toNat : Int)) else some default) fun v24 =>
    bif (decide (x22 < (v7.length : Int))) && (!v24) then
      (g_lex_Lines_l9 v7 k990 m9) (w64 (x22 + 1))
    else
      k990 x22
def g_lex_Lines_l5 (x4 : Int) (x5 : List (List SField)) (v7 : List UInt8) (k590 : (List SField) → Option ((List (List SField)) × Int)) (k591 : (List (List SField)) → Option ((List (List SField)) × Int)) : Nat → (List SField) → Int → Option ((List (List SField)) × Int)
  | 0, _, _ => none
  | m5 + 1, x10, x11 =>
    bif decide (x11 < (v7.length : Int)) then
      bO (idx v7 x11) fun v14 =>
      bO (g_lex_blank (v14.toNat : Int)) fun v15 =>
      bif v15 then
        g_lex_Lines_k6 (g_lex_Lines_l5 x4 x5 v7 k590 k591 m5) x10 x11
      else
        bO (idx v7 x11) fun v16 =>
        bif (v16.toNat : Int) == 35 then
          bif decide ((x10.length : Int) > 0) then
            bO (appO x5 [x10]) fun v18 =>
            g_lex_Lines_k7 k591 v18
          else
            g_lex_Lines_k7 k591 x5
        else
          g_lex_Lines_l9 v7 (g_lex_Lines_k8 x4 v7 x10 x11 (g_lex_Lines_l5 x4 x5 v7 k590 k591 m5)) FUEL x11
    else
      k590 x10
def g_lex_Lines_l2 (v3 : List (List UInt8)) (k290 : (List (List SField)) → Option ((List (List SField)) × Int)) : Nat → Int → (List (List SField)) → Option ((List (List SField)) × Int)
  | 0, _, _ => none
  | m2 + 1, x4, x5 =>
    bif decide (x4 < (v3.length : Int)) then
      bO (idx v3 x4) fun v7 =>
      g_lex_Lines_l5 x4 x5 v7 (g_lex_Lines_k4 x4 x5 (g_lex_Lines_l2 v3 k290 m2)) (g_lex_Lines_k3 x4 (g_lex_Lines_l2 v3 k290 m2)) FUEL ([] : List SField) 0
    else
      k290 x5
def g_lex_Lines (a0 : List UInt8) : Option ((List (List SField)) × Int) :=
  bO (g_lex_readable a0) fun v1 =>
  bif !v1 then
    some (([] : List (List SField)), 2)
  else
    bO (splitO a0 [10]) fun v3 =>
    g_lex_Lines_l2 v3 g_lex_Lines_k1 FUEL 0 ([] : List (List SField))
theorem g_lex_Lines_w {a0 : List UInt8} {r : (List (List SField)) × Int} (h : g_lex_Lines a0 = some r) : PCall Tryz.prog 16 [.list false 5 (a0.map zU8)] (.tuple [.list true 45 (r.1.map (fun (x : List SField) => .list false 49 (x.map eSField))), zI r.2]) := by
  refine PCall.body Tryz.func16 rfl rfl rfl rfl fun base => ?_
  unfold g_lex_Lines at h
  refine srd 2 rfl [0] [] rfl (CWp.scope (CWp.seq (CWp.seq (CWp.region (rn 1 rfl ?_)))))
  obtain ⟨v1, hv1, h⟩ := bI h
  refine pCall Tryz.call33 (g_lex_readable_w hv1) rfl ?_
  refine rn 1 rfl (COps.done [0, 12] [] rfl (CWp.cond h rfl (fun h => ?_) (fun h => ?_)))
  · refine srd 2 rfl [2, 3] [] rfl ?_
    cases h; exact CWp.ret ⟨.inl rfl, rfl, rfl⟩
  refine CWp.skip (srd 1 rfl [0, 4] [] rfl (CWp.seq (CWp.label (CWp.mid (fun e => ∃ x2, e = ⟨[(4, [], .list true 45 (x2.map (fun (x : List SField) => .list false 49 (x.map eSField))))], [], [], [], base⟩ ∧ g_lex_Lines_k1 x2 = some r) ?_ ?_))))
  · refine CWp.seq (CWp.region (rn 1 rfl (rd (rStr (l := a0)) ?_)))
    obtain ⟨v3, hv3, h⟩ := bI h
    refine pCall Tryz.call34 (splitO_w hv3) rfl ?_
    refine rh 2 [v3.length] [] rfl ⟨List.length_map .., trivial⟩ (COps.done [4, 15, 16, 17] [] rfl (CWp.block (CWp.loop (fun m2 e => ∃ x4 x5, e = ⟨[(4, [], .list true 45 (x5.map (fun (x : List SField) => .list false 49 (x.map eSField)))), (15, [], .list true 9 (v3.map AV.str)), (16, [], zI (v3.length : Int)), (17, [], zI x4)], [], [], [], base⟩ ∧ g_lex_Lines_l2 v3 (g_lex_Lines_k1) m2 x4 x5 = some r) FUEL ⟨_, _, rfl, h⟩ ?_ ?_)))
    · rintro m2 _ ⟨x4, x5, rfl, h⟩
      rw [g_lex_Lines_l2] at h
      refine srd 1 rfl [4, 15, 16, 17, 18] [] rfl (CWp.seq (CWp.cond h rfl (fun h => ?_) (fun h => ?_)))
      · refine CWp.skip (CWp.mid (fun e => ∃ x6, e = ⟨[(4, [], .list true 45 (x6.map (fun (x : List SField) => .list false 49 (x.map eSField)))), (15, [], .list true 9 (v3.map AV.str)), (16, [], zI (v3.length : Int)), (17, [], zI x4)], [], [], [], base⟩ ∧ g_lex_Lines_k3 x4 (g_lex_Lines_l2 v3 (g_lex_Lines_k1) m2) x6 = some r) ?_ ?_)
        · refine CWp.block (CWp.seq (CWp.region ?_))
          obtain ⟨v7, hv7, h⟩ := bI h
          refine rn 1 rfl (rd (rIx hv7) ?_)
          refine rn 3 rfl (COps.done [4, 5, 6, 15, 16, 17] [] rfl (srd 1 rfl [4, 5, 6, 7, 15, 16, 17] [] rfl (CWp.mid (fun e => ∃ x8, e = ⟨[(4, [], .list true 45 (x5.map (fun (x : List SField) => .list false 49 (x.map eSField)))), (7, [], .list true 49 (x8.map eSField)), (15, [], .list true 9 (v3.map AV.str)), (16, [], zI (v3.length : Int)), (17, [], zI x4)], [], [], [], base⟩ ∧ g_lex_Lines_k4 x4 x5 (g_lex_Lines_l2 v3 (g_lex_Lines_k1) m2) x8 = some r) ?_ ?_)))
          · refine srd 1 rfl [4, 5, 6, 7, 8, 15, 16, 17] [] rfl (CWp.block (CWp.loop (fun m5 e => ∃ x10 x11, e = ⟨[(4, [], .list true 45 (x5.map (fun (x : List SField) => .list false 49 (x.map eSField)))), (5, [], zI x4), (6, [], .str v7), (7, [], .list true 49 (x10.map eSField)), (8, [], zI x11), (15, [], .list true 9 (v3.map AV.str)), (16, [], zI (v3.length : Int)), (17, [], zI x4)], [], [], [], base⟩ ∧ g_lex_Lines_l5 x4 x5 v7 (g_lex_Lines_k4 x4 x5 (g_lex_Lines_l2 v3 (g_lex_Lines_k1) m2)) (g_lex_Lines_k3 x4 (g_lex_Lines_l2 v3 (g_lex_Lines_k1) m2)) m5 x10 x11 = some r) FUEL ⟨_, _, rfl, h⟩ ?_ ?_))
            · rintro m5 _ ⟨x10, x11, rfl, h⟩
              rw [g_lex_Lines_l5] at h
              refine CWp.seq (srd 4 rfl [4, 5, 6, 7, 8, 15, 16, 17, 25] [] rfl (CWp.cond h rfl (fun h => ?_) (fun h => ?_)))
              · refine CWp.skip (CWp.mid (fun e => ∃ x12 x13, e = ⟨[(4, [], .list true 45 (x5.map (fun (x : List SField) => .list false 49 (x.map eSField)))), (5, [], zI x4), (6, [], .str v7), (7, [], .list true 49 (x12.map eSField)), (8, [], zI x13), (15, [], .list true 9 (v3.map AV.str)), (16, [], zI (v3.length : Int)), (17, [], zI x4)], [], [], [], base⟩ ∧ g_lex_Lines_k6 (g_lex_Lines_l5 x4 x5 v7 (g_lex_Lines_k4 x4 x5 (g_lex_Lines_l2 v3 (g_lex_Lines_k1) m2)) (g_lex_Lines_k3 x4 (g_lex_Lines_l2 v3 (g_lex_Lines_k1) m2)) m5) x12 x13 = some r) ?_ ?_)
                · refine CWp.block (CWp.seq (CWp.seq (CWp.region ?_)))
                  obtain ⟨v14, hv14, h⟩ := bI h
                  refine rn 2 rfl (rd (rBy hv14) ?_)
                  obtain ⟨v15, hv15, h⟩ := bI h
                  refine pCall Tryz.call35 (g_lex_blank_w hv15) rfl ?_
                  refine COps.done [4, 5, 6, 7, 8, 15, 16, 17, 31] [] rfl (CWp.cond h rfl (fun h => ?_) (fun h => ?_))
                  · refine CWp.keep [4, 5, 6, 7, 8, 15, 16, 17] [] rfl (CWp.exit ?_)
                    exact ⟨_, _, rfl, h⟩
                  refine CWp.skip (CWp.seq (CWp.seq (CWp.region ?_)))
                  obtain ⟨v16, hv16, h⟩ := bI h
                  refine rn 2 rfl (rd (rBy hv16) ?_)
                  refine rn 1 rfl (COps.done [4, 5, 6, 7, 8, 15, 16, 17, 35] [] rfl (CWp.cond h rfl (fun h => ?_) (fun h => ?_)))
                  · refine CWp.mid (fun e => ∃ x17, e = ⟨[(4, [], .list true 45 (x17.map (fun (x : List SField) => .list false 49 (x.map eSField)))), (15, [], .list true 9 (v3.map AV.str)), (16, [], zI (v3.length : Int)), (17, [], zI x4)], [], [], [], base⟩ ∧ g_lex_Lines_k7 (g_lex_Lines_k3 x4 (g_lex_Lines_l2 v3 (g_lex_Lines_k1) m2)) x17 = some r) ?_ ?_
                    · refine CWp.seq (CWp.region (rh 3 [x10.length] [] rfl ⟨List.length_map .., trivial⟩ (COps.done [4, 7, 15, 16, 17, 38] [] rfl (CWp.cond h rfl (fun h => ?_) (fun h => ?_)))))
                      · refine CWp.region ?_
                        obtain ⟨v18, hv18, h⟩ := bI h
                        refine rh 3 [] [39] rfl trivial (cApp (f := (fun (x : List SField) => .list false 49 (x.map eSField))) hv18 ?_)
                        refine rh 1 [] [4] rfl trivial (COps.done [4, 15, 16, 17] [] rfl ?_)
                        exact ⟨_, rfl, h⟩
                      refine CWp.keep [4, 15, 16, 17] [] rfl (CWp.skip ?_)
                      exact ⟨_, rfl, h⟩
                    rintro _ ⟨x17, rfl, h⟩
                    unfold g_lex_Lines_k7 at h
                    refine CWp.exit ?_
                    exact ⟨_, rfl, h⟩
                  refine CWp.skip (srd 2 rfl [4, 5, 6, 7, 8, 9, 15, 16, 17] [] rfl (CWp.mid (fun e => ∃ x19, e = ⟨[(4, [], .list true 45 (x5.map (fun (x : List SField) => .list false 49 (x.map eSField)))), (5, [], zI x4), (6, [], .str v7), (7, [], .list true 49 (x10.map eSField)), (8, [], zI x19), (9, [], zI x11), (15, [], .list true 9 (v3.map AV.str)), (16, [], zI (v3.length : Int)), (17, [], zI x4)], [], [], [], base⟩ ∧ g_lex_Lines_k8 x4 v7 x10 x11 (g_lex_Lines_l5 x4 x5 v7 (g_lex_Lines_k4 x4 x5 (g_lex_Lines_l2 v3 (g_lex_Lines_k1) m2)) (g_lex_Lines_k3 x4 (g_lex_Lines_l2 v3 (g_lex_Lines_k1) m2)) m5) x19 = some r) ?_ ?_))
                  · refine CWp.block (CWp.loop (fun m9 e => ∃ x22, e = ⟨[(4, [], .list true 45 (x5.map (fun (x : List SField) => .list false 49 (x.map eSField)))), (5, [], zI x4), (6, [], .str v7), (7, [], .list true 49 (x10.map eSField)), (8, [], zI x22), (9, [], zI x11), (15, [], .list true 9 (v3.map AV.str)), (16, [], zI (v3.length : Int)), (17, [], zI x4)], [], [], [], base⟩ ∧ g_lex_Lines_l9 v7 (g_lex_Lines_k8 x4 v7 x10 x11 (g_lex_Lines_l5 x4 x5 v7 (g_lex_Lines_k4 x4 x5 (g_lex_Lines_l2 v3 (g_lex_Lines_k1) m2)) (g_lex_Lines_k3 x4 (g_lex_Lines_l2 v3 (g_lex_Lines_k1) m2)) m5)) m9 x22 = some r) FUEL ⟨_, rfl, h⟩ ?_ ?_)
                    · rintro m9 _ ⟨x22, rfl, h⟩
                      rw [g_lex_Lines_l9] at h
                      refine CWp.seq (CWp.seq (CWp.region ?_))
                      obtain ⟨v23, hv23, h⟩ := bI h
                      refine rn 7 rfl (rdg 48 true [] (fun ht => rBy (gd hv23 (ht.1 _ rfl))) ?_)
                      obtain ⟨v24, hv24, h⟩ := bI h
                      refine pCallg 48 true [] Tryz.call35 (fun ht => g_lex_blank_w (gd hv24 (ht.1 _ rfl))) rfl ?_
                      refine rn 2 rfl (COps.done [4, 5, 6, 7, 8, 9, 15, 16, 17, 54] [] rfl (CWp.cond h rfl (fun h => ?_) (fun h => ?_)))
                      · refine CWp.skip (CWp.block ?_)
                        refine CWp.region (rn 3 rfl (COps.done [4, 5, 6, 7, 8, 9, 15, 16, 17] [] rfl ?_))
                        exact ⟨_, rfl, h⟩
                      refine CWp.keep [4, 5, 6, 7, 8, 9, 15, 16, 17] [] rfl (CWp.exit ?_)
                      exact ⟨_, rfl, h⟩
                    rintro _ ⟨_, _, h⟩
                    rw [g_lex_Lines_l9] at h; cases h
                  rintro _ ⟨x19, rfl, h⟩
                  unfold g_lex_Lines_k8 at h
                  refine CWp.region ?_
                  obtain ⟨v20, hv20, h⟩ := bI h
                  refine rh 4 [] [57] rfl trivial (rd (rSub hv20) ?_)
                  obtain ⟨v21, hv21, h⟩ := bI h
                  refine rn 6 rfl (cApp (f := eSField) hv21 ?_)
                  refine rh 1 [] [7] rfl trivial (COps.done [4, 5, 6, 7, 8, 15, 16, 17] [] rfl ?_)
                  exact ⟨_, _, rfl, h⟩
                rintro _ ⟨x12, x13, rfl, h⟩
                unfold g_lex_Lines_k6 at h
                refine CWp.region (rn 3 rfl (COps.done [4, 5, 6, 7, 8, 15, 16, 17] [] rfl ?_))
                exact ⟨_, _, rfl, h⟩
              refine CWp.keep [4, 7, 15, 16, 17] [] rfl (CWp.exit ?_)
              exact ⟨_, rfl, h⟩
            rintro _ ⟨_, _, _, h⟩
            rw [g_lex_Lines_l5] at h; cases h
          rintro _ ⟨x8, rfl, h⟩
          unfold g_lex_Lines_k4 at h
          refine CWp.seq (CWp.region (rh 3 [x8.length] [] rfl ⟨List.length_map .., trivial⟩ (COps.done [4, 7, 15, 16, 17, 71] [] rfl (CWp.cond h rfl (fun h => ?_) (fun h => ?_)))))
          · refine CWp.region ?_
            obtain ⟨v9, hv9, h⟩ := bI h
            refine rh 3 [] [72] rfl trivial (cApp (f := (fun (x : List SField) => .list false 49 (x.map eSField))) hv9 ?_)
            refine rh 1 [] [4] rfl trivial (COps.done [4, 15, 16, 17] [] rfl ?_)
            exact ⟨_, rfl, h⟩
          refine CWp.keep [4, 15, 16, 17] [] rfl (CWp.skip ?_)
          exact ⟨_, rfl, h⟩
        rintro _ ⟨x6, rfl, h⟩
        unfold g_lex_Lines_k3 at h
        refine CWp.region (rn 2 rfl (COps.done [4, 15, 16, 17] [] rfl ?_))
        exact ⟨_, _, rfl, h⟩
      refine CWp.keep [4] [] rfl (CWp.exit ?_)
      exact ⟨_, rfl, h⟩
    rintro _ ⟨_, _, _, h⟩
    rw [g_lex_Lines_l2] at h; cases h
  rintro _ ⟨x2, rfl, h⟩
  unfold g_lex_Lines_k1 at h
  refine CWp.seq (CWp.region (rh 3 [] [77, 2] rfl trivial (COps.done [2, 3] [] rfl ?_)))
  cases h; exact CWp.ret ⟨.inl rfl, rfl, rfl⟩
def g_thresh_words : Option (List (List UInt8)) :=
  some [[109, 101, 109, 111, 114, 121], [100, 105, 115, 107], [112, 105, 100]]
theorem g_thresh_words_w {r : List (List UInt8)} (h : g_thresh_words = some r) : PCall Tryz.prog 40 [] (.list true 9 (r.map AV.str)) := by
  refine PCall.body Tryz.func40 rfl rfl rfl rfl fun base => ?_
  unfold g_thresh_words at h
  refine srd 1 rfl [] [] rfl (CWp.seq (CWp.region (rh 2 [] [0] rfl trivial (COps.done [0] [] rfl ?_))))
  cases h; exact CWp.ret ⟨.inl rfl, rfl, rfl⟩
def g_slices_Index_string_k1 : Option Int :=
  some (-1)
def g_slices_Index_string_l2 (a0 : List (List UInt8)) (a1 : List UInt8) (k290 : Option Int) : Nat → Int → Option Int
  | 0, _ => none
  | m2 + 1, x1 =>
    bif decide (x1 < (a0.length : Int)) then
      bO (idx a0 x1) fun v2 =>
      bif a1 == v2 then
        some x1
      else
        (g_slices_Index_string_l2 a0 a1 k290 m2) (w64 (x1 + 1))
    else
      k290
def g_slices_Index_string (a0 : List (List UInt8)) (a1 : List UInt8) : Option Int :=
  g_slices_Index_string_l2 a0 a1 g_slices_Index_string_k1 FUEL 0
theorem g_slices_Index_string_w {a0 : List (List UInt8)} {a1 : List UInt8} {r : Int} (h : g_slices_Index_string a0 a1 = some r) : PCall Tryz.prog 57 [.list false 9 (a0.map AV.str), .str a1] (zI r) := by
  refine PCall.body Tryz.func57 rfl rfl rfl rfl fun base => ?_
  unfold g_slices_Index_string at h
  refine srd 1 rfl [0, 1] [] rfl (CWp.mid (fun e => e = ⟨[], [], [], [], base⟩ ∧ g_slices_Index_string_k1 = some r) ?_ ?_)
  · refine CWp.seq (CWp.region (rh 3 [a0.length] [] rfl ⟨List.length_map .., trivial⟩ (COps.done [0, 1, 7, 8] [] rfl (CWp.block (CWp.loop (fun m2 e => ∃ x1, e = ⟨[(0, [], .list false 9 (a0.map AV.str)), (1, [], .str a1), (7, [], zI (a0.length : Int)), (8, [], zI x1)], [], [], [], base⟩ ∧ g_slices_Index_string_l2 a0 a1 (g_slices_Index_string_k1) m2 x1 = some r) FUEL ⟨_, rfl, h⟩ ?_ ?_)))))
    · rintro m2 _ ⟨x1, rfl, h⟩
      rw [g_slices_Index_string_l2] at h
      refine srd 1 rfl [0, 1, 7, 8, 9] [] rfl (CWp.seq (CWp.cond h rfl (fun h => ?_) (fun h => ?_)))
      · refine CWp.skip (CWp.seq (CWp.block (srd 2 rfl [0, 1, 5, 7, 8] [] rfl (CWp.seq (CWp.region ?_)))))
        obtain ⟨v2, hv2, h⟩ := bI h
        refine rn 3 rfl (rd (rIx hv2) ?_)
        refine rn 2 rfl (COps.done [0, 1, 5, 7, 8, 16] [] rfl (CWp.cond h rfl (fun h => ?_) (fun h => ?_)))
        · refine srd 2 rfl [4] [] rfl ?_
          cases h; exact CWp.ret ⟨.inl rfl, rfl, rfl⟩
        refine CWp.skip ?_
        refine CWp.region (rn 2 rfl (COps.done [0, 1, 7, 8] [] rfl ?_))
        exact ⟨_, rfl, h⟩
      refine CWp.keep [] [] rfl (CWp.exit ?_)
      exact ⟨rfl, h⟩
    rintro _ ⟨_, _, h⟩
    rw [g_slices_Index_string_l2] at h; cases h
  rintro _ ⟨rfl, h⟩
  unfold g_slices_Index_string_k1 at h
  refine srd 1 rfl [4] [] rfl ?_
  cases h; exact CWp.ret ⟨.inl rfl, rfl, rfl⟩
def g_thresh_Signal (a0 : List UInt8) : Option (Int × Bool) :=
  bO (g_thresh_words) fun v1 =>
  bO (g_slices_Index_string v1 a0) fun v2 =>
  some (max v2 0, decide (v2 ≥ 0))
theorem g_thresh_Signal_w {a0 : List UInt8} {r : Int × Bool} (h : g_thresh_Signal a0 = some r) : PCall Tryz.prog 47 [.str a0] (.tuple [zI r.1, zB r.2]) := by
  refine PCall.body Tryz.func47 rfl rfl rfl rfl fun base => ?_
  unfold g_thresh_Signal at h
  refine srd 2 rfl [0] [] rfl (CWp.seq (CWp.region ?_))
  obtain ⟨v1, hv1, h⟩ := bI h
  refine pCall Tryz.call40 (g_thresh_words_w hv1) rfl ?_
  refine rn 1 rfl ?_
  obtain ⟨v2, hv2, h⟩ := bI h
  refine pCall Tryz.call57 (g_slices_Index_string_w hv2) rfl ?_
  refine rn 1 rfl (COps.done [4] [] rfl (srd 6 rfl [2, 3] [] rfl ?_))
  cases h; exact CWp.ret ⟨.inl rfl, rfl, rfl⟩
def g_thresh_number (a0 : List UInt8) : Option Int :=
  bO (atoiO a0) fun v1 =>
  bO (bif (!v1.2) then some default else (itoaO v1.1)) fun v2 =>
  bif (!v1.2) || (!(v2 == a0)) then
    some 0
  else
    some v1.1
theorem g_thresh_number_w {a0 : List UInt8} {r : Int} (h : g_thresh_number a0 = some r) : PCall Tryz.prog 48 [.str a0] (zI r) := by
  refine PCall.body Tryz.func48 rfl rfl rfl rfl fun base => ?_
  unfold g_thresh_number at h
  refine srd 1 rfl [0] [] rfl (CWp.seq (CWp.region (rn 1 rfl ?_)))
  obtain ⟨v1, hv1, h⟩ := bI h
  refine cCall [] Tryz.call58 (atoiO_w hv1) rfl rfl ?_
  rintro _ _ ⟨tev1, pev1, rfl, rfl⟩
  refine rn 5 rfl (COps.done [0, 3, 4] [] rfl (CWp.seq (CWp.seq (CWp.region (rn 1 rfl (rd (rErr Tryz.underlying79) ?_))))))
  refine rn 2 rfl ?_
  obtain ⟨v2, hv2, h⟩ := bI h
  refine pCallg 12 false [] Tryz.call39 (fun ht => itoaO_w (gdf hv2 (ht.1 _ rfl))) rfl ?_
  refine rn 3 rfl (COps.done [3, 17] [] rfl (CWp.cond h rfl (fun h => ?_) (fun h => ?_)))
  · refine srd 1 rfl [2] [] rfl ?_
    cases h; exact CWp.ret ⟨.inl rfl, rfl, rfl⟩
  refine CWp.skip (srd 2 rfl [2] [] rfl ?_)
  cases h; exact CWp.ret ⟨.inl rfl, rfl, rfl⟩
def g_quant_units : Option (List Sunit) :=
  some [(⟨[84, 105], 1099511627776⟩ : Sunit), (⟨[84], 1000000000000⟩ : Sunit), (⟨[71, 105], 1073741824⟩ : Sunit), (⟨[71], 1000000000⟩ : Sunit), (⟨[77, 105], 1048576⟩ : Sunit), (⟨[77], 1000000⟩ : Sunit), (⟨[75, 105], 1024⟩ : Sunit), (⟨[107], 1000⟩ : Sunit)]
theorem g_quant_units_w {r : List Sunit} (h : g_quant_units = some r) : PCall Tryz.prog 38 [] (.list true 74 (r.map eSunit)) := by
  refine PCall.body Tryz.func38 rfl rfl rfl rfl fun base => ?_
  unfold g_quant_units at h
  refine srd 1 rfl [] [] rfl (CWp.seq (CWp.region (rh 10 [] [0] rfl trivial (COps.done [0] [] rfl ?_))))
  cases h; exact CWp.ret ⟨.inl rfl, rfl, rfl⟩
def g_quant_Unit_1 (a0 : Sunit) (a1 : List UInt8) : Option Bool :=
  some (a0.name == a1)
theorem g_quant_Unit_1_w {a0 : Sunit} {a1 : List UInt8} {i1 : Nat} {r : Bool} (h : g_quant_Unit_1 a0 a1 = some r) : FCall Tryz.prog 78 [eSunit a0, .gptr i1 0] [(i1, [.str a1])] (fun v outs => v = zB r ∧ outs = [(i1, [.str a1])]) := by
  refine FCall.of Tryz.func78 rfl rfl rfl rfl fun base => ?_
  unfold g_quant_Unit_1 at h
  refine srd 2 rfl [1, 2] [2] rfl (CWp.seq (CWp.region (rh 5 [0] [] rfl ⟨rfl, trivial⟩ (COps.done [3] [] rfl ?_))))
  cases h; exact CWp.ret ⟨.inl rfl, _, [0], _, _, rfl, rfl, rfl, rfl, rfl⟩
def g_slices_IndexFunc_unit_k1 : Option Int :=
  some (-1)
def g_slices_IndexFunc_unit_l2 (a0 : List Sunit) (a1 : Sunit → Option Bool) (k290 : Option Int) : Nat → Int → Option Int
  | 0, _ => none
  | m2 + 1, x1 =>
    bif decide (x1 < (a0.length : Int)) then
      bO (idx a0 x1) fun v2 =>
      bO (a1 v2) fun v3 =>
      bif v3 then
        some x1
      else
        (g_slices_IndexFunc_unit_l2 a0 a1 k290 m2) (w64 (x1 + 1))
    else
      k290
def g_slices_IndexFunc_unit (a0 : List Sunit) (a1 : Sunit → Option Bool) : Option Int :=
  g_slices_IndexFunc_unit_l2 a0 a1 g_slices_IndexFunc_unit_k1 FUEL 0
theorem g_slices_IndexFunc_unit_w {a0 : List Sunit} {a1 : Sunit → Option Bool} {r : Int} {ins : Ob} {f1 : Nat} {c1 : List AV} (hp1 : Fn1 Tryz.prog f1 c1 ins eSunit zB a1) (h : g_slices_IndexFunc_unit a0 a1 = some r) : FCall Tryz.prog 77 [.list false 74 (a0.map eSunit), .fn f1 c1] ins (fun v outs => v = zI r ∧ outs = ins) := by
  refine FCall.ofAll Tryz.func77 rfl rfl rfl rfl fun base => ?_
  unfold g_slices_IndexFunc_unit at h
  refine srd 1 rfl [0, 1] [] rfl (CWp.mid (fun e => e = ⟨[], [], [], ins, base⟩ ∧ g_slices_IndexFunc_unit_k1 = some r) ?_ ?_)
  · refine CWp.seq (CWp.region (rh 3 [a0.length] [] rfl ⟨List.length_map .., trivial⟩ (COps.done [0, 1, 7, 8] [] rfl (CWp.block (CWp.loop (fun m2 e => ∃ x1, e = ⟨[(0, [], .list false 74 (a0.map eSunit)), (1, [], .fn f1 c1), (7, [], zI (a0.length : Int)), (8, [], zI x1)], [], [], ins, base⟩ ∧ g_slices_IndexFunc_unit_l2 a0 a1 (g_slices_IndexFunc_unit_k1) m2 x1 = some r) FUEL ⟨_, rfl, h⟩ ?_ ?_)))))
    · rintro m2 _ ⟨x1, rfl, h⟩
      rw [g_slices_IndexFunc_unit_l2] at h
      refine srd 1 rfl [0, 1, 7, 8, 9] [] rfl (CWp.seq (CWp.cond h rfl (fun h => ?_) (fun h => ?_)))
      · refine CWp.skip (CWp.seq (CWp.block (srd 2 rfl [0, 1, 5, 7, 8] [] rfl (CWp.seq (CWp.region ?_)))))
        obtain ⟨v2, hv2, h⟩ := bI h
        refine rn 3 rfl (rd (rIx hv2) ?_)
        refine rn 1 rfl ?_
        obtain ⟨v3, hv3, h⟩ := bI h
        refine cCallV hp1.1 (hp1.2 _ _ hv3) ?_
        rintro _ _ ⟨rfl, rfl⟩
        refine COps.done [0, 1, 5, 7, 8, 16] [] rfl (CWp.cond h rfl (fun h => ?_) (fun h => ?_))
        · refine srd 2 rfl [4] [] rfl (CWp.ret ?_)
          cases h
          exact ⟨.inl rfl, _, rfl, rfl, rfl, rfl⟩
        refine CWp.skip ?_
        refine CWp.region (rn 2 rfl (COps.done [0, 1, 7, 8] [] rfl ?_))
        exact ⟨_, rfl, h⟩
      refine CWp.keep [] [] rfl (CWp.exit ?_)
      exact ⟨rfl, h⟩
    rintro _ ⟨_, _, h⟩
    rw [g_slices_IndexFunc_unit_l2] at h; cases h
  rintro _ ⟨rfl, h⟩
  unfold g_slices_IndexFunc_unit_k1 at h
  refine srd 1 rfl [4] [] rfl (CWp.ret ?_)
  cases h
  exact ⟨.inl rfl, _, rfl, rfl, rfl, rfl⟩
def g_quant_Unit (a0 : List UInt8) : Option Int :=
  bif a0 == ([] : List UInt8) then
    some 1
  else
    bO (g_quant_units) fun v2 =>
    bO (g_slices_IndexFunc_unit v2 (fun u0 => g_quant_Unit_1 u0 a0)) fun v3 =>
    bif decide (v3 < 0) then
      some 0
    else
      bO (idx v2 v3) fun v4 =>
      some v4.n
theorem g_quant_Unit_w {a0 : List UInt8} {r : Int} (h : g_quant_Unit a0 = some r) : PCall Tryz.prog 61 [.str a0] (zI r) := by
  refine PCall.body Tryz.func61 rfl rfl rfl rfl fun base => ?_
  unfold g_quant_Unit at h
  refine CWp.seq (CWp.region (cBox ?_))
  rintro o1 -
  refine rn 1 rfl (COps.done [1] [] rfl (CWp.seq (CWp.seq (CWp.region (rh 2 [0] [] rfl ⟨rfl, trivial⟩ (COps.done [1, 6] [] rfl (CWp.cond h rfl (fun h => ?_) (fun h => ?_))))))))
  · refine CWp.seq (CWp.region (rn 1 rfl (COps.objs [] rfl ?_)))
    refine COps.done [2] [] rfl ?_
    cases h; exact CWp.ret ⟨.inl rfl, rfl, rfl⟩
  refine CWp.skip (CWp.seq (CWp.region ?_))
  obtain ⟨v2, hv2, h⟩ := bI h
  refine pCall Tryz.call38 (g_quant_units_w hv2) rfl ?_
  refine rh 1 [] [3] rfl trivial (COps.done [1, 3] [] rfl (CWp.seq (CWp.region (rn 1 rfl (rd (rMk) ?_)))))
  obtain ⟨v3, hv3, h⟩ := bI h
  refine kCall [0] Tryz.call77 (g_slices_IndexFunc_unit_w ⟨Tryz.call78, fun _ _ hb => g_quant_Unit_1_w hb⟩ hv3) rfl rfl ?_
  refine rn 1 rfl (COps.objs [] rfl ?_)
  refine COps.done [3, 4] [] rfl (CWp.seq (srd 2 rfl [3, 4, 12] [] rfl (CWp.cond h rfl (fun h => ?_) (fun h => ?_))))
  · refine srd 1 rfl [2] [] rfl ?_
    cases h; exact CWp.ret ⟨.inl rfl, rfl, rfl⟩
  refine CWp.skip (CWp.seq (CWp.region ?_))
  obtain ⟨v4, hv4, h⟩ := bI h
  refine rn 2 rfl (rd (rIx hv4) ?_)
  refine rn 3 rfl (COps.done [2] [] rfl ?_)
  cases h; exact CWp.ret ⟨.inl rfl, rfl, rfl⟩
def g_sat_number (a0 : Int) : Option Int :=
  some (max a0 0)
theorem g_sat_number_w {a0 : Int} {r : Int} (h : g_sat_number a0 = some r) : PCall Tryz.prog 79 [zI a0] (zI r) := by
  refine PCall.body Tryz.func79 rfl rfl rfl rfl fun base => ?_
  unfold g_sat_number at h
  refine srd 1 rfl [0] [] rfl (srd 3 rfl [2] [] rfl ?_)
  cases h; exact CWp.ret ⟨.inl rfl, rfl, rfl⟩
def g_sat_Mul (a0 : Int) (a1 : Int) : Option Int :=
  bO (g_sat_number a0) fun v1 =>
  bO (g_sat_number a1) fun v2 =>
  bO (bif (decide (v2 > 0)) then (quoO .i64 9223372036854775807 v2) else some default) fun v3 =>
  bif (decide (v2 > 0)) && (decide (v1 > v3)) then
    some 9223372036854775807
  else
    some (w64 (v1 * v2))
theorem g_sat_Mul_w {a0 : Int} {a1 : Int} {r : Int} (h : g_sat_Mul a0 a1 = some r) : PCall Tryz.prog 63 [zI a0, zI a1] (zI r) := by
  refine PCall.body Tryz.func63 rfl rfl rfl rfl fun base => ?_
  unfold g_sat_Mul at h
  refine srd 1 rfl [0, 1] [] rfl (CWp.seq (CWp.region (rn 1 rfl ?_)))
  obtain ⟨v1, hv1, h⟩ := bI h
  refine pCall Tryz.call79 (g_sat_number_w hv1) rfl ?_
  refine rn 1 rfl ?_
  obtain ⟨v2, hv2, h⟩ := bI h
  refine pCall Tryz.call79 (g_sat_number_w hv2) rfl ?_
  refine rn 2 rfl (COps.done [0, 1] [] rfl (CWp.seq (CWp.seq (CWp.region ?_))))
  obtain ⟨v3, hv3, h⟩ := bI h
  refine rn 5 rfl (rdg 11 true [] (fun ht => rQuo (gd hv3 (ht.1 _ rfl))) ?_)
  refine rn 2 rfl (COps.done [0, 1, 16] [] rfl (CWp.cond h rfl (fun h => ?_) (fun h => ?_)))
  · refine srd 1 rfl [4] [] rfl ?_
    cases h; exact CWp.ret ⟨.inl rfl, rfl, rfl⟩
  refine CWp.skip (srd 4 rfl [4] [] rfl ?_)
  cases h; exact CWp.ret ⟨.inl rfl, rfl, rfl⟩
def g_sat_Add (a0 : Int) (a1 : Int) : Option Int :=
  bO (g_sat_number a0) fun v1 =>
  bO (g_sat_number a1) fun v2 =>
  some (w64 (v1 + (min v2 (w64 (9223372036854775807 - v1)))))
theorem g_sat_Add_w {a0 : Int} {a1 : Int} {r : Int} (h : g_sat_Add a0 a1 = some r) : PCall Tryz.prog 62 [zI a0, zI a1] (zI r) := by
  refine PCall.body Tryz.func62 rfl rfl rfl rfl fun base => ?_
  unfold g_sat_Add at h
  refine srd 1 rfl [0, 1] [] rfl (CWp.seq (CWp.region (rn 1 rfl ?_)))
  obtain ⟨v1, hv1, h⟩ := bI h
  refine pCall Tryz.call79 (g_sat_number_w hv1) rfl ?_
  refine rn 1 rfl ?_
  obtain ⟨v2, hv2, h⟩ := bI h
  refine pCall Tryz.call79 (g_sat_number_w hv2) rfl ?_
  refine rn 2 rfl (COps.done [0, 1] [] rfl (srd 7 rfl [4] [] rfl ?_))
  cases h; exact CWp.ret ⟨.inl rfl, rfl, rfl⟩
def g_quant_Read_k1 (v3 : Int) (x4 : Int) : Option (Int × Int) :=
  bO (g_sat_Mul x4 v3) fun v5 =>
  some (v5, 0)
def g_quant_Read_l2 (v2 : List UInt8) (k290 : Int → Option (Int × Int)) : Nat → Int → Int → Option (Int × Int)
  | 0, _, _ => none
  | m2 + 1, x7, x8 =>
    bif decide (x7 < (v2.length : Int)) then
      bO (idx v2 x7) fun v9 =>
      bO (g_sat_Mul x8 10) fun v10 =>
      bO (g_sat_Add v10 (w64 (IntKind.u8.wrap ((v9.toNat : Int) - 48)))) fun v11 =>
      (g_quant_Read_l2 v2 k290 m2) (w64 (x7 + 1)) v11
    else
      k290 x8
def g_quant_Read (a0 : List UInt8) : Option (Int × Int) :=
  bO (trimO a0 [48, 49, 50, 51, 52, 53, 54, 55, 56, 57]) fun v1 =>
  bO (slO a0 0 (w64 ((a0.length : Int) - (v1.length : Int)))) fun v2 =>
  bO (g_quant_Unit v1) fun v3 =>
  bif (v2 == ([] : List UInt8)) || (v3 == 0) then
    some (0, 2)
  else
    bO (bytesO v2) fun _v6 =>
    g_quant_Read_l2 v2 (g_quant_Read_k1 v3) FUEL 0 0
theorem g_quant_Read_w {a0 : List UInt8} {r : Int × Int} (h : g_quant_Read a0 = some r) : PCall Tryz.prog 50 [.str a0] (.tuple [zI r.1, zI r.2]) := by
  refine PCall.body Tryz.func50 rfl rfl rfl rfl fun base => ?_
  unfold g_quant_Read at h
  refine srd 2 rfl [0] [] rfl (CWp.seq (CWp.region (rn 1 rfl ?_)))
  obtain ⟨v1, hv1, h⟩ := bI h
  refine pCall Tryz.call60 (trimO_w hv1) rfl ?_
  refine rn 1 rfl (COps.done [0, 4] [] rfl (CWp.seq (CWp.region ?_)))
  obtain ⟨v2, hv2, h⟩ := bI h
  refine rn 6 rfl (rd (rSub hv2) ?_)
  refine rn 1 rfl (COps.done [4, 5] [] rfl (CWp.seq (CWp.region (rn 1 rfl ?_))))
  obtain ⟨v3, hv3, h⟩ := bI h
  refine pCall Tryz.call61 (g_quant_Unit_w hv3) rfl ?_
  refine rn 1 rfl (COps.done [5, 6] [] rfl (CWp.seq (srd 6 rfl [5, 6, 26] [] rfl (CWp.cond h rfl (fun h => ?_) (fun h => ?_)))))
  · refine srd 2 rfl [2, 3] [] rfl ?_
    cases h; exact CWp.ret ⟨.inl rfl, rfl, rfl⟩
  refine CWp.skip (srd 1 rfl [5, 6, 7] [] rfl (CWp.mid (fun e => ∃ x4, e = ⟨[(6, [], zI v3), (7, [], zI x4)], [], [], [], base⟩ ∧ g_quant_Read_k1 v3 x4 = some r) ?_ ?_))
  · refine CWp.seq (CWp.region ?_)
    obtain ⟨v6, hv6, h⟩ := bI h
    refine rn 1 rfl (cBytes (bytesO_ok hv6).1 ?_)
    refine rh 2 [v2.length] [] rfl ⟨List.length_map .., trivial⟩ (COps.done [6, 7, 28, 29, 30] [] rfl (CWp.block (CWp.loop (fun m2 e => ∃ x7 x8, e = ⟨[(6, [], zI v3), (7, [], zI x8), (28, [], .list false 5 (v2.map zU8)), (29, [], zI (v2.length : Int)), (30, [], zI x7)], [], [], [], base⟩ ∧ g_quant_Read_l2 v2 (g_quant_Read_k1 v3) m2 x7 x8 = some r) FUEL ⟨_, _, rfl, h⟩ ?_ ?_)))
    · rintro m2 _ ⟨x7, x8, rfl, h⟩
      rw [g_quant_Read_l2] at h
      refine srd 1 rfl [6, 7, 28, 29, 30, 31] [] rfl (CWp.seq (CWp.cond h rfl (fun h => ?_) (fun h => ?_)))
      · refine CWp.skip (CWp.seq (CWp.block (CWp.seq (CWp.region ?_))))
        obtain ⟨v9, hv9, h⟩ := bI h
        refine rd (rIx hv9) ?_
        refine rn 2 rfl (COps.done [6, 7, 9, 28, 29, 30] [] rfl ?_)
        refine CWp.region (rn 1 rfl ?_)
        obtain ⟨v10, hv10, h⟩ := bI h
        refine pCall Tryz.call63 (g_sat_Mul_w hv10) rfl ?_
        refine rn 3 rfl ?_
        obtain ⟨v11, hv11, h⟩ := bI h
        refine pCall Tryz.call62 (g_sat_Add_w hv11) rfl ?_
        refine rn 1 rfl (COps.done [6, 7, 28, 29, 30] [] rfl ?_)
        refine CWp.region (rn 2 rfl (COps.done [6, 7, 28, 29, 30] [] rfl ?_))
        exact ⟨_, _, rfl, h⟩
      refine CWp.keep [6, 7] [] rfl (CWp.exit ?_)
      exact ⟨_, rfl, h⟩
    rintro _ ⟨_, _, _, h⟩
    rw [g_quant_Read_l2] at h; cases h
  rintro _ ⟨x4, rfl, h⟩
  unfold g_quant_Read_k1 at h
  refine CWp.seq (CWp.region (rn 2 rfl ?_))
  obtain ⟨v5, hv5, h⟩ := bI h
  refine pCall Tryz.call63 (g_sat_Mul_w hv5) rfl ?_
  refine rn 2 rfl (COps.done [2, 3] [] rfl ?_)
  cases h; exact CWp.ret ⟨.inl rfl, rfl, rfl⟩
def g_thresh_Right (a0 : SThreshold) : Option Bool :=
  bif (decide (a0.signal < 0)) || (decide (a0.signal ≥ 3)) then
    some false
  else
    some (((((decide (a0.percent ≥ 1)) && (decide (a0.percent ≤ 100))) && (a0.amount == 0)) || ((a0.percent == 0) && (decide (a0.amount > 0)))) && (((a0.soft && (decide (a0.grace ≥ 1))) && (decide (a0.grace ≤ 1000))) || ((!a0.soft) && (a0.grace == 0))))
theorem g_thresh_Right_w {a0 : SThreshold} {r : Bool} (h : g_thresh_Right a0 = some r) : PCall Tryz.prog 26 [eSThreshold a0] (zB r) := by
  refine PCall.body Tryz.func26 rfl rfl rfl rfl fun base => ?_
  unfold g_thresh_Right at h
  refine srd 2 rfl [1] [1] rfl (CWp.seq (srd 8 rfl [1, 13] [1] rfl (CWp.cond h rfl (fun h => ?_) (fun h => ?_))))
  · refine srd 1 rfl [2] [] rfl ?_
    cases h; exact CWp.ret ⟨.inl rfl, rfl, rfl⟩
  refine CWp.skip (srd 14 rfl [1, 3] [1] rfl (srd 9 rfl [1, 3, 4] [1] rfl (srd 23 rfl [3, 4, 5] [] rfl (srd 8 rfl [2] [] rfl ?_))))
  cases h; exact CWp.ret ⟨.inl rfl, rfl, rfl⟩
def g_thresh_Read_k2 (v1 : List UInt8 × List UInt8 × Bool) (v2 : Int × Bool) (v3 : List UInt8 × List UInt8 × Bool) (x4 : Int) (x5 : Int) (x6 : Int) : Option (SThreshold × Int) :=
  bO (bif ((!v1.2.2) || (!v2.2)) then some default else (g_thresh_Right (⟨v2.1, x5, x6, v3.2.2, x4⟩ : SThreshold))) fun v7 =>
  bif ((!v1.2.2) || (!v2.2)) || (!v7) then
    some ((⟨0, 0, 0, false, 0⟩ : SThreshold), 2)
  else
    some ((⟨v2.1, x5, x6, v3.2.2, x4⟩ : SThreshold), 0)
def g_thresh_Read_k1 (v1 : List UInt8 × List UInt8 × Bool) (v2 : Int × Bool) (v3 : List UInt8 × List UInt8 × Bool) (x4 : Int) : Option (SThreshold × Int) :=
  bO (sufO v3.1 [37]) fun v8 =>
  bif v8.2 then
    bO (g_thresh_number v8.1) fun v9 =>
    g_thresh_Read_k2 v1 v2 v3 x4 v9 0
  else
    bO (g_quant_Read v3.1) fun v10 =>
    g_thresh_Read_k2 v1 v2 v3 x4 0 v10.1
def g_thresh_Read (a0 : List UInt8) : Option (SThreshold × Int) :=
  bO (cutO a0 [60]) fun v1 =>
  bO (g_thresh_Signal v1.1) fun v2 =>
  bO (cutO v1.2.1 [58]) fun v3 =>
  bif v3.2.2 then
    bO (g_thresh_number v3.2.1) fun v11 =>
    g_thresh_Read_k1 v1 v2 v3 v11
  else
    g_thresh_Read_k1 v1 v2 v3 0
theorem g_thresh_Read_w {a0 : List UInt8} {r : SThreshold × Int} (h : g_thresh_Read a0 = some r) : PCall Tryz.prog 36 [.str a0] (.tuple [eSThreshold r.1, zI r.2]) := by
  refine PCall.body Tryz.func36 rfl rfl rfl rfl fun base => ?_
  unfold g_thresh_Read at h
  refine srd 2 rfl [0, 2] [2] rfl (srd 1 rfl [0, 2, 4] [2, 4] rfl (CWp.seq (CWp.region (rn 1 rfl ?_))))
  obtain ⟨v1, hv1, h⟩ := bI h
  refine pCall Tryz.call46 (cutO_w hv1) rfl ?_
  refine rn 7 rfl (COps.done [2, 4, 5, 6, 7] [2, 4] rfl (CWp.seq (CWp.region (rn 1 rfl ?_))))
  obtain ⟨v2, hv2, h⟩ := bI h
  refine pCall Tryz.call47 (g_thresh_Signal_w hv2) rfl ?_
  refine rn 5 rfl (COps.done [2, 4, 6, 7, 8, 9] [2, 4] rfl (CWp.seq (CWp.region (rn 1 rfl ?_))))
  obtain ⟨v3, hv3, h⟩ := bI h
  refine pCall Tryz.call46 (cutO_w hv3) rfl ?_
  refine rn 7 rfl (COps.done [2, 4, 7, 8, 9, 10, 11, 12] [2, 4] rfl (srd 6 rfl [2, 4, 7, 9, 10, 11, 12] [2, 4] rfl (CWp.mid (fun e => ∃ x4, e = ⟨[(2, [], .lptr 2 0), (4, [], .lptr 4 0), (7, [], zB v1.2.2), (9, [], zB v2.2), (10, [], .str v3.1)], [], [(2, [zI 0, zI 0, zI 0, zB false, zI 0]), (4, [zI v2.1, zI 0, zI 0, zB v3.2.2, zI x4])], [], base⟩ ∧ g_thresh_Read_k1 v1 v2 v3 x4 = some r) ?_ ?_)))
  · refine srd 1 rfl [2, 4, 7, 9, 10, 11, 36] [2, 4] rfl (CWp.cond h rfl (fun h => ?_) (fun h => ?_))
    · refine CWp.region (rn 1 rfl ?_)
      obtain ⟨v11, hv11, h⟩ := bI h
      refine pCall Tryz.call48 (g_thresh_number_w hv11) rfl ?_
      refine rn 2 rfl (COps.done [2, 4, 7, 9, 10] [2, 4] rfl ?_)
      exact ⟨_, rfl, h⟩
    refine CWp.keep [2, 4, 7, 9, 10] [2, 4] rfl (CWp.skip ?_)
    exact ⟨_, rfl, h⟩
  rintro _ ⟨x4, rfl, h⟩
  unfold g_thresh_Read_k1 at h
  refine CWp.mid (fun e => ∃ x5 x6, e = ⟨[(2, [], .lptr 2 0), (4, [], .lptr 4 0), (7, [], zB v1.2.2), (9, [], zB v2.2)], [], [(2, [zI 0, zI 0, zI 0, zB false, zI 0]), (4, [zI v2.1, zI x5, zI x6, zB v3.2.2, zI x4])], [], base⟩ ∧ g_thresh_Read_k2 v1 v2 v3 x4 x5 x6 = some r) ?_ ?_
  · refine CWp.seq (CWp.region (rn 1 rfl ?_))
    obtain ⟨v8, hv8, h⟩ := bI h
    refine pCall Tryz.call49 (sufO_w hv8) rfl ?_
    refine rn 5 rfl (COps.done [2, 4, 7, 9, 10, 13, 14] [2, 4] rfl (srd 1 rfl [2, 4, 7, 9, 10, 13, 45] [2, 4] rfl (CWp.cond h rfl (fun h => ?_) (fun h => ?_))))
    · refine CWp.region (rn 1 rfl ?_)
      obtain ⟨v9, hv9, h⟩ := bI h
      refine pCall Tryz.call48 (g_thresh_number_w hv9) rfl ?_
      refine rn 2 rfl (COps.done [2, 4, 7, 9] [2, 4] rfl ?_)
      exact ⟨_, _, rfl, h⟩
    refine CWp.region (rn 1 rfl ?_)
    obtain ⟨v10, hv10, h⟩ := bI h
    refine pCall Tryz.call50 (g_quant_Read_w hv10) rfl ?_
    refine rn 5 rfl (COps.done [2, 4, 7, 9] [2, 4] rfl ?_)
    exact ⟨_, _, rfl, h⟩
  rintro _ ⟨x5, x6, rfl, h⟩
  unfold g_thresh_Read_k2 at h
  refine CWp.seq (CWp.seq (CWp.region (rn 8 rfl (COps.keepG [2, 4, 61, 62] rfl ?_))))
  obtain ⟨v7, hv7, h⟩ := bI h
  refine pCallg 61 false [] Tryz.call26 (fun ht => g_thresh_Right_w (gdf hv7 (ht.1 _ rfl))) rfl ?_
  refine rn 2 rfl (COps.done [2, 4, 65] [2, 4] rfl (CWp.cond h rfl (fun h => ?_) (fun h => ?_)))
  · refine srd 3 rfl [2, 3] [2] rfl ?_
    cases h; exact CWp.ret ⟨.inl rfl, rfl, rfl⟩
  refine CWp.skip (srd 3 rfl [2, 3] [2] rfl ?_)
  cases h; exact CWp.ret ⟨.inl rfl, rfl, rfl⟩
end
section
open Go.RowKit
def g_conf_fill_k1 (x0 : SConfig) (x1 : Int) (x2 : Int) (x3 : Int) (x4 : Int) (x5 : Int) (x6 : Int) (x7 : Int) (x8 : Int) (x9 : Int) (x10 : Int) : Option (Int × SConfig) :=
  some (0, (⟨(⟨x1, x2, x3⟩ : V3 Int), (⟨x4, x5, x6⟩ : V3 Int), x0.thresholds, x7, x8, x9, x10⟩ : SConfig))
def g_conf_fill_l2 (a0 : List Nat) (x0 : SConfig) (a1 : List SField) (k290 : Int → Int → Int → Int → Int → Int → Int → Int → Int → Int → Option (Int × SConfig)) : Nat → Int → Int → Int → Int → Int → Int → Int → Int → Int → Int → Int → Option (Int × SConfig)
  | 0, _, _, _, _, _, _, _, _, _, _, _ => none
  | m2 + 1, x11, x12, x13, x14, x15, x16, x17, x18, x19, x20, x21 =>
    bif decide (x21 < (a1.length : Int)) then
      bO (idx a1 x21) fun v22 =>
      bO (g_quant_Read v22.text) fun v23 =>
      bif v23.2 != 0 then
        some (v23.2, (⟨(⟨x11, x12, x14⟩ : V3 Int), (⟨x15, x16, x17⟩ : V3 Int), x0.thresholds, x18, x19, x20, x13⟩ : SConfig))
      else
        bO (idx a0 x21) fun v24 =>
        bO (sF_SConfig (⟨(⟨x11, x12, x14⟩ : V3 Int), (⟨x15, x16, x17⟩ : V3 Int), x0.thresholds, x18, x19, x20, x13⟩ : SConfig) v23.1 v24) fun v25 =>
        (g_conf_fill_l2 a0 x0 a1 k290 m2) v25.capacity.a v25.capacity.b v25.dead v25.capacity.c v25.allocatable.a v25.allocatable.b v25.allocatable.c v25.period v25.retries v25.maxAge (w64 (x21 + 1))
    else
      k290 x11 x12 x14 x15 x16 x17 x18 x19 x20 x13
def g_conf_fill (a0 : List Nat) (x0 : SConfig) (a1 : List SField) : Option (Int × SConfig) :=
  bif (a1.length : Int) != (a0.length : Int) then
    some (2, x0)
  else
    g_conf_fill_l2 a0 x0 a1 (g_conf_fill_k1 x0) FUEL x0.capacity.a x0.capacity.b x0.dead x0.capacity.c x0.allocatable.a x0.allocatable.b x0.allocatable.c x0.period x0.retries x0.maxAge 0
theorem g_conf_fill_w {a0 : List Nat} {x0 : SConfig} {a1 : List SField} {i0 : Nat} {i0m6 : Nat} {pi0m6 si0m6 : Slk 5} {r : Int × SConfig} (h : g_conf_fill a0 x0 a1 = some r) : FCall Tryz.prog 37 [.list false 70 (a0.map fun k => .gptr i0 k), .list false 49 (a1.map eSField)] [(i0, [zI x0.capacity.a, zI x0.capacity.b, zI x0.capacity.c, zI x0.allocatable.a, zI x0.allocatable.b, zI x0.allocatable.c, hdM i0m6 pi0m6 x0.thresholds si0m6, zI x0.period, zI x0.retries, zI x0.maxAge, zI x0.dead]), (i0m6, lob pi0m6 eSThreshold x0.thresholds si0m6)] (fun v outs => ∃ (i0m6_ : Nat) (pi0m6_ si0m6_ : Slk 5), v = zI r.1 ∧ outs = [(i0, [zI r.2.capacity.a, zI r.2.capacity.b, zI r.2.capacity.c, zI r.2.allocatable.a, zI r.2.allocatable.b, zI r.2.allocatable.c, hdM i0m6_ pi0m6_ r.2.thresholds si0m6_, zI r.2.period, zI r.2.retries, zI r.2.maxAge, zI r.2.dead]), (i0m6_, lob pi0m6_ eSThreshold r.2.thresholds si0m6_)]) := by
  refine FCall.of Tryz.func37 rfl rfl rfl rfl fun base => ?_
  unfold g_conf_fill at h
  refine srd 1 rfl [0, 1] [] rfl (CWp.seq (CWp.seq (CWp.region (rh 5 [a1.length, a0.length] [] rfl ⟨List.length_map .., List.length_map .., trivial⟩ (COps.done [0, 1, 13] [] rfl (CWp.cond h rfl (fun h => ?_) (fun h => ?_)))))))
  · refine srd 1 rfl [4] [] rfl (CWp.ret ?_)
    cases h
    exact ⟨.inl rfl, _, [0, 0], _, _, rfl, rfl, rfl, i0m6, pi0m6, si0m6, rfl, rfl⟩
  refine CWp.skip (CWp.mid (fun e => ∃ x1 x2 x3 x4 x5 x6 x7 x8 x9 x10, e = ⟨[], [], [], [(i0, [zI x1, zI x2, zI x3, zI x4, zI x5, zI x6, hdM i0m6 pi0m6 x0.thresholds si0m6, zI x7, zI x8, zI x9, zI x10]), (i0m6, lob pi0m6 eSThreshold x0.thresholds si0m6)], base⟩ ∧ g_conf_fill_k1 x0 x1 x2 x3 x4 x5 x6 x7 x8 x9 x10 = some r) ?_ ?_)
  · refine CWp.seq (CWp.region (rh 3 [a1.length] [] rfl ⟨List.length_map .., trivial⟩ (COps.done [0, 14, 15, 16] [] rfl (CWp.block (CWp.loop (fun m2 e => ∃ x11 x12 x13 x14 x15 x16 x17 x18 x19 x20 x21, e = ⟨[(0, [], .list false 70 (a0.map fun k => .gptr i0 k)), (14, [], .list false 49 (a1.map eSField)), (15, [], zI (a1.length : Int)), (16, [], zI x21)], [], [], [(i0, [zI x11, zI x12, zI x14, zI x15, zI x16, zI x17, hdM i0m6 pi0m6 x0.thresholds si0m6, zI x18, zI x19, zI x20, zI x13]), (i0m6, lob pi0m6 eSThreshold x0.thresholds si0m6)], base⟩ ∧ g_conf_fill_l2 a0 x0 a1 (g_conf_fill_k1 x0) m2 x11 x12 x13 x14 x15 x16 x17 x18 x19 x20 x21 = some r) FUEL ⟨_, _, _, _, _, _, _, _, _, _, _, rfl, h⟩ ?_ ?_)))))
    · rintro m2 _ ⟨x11, x12, x13, x14, x15, x16, x17, x18, x19, x20, x21, rfl, h⟩
      rw [g_conf_fill_l2] at h
      refine srd 1 rfl [0, 14, 15, 16, 17] [] rfl (CWp.seq (CWp.cond h rfl (fun h => ?_) (fun h => ?_)))
      · refine CWp.skip (CWp.seq (CWp.block (CWp.seq (CWp.region ?_))))
        obtain ⟨v22, hv22, h⟩ := bI h
        refine rn 1 rfl (rd (rIx hv22) ?_)
        refine rn 4 rfl (COps.done [0, 5, 6, 14, 15, 16] [6] rfl (CWp.seq (CWp.region (rn 2 rfl ?_))))
        obtain ⟨v23, hv23, h⟩ := bI h
        refine pCall Tryz.call50 (g_quant_Read_w hv23) rfl ?_
        refine rn 5 rfl (COps.done [0, 5, 7, 8, 14, 15, 16] [] rfl (CWp.seq (srd 2 rfl [0, 5, 7, 8, 14, 15, 16, 28] [] rfl (CWp.cond h rfl (fun h => ?_) (fun h => ?_)))))
        · refine srd 2 rfl [4] [] rfl (CWp.ret ?_)
          cases h
          exact ⟨.inl rfl, _, [0, 0], _, _, rfl, rfl, rfl, i0m6, pi0m6, si0m6, rfl, rfl⟩
        refine CWp.skip ?_
        refine CWp.region ?_
        obtain ⟨v24, hv24, h⟩ := bI h
        refine rn 2 rfl (rd (rIx (f := (fun k => .gptr i0 k)) hv24) ?_)
        obtain ⟨v25, hv25, h⟩ := bI h
        refine rn 3 rfl ?_
        obtain ⟨⟨_, hpv25⟩, hqv25⟩ := sF_SConfig_ok (L0 := hdM i0m6 pi0m6 x0.thresholds si0m6) hv25
        refine cStF 0 [zI v25.capacity.a, zI v25.capacity.b, zI v25.capacity.c, zI v25.allocatable.a, zI v25.allocatable.b, zI v25.allocatable.c, hdM i0m6 pi0m6 x0.thresholds si0m6, zI v25.period, zI v25.retries, zI v25.maxAge, zI v25.dead] hpv25 hqv25 ?_
        refine COps.done [0, 14, 15, 16] [] rfl ?_
        refine CWp.region (rn 2 rfl (COps.done [0, 14, 15, 16] [] rfl ?_))
        exact ⟨_, _, _, _, _, _, _, _, _, _, _, rfl, h⟩
      refine CWp.keep [] [] rfl (CWp.exit ?_)
      exact ⟨_, _, _, _, _, _, _, _, _, _, rfl, h⟩
    rintro _ ⟨_, _, _, _, _, _, _, _, _, _, _, _, h⟩
    rw [g_conf_fill_l2] at h; cases h
  rintro _ ⟨x1, x2, x3, x4, x5, x6, x7, x8, x9, x10, rfl, h⟩
  unfold g_conf_fill_k1 at h
  refine srd 1 rfl [4] [] rfl (CWp.ret ?_)
  cases h
  exact ⟨.inl rfl, _, [0, 0], _, _, rfl, rfl, rfl, i0m6, pi0m6, si0m6, rfl, rfl⟩
def g_conf_line (a0 : SConfig) (a1 : List ((List UInt8) × Int)) (a2 : List SField) : Option (Int × SConfig × (List ((List UInt8) × Int))) :=
  bO (idx a2 0) fun v1 =>
  bif (v1.text == [116, 104, 114, 101, 115, 104, 111, 108, 100]) && ((a2.length : Int) == 2) then
    bO (idx a2 1) fun v2 =>
    bO (g_thresh_Read v2.text) fun v3 =>
    bO (appO a0.thresholds [v3.1]) fun v4 =>
    some (v3.2, (⟨a0.capacity, a0.allocatable, v4, a0.period, a0.retries, a0.maxAge, a0.dead⟩ : SConfig), a1)
  else
    bif !((getL v1.text nmbL).isSome) then
      some (2, a0, a1)
    else
      bO (slO a2 1 (a2.length : Int)) fun v7 =>
      bO (g_conf_fill ((getL v1.text nmbL).getD ([] : List Nat)) a0 v7) fun v8 =>
      bif v8.1 != 0 then
        some (v8.1, v8.2, a1)
      else
        bif decide (((getL v1.text (setL v1.text (w64 (((getL v1.text a1).getD (0 : Int)) + 1)) a1)).getD (0 : Int)) > 1) then
          some (5, v8.2, setL v1.text (w64 (((getL v1.text a1).getD (0 : Int)) + 1)) a1)
        else
          some (0, v8.2, setL v1.text (w64 (((getL v1.text a1).getD (0 : Int)) + 1)) a1)
theorem g_conf_line_w {a0 : SConfig} {a1 : List ((List UInt8) × Int)} {a2 : List SField} {i0 i1 : Nat} {i0m6 : Nat} {pi0m6 si0m6 : Slk 5} {r : Int × SConfig × (List ((List UInt8) × Int))} (h : g_conf_line a0 a1 a2 = some r) : FCall Tryz.prog 17 [.gptr i0 0, .gmap i1, .list false 49 (a2.map eSField)] [(i0, [zI a0.capacity.a, zI a0.capacity.b, zI a0.capacity.c, zI a0.allocatable.a, zI a0.allocatable.b, zI a0.allocatable.c, hdM i0m6 pi0m6 a0.thresholds si0m6, zI a0.period, zI a0.retries, zI a0.maxAge, zI a0.dead]), (i0m6, lob pi0m6 eSThreshold a0.thresholds si0m6), (i1, mapO keS zI a1)] (fun v outs => ∃ (i0m6_ : Nat) (pi0m6_ si0m6_ : Slk 5), v = zI r.1 ∧ outs = [(i0, [zI r.2.1.capacity.a, zI r.2.1.capacity.b, zI r.2.1.capacity.c, zI r.2.1.allocatable.a, zI r.2.1.allocatable.b, zI r.2.1.allocatable.c, hdM i0m6_ pi0m6_ r.2.1.thresholds si0m6_, zI r.2.1.period, zI r.2.1.retries, zI r.2.1.maxAge, zI r.2.1.dead]), (i0m6_, lob pi0m6_ eSThreshold r.2.1.thresholds si0m6_), (i1, mapO keS zI r.2.2)]) := by
  refine FCall.of Tryz.func17 rfl rfl rfl rfl fun base => ?_
  unfold g_conf_line at h
  refine srd 1 rfl [0, 1, 2] [] rfl (CWp.seq (CWp.region ?_))
  obtain ⟨v1, hv1, h⟩ := bI h
  refine rn 1 rfl (rd (rIx hv1) ?_)
  refine rn 3 rfl (COps.done [0, 1, 2, 7] [] rfl (CWp.seq (CWp.seq (CWp.region (rh 7 [a2.length] [] rfl ⟨List.length_map .., trivial⟩ (COps.done [0, 1, 2, 7, 23] [] rfl (CWp.cond h rfl (fun h => ?_) (fun h => ?_))))))))
  · refine CWp.seq (CWp.region ?_)
    obtain ⟨v2, hv2, h⟩ := bI h
    refine rn 1 rfl (rd (rIx hv2) ?_)
    refine rn 2 rfl ?_
    obtain ⟨v3, hv3, h⟩ := bI h
    refine pCall Tryz.call36 (g_thresh_Read_w hv3) rfl ?_
    refine rn 6 rfl (COps.done [0, 8, 9] [8] rfl (CWp.seq (CWp.confG [0, 1, 2, 3, 4, 5, 6, 7, 8, 9, 10] (by kernel_rfl) (ConfK.of ?_))))
    refine kcfp 0 rfl [] [] rfl trivial (fun _ _ _ => rfl) trivial ?_
    refine kcfp 1 rfl [] [] rfl trivial (fun _ _ _ => rfl) trivial ?_
    refine kcfp 2 rfl [] [] rfl trivial (fun _ _ _ => rfl) trivial ?_
    refine kcfp 3 rfl [] [] rfl trivial (fun _ _ _ => rfl) trivial ?_
    refine kcfpo 4 rfl [0] rfl (fun _ _ => rfl) ⟨rfl, trivial⟩ ?_
    refine kcfp 5 rfl [] [(8, _)] rfl ⟨rfl, trivial⟩ (fun _ _ _ => rfl) trivial ?_
    refine kcfb (d := 38) (v := .list true 35 ([v3.1].map eSThreshold)) 6 rfl rfl (fun _ _ _ => rfl) (fun _ _ _ => rfl) ?_
    obtain ⟨v4, hv4, h⟩ := bI h
    refine kcg (ι := Nat × Slk 5 × Slk 5) ((0, Slk.nil, Slk.nil)) (fun g_ => [(39, [], hdM g_.1 g_.2.1 v4 g_.2.2)]) (fun g_ => [(i0, [zI a0.capacity.a, zI a0.capacity.b, zI a0.capacity.c, zI a0.allocatable.a, zI a0.allocatable.b, zI a0.allocatable.c, hdM i0m6 pi0m6 a0.thresholds si0m6, zI a0.period, zI a0.retries, zI a0.maxAge, zI a0.dead]), (g_.1, lob g_.2.1 eSThreshold v4 g_.2.2), (i1, mapO keS zI a1)]) 7 rfl [(36, [], _), (38, [], _)] ⟨rfl, rfl, trivial⟩ (fun fr X hf => ?_) (by kernel_rfl) (fun _ => ⟨rfl, by kernel_rfl⟩) ?_
    · refine cAppG (f := eSThreshold) 1 (fun _ => ⟨rfl, rfl, rfl⟩) hv4 ?_
      rintro m5 pm5 sm5
      exact COps.nil ⟨(m5, pm5, sm5), rfl⟩
    rintro ⟨m5, pm5, sm5⟩
    refine kcfp 8 rfl [] [] rfl trivial (fun _ _ _ => rfl) trivial ?_
    refine kcfp 9 rfl [] [] rfl trivial (fun _ _ _ => rfl) trivial ?_
    refine kcfo (wr := []) (O1 := [(i0, [zI a0.capacity.a, zI a0.capacity.b, zI a0.capacity.c, zI a0.allocatable.a, zI a0.allocatable.b, zI a0.allocatable.c, hdM m5 pm5 v4 sm5, zI a0.period, zI a0.retries, zI a0.maxAge, zI a0.dead]), (m5, lob pm5 eSThreshold v4 sm5), (i1, mapO keS zI a1)]) 10 rfl [(41, [], _), (39, [], _)] ⟨rfl, rfl, trivial⟩ (fun fr X hf => ?_) ?_
    · exact rh 1 [0] [] rfl ⟨rfl, trivial⟩ (COps.nil rfl)
    refine ConfK.nil (by kernel_rfl) ⟨rfl, ?_⟩
    refine COps.done [9] [] rfl (srd 2 rfl [6] [] rfl (CWp.ret ?_))
    cases h
    exact ⟨.inl rfl, _, [0, 0, 0], _, _, rfl, rfl, rfl, m5, pm5, sm5, rfl, rfl⟩
  refine CWp.skip (CWp.seq (CWp.region (rn 1 rfl (cCall [0] Tryz.call18 numbers_w rfl rfl ?_))))
  rintro _ _ ⟨o6, t6, ht6, hlt6, rfl, rfl⟩
  refine rn 1 rfl (cAskP 0 ([] : List Nat) ht6 (keyS Tryz.underlying9) Tryz.underlying50 mz67 (fun _ _ => .nil _ _) (fun _ => rfl) (fun _ _ _ => keyStr rfl) ?_)
  refine rn 5 rfl (COps.objs [1, 1, 1] rfl ?_)
  refine COps.done [1, 2, 7, 10, 11] [] rfl (CWp.seq (srd 2 rfl [1, 2, 7, 10, 51] [] rfl (CWp.cond h rfl (fun h => ?_) (fun h => ?_))))
  · refine srd 1 rfl [6] [] rfl (CWp.ret ?_)
    cases h
    exact ⟨.inl rfl, _, [0, 0, 0], _, _, rfl, rfl, rfl, i0m6, pi0m6, si0m6, rfl, rfl⟩
  refine CWp.skip (CWp.seq (CWp.seq (CWp.region ?_)))
  obtain ⟨v7, hv7, h⟩ := bI h
  refine rn 2 rfl (rd (rPc hv7) ?_)
  obtain ⟨v8, hv8, h⟩ := bI h
  refine cCall [0, 0] Tryz.call37 (g_conf_fill_w hv8) rfl rfl ?_
  rintro _ _ ⟨m9, pm9, sm9, rfl, rfl⟩
  refine rn 1 rfl (COps.done [1, 7, 12] [] rfl (srd 2 rfl [1, 7, 12, 57] [] rfl (CWp.cond h rfl (fun h => ?_) (fun h => ?_))))
  · refine srd 2 rfl [6] [] rfl (CWp.ret ?_)
    cases h
    exact ⟨.inl rfl, _, [0, 0, 0], _, _, rfl, rfl, rfl, m9, pm9, sm9, rfl, rfl⟩
  refine CWp.skip (CWp.seq (CWp.region (rn 2 rfl (cGetG 2 (0 : Int) (keyS Tryz.underlying9) Tryz.underlying44 mz3 (fun _ _ => .lit _) (fun _ => rfl) (fun _ _ _ => keyStr rfl) ?_))))
  refine rn 1 rfl (cPutG 2 (w64 (((getL v1.text a1).getD (0 : Int)) + 1)) (keyS Tryz.underlying9) Tryz.underlying44 (fun _ => rfl) (fun _ _ _ => keyStr rfl) ?_)
  refine COps.done [1, 7] [] rfl (CWp.seq (CWp.seq (CWp.region (rn 2 rfl (cGetG 2 (0 : Int) (keyS Tryz.underlying9) Tryz.underlying44 mz3 (fun _ _ => .lit _) (fun _ => rfl) (fun _ _ _ => keyStr rfl) ?_)))))
  refine rn 1 rfl (COps.done [66] [] rfl (CWp.cond h rfl (fun h => ?_) (fun h => ?_)))
  · refine srd 1 rfl [6] [] rfl (CWp.ret ?_)
    cases h
    exact ⟨.inl rfl, _, [0, 0, 0], _, _, rfl, rfl, rfl, m9, pm9, sm9, rfl, rfl⟩
  refine CWp.skip (srd 1 rfl [6] [] rfl (CWp.ret ?_))
  cases h
  exact ⟨.inl rfl, _, [0, 0, 0], _, _, rfl, rfl, rfl, m9, pm9, sm9, rfl, rfl⟩
def g_slices_Min_int_k1 (x2 : Int) : Option Int :=
  some x2
def g_slices_Min_int_l2 (a0 : List Int) (k290 : Int → Option Int) : Nat → Int → Int → Option Int
  | 0, _, _ => none
  | m2 + 1, x3, x4 =>
    bif decide (x4 < (a0.length : Int)) then
      bO (idx a0 x4) fun v5 =>
      (g_slices_Min_int_l2 a0 k290 m2) (min x3 v5) (w64 (x4 + 1))
    else
      k290 x3
def g_slices_Min_int (a0 : List Int) : Option Int :=
  bif decide ((a0.length : Int) < 1) then none else
  bO (idx a0 0) fun v1 =>
  g_slices_Min_int_l2 a0 g_slices_Min_int_k1 FUEL v1 1
theorem g_slices_Min_int_w {a0 : List Int} {r : Int} (h : g_slices_Min_int a0 = some r) : PCall Tryz.prog 23 [.list false 3 (a0.map zI)] (zI r) := by
  refine PCall.body Tryz.func23 rfl rfl rfl rfl fun base => ?_
  unfold g_slices_Min_int at h
  refine srd 1 rfl [0] [] rfl (CWp.seq (CWp.seq (CWp.region (rh 3 [a0.length] [] rfl ⟨List.length_map .., trivial⟩ (COps.done [0, 7] [] rfl (CWp.cond h rfl (fun h => ?_) (fun h => ?_)))))))
  · cases h
  refine CWp.skip (CWp.seq (CWp.region ?_))
  obtain ⟨v1, hv1, h⟩ := bI h
  refine rn 1 rfl (rd (rIx hv1) ?_)
  refine rn 2 rfl (COps.done [0, 3] [] rfl (CWp.mid (fun e => ∃ x2, e = ⟨[(3, [], zI x2)], [], [], [], base⟩ ∧ g_slices_Min_int_k1 x2 = some r) ?_ ?_))
  · refine srd 1 rfl [0, 3, 4] [] rfl (CWp.block (CWp.loop (fun m2 e => ∃ x3 x4, e = ⟨[(0, [], .list false 3 (a0.map zI)), (3, [], zI x3), (4, [], zI x4)], [], [], [], base⟩ ∧ g_slices_Min_int_l2 a0 (g_slices_Min_int_k1) m2 x3 x4 = some r) FUEL ⟨_, _, rfl, h⟩ ?_ ?_))
    · rintro m2 _ ⟨x3, x4, rfl, h⟩
      rw [g_slices_Min_int_l2] at h
      refine CWp.seq (CWp.seq (CWp.region (rh 4 [a0.length] [] rfl ⟨List.length_map .., trivial⟩ (COps.done [0, 3, 4, 15] [] rfl (CWp.cond h rfl (fun h => ?_) (fun h => ?_))))))
      · refine CWp.skip (CWp.seq (CWp.block ?_))
        refine CWp.region ?_
        obtain ⟨v5, hv5, h⟩ := bI h
        refine rn 3 rfl (rd (rIx hv5) ?_)
        refine rn 3 rfl (COps.done [0, 3, 4] [] rfl ?_)
        refine CWp.region (rn 3 rfl (COps.done [0, 3, 4] [] rfl ?_))
        exact ⟨_, _, rfl, h⟩
      refine CWp.keep [3] [] rfl (CWp.exit ?_)
      exact ⟨_, rfl, h⟩
    rintro _ ⟨_, _, _, h⟩
    rw [g_slices_Min_int_l2] at h; cases h
  rintro _ ⟨x2, rfl, h⟩
  unfold g_slices_Min_int_k1 at h
  refine srd 2 rfl [2] [] rfl ?_
  cases h; exact CWp.ret ⟨.inl rfl, rfl, rfl⟩
def g_slices_IndexFunc_Threshold_k1 : Option Int :=
  some (-1)
def g_slices_IndexFunc_Threshold_l2 (a0 : List SThreshold) (a1 : SThreshold → Option Bool) (k290 : Option Int) : Nat → Int → Option Int
  | 0, _ => none
  | m2 + 1, x1 =>
    bif decide (x1 < (a0.length : Int)) then
      bO (idx a0 x1) fun v2 =>
      bO (a1 v2) fun v3 =>
      bif v3 then
        some x1
      else
        (g_slices_IndexFunc_Threshold_l2 a0 a1 k290 m2) (w64 (x1 + 1))
    else
      k290
def g_slices_IndexFunc_Threshold (a0 : List SThreshold) (a1 : SThreshold → Option Bool) : Option Int :=
  g_slices_IndexFunc_Threshold_l2 a0 a1 g_slices_IndexFunc_Threshold_k1 FUEL 0
theorem g_slices_IndexFunc_Threshold_w {a0 : List SThreshold} {a1 : SThreshold → Option Bool} {r : Int} {ins : Ob} {f1 : Nat} {c1 : List AV} (hp1 : Fn1 Tryz.prog f1 c1 ins eSThreshold zB a1) (h : g_slices_IndexFunc_Threshold a0 a1 = some r) : FCall Tryz.prog 44 [.list false 35 (a0.map eSThreshold), .fn f1 c1] ins (fun v outs => v = zI r ∧ outs = ins) := by
  refine FCall.ofAll Tryz.func44 rfl rfl rfl rfl fun base => ?_
  unfold g_slices_IndexFunc_Threshold at h
  refine srd 1 rfl [0, 1] [] rfl (CWp.mid (fun e => e = ⟨[], [], [], ins, base⟩ ∧ g_slices_IndexFunc_Threshold_k1 = some r) ?_ ?_)
  · refine CWp.seq (CWp.region (rh 3 [a0.length] [] rfl ⟨List.length_map .., trivial⟩ (COps.done [0, 1, 7, 8] [] rfl (CWp.block (CWp.loop (fun m2 e => ∃ x1, e = ⟨[(0, [], .list false 35 (a0.map eSThreshold)), (1, [], .fn f1 c1), (7, [], zI (a0.length : Int)), (8, [], zI x1)], [], [], ins, base⟩ ∧ g_slices_IndexFunc_Threshold_l2 a0 a1 (g_slices_IndexFunc_Threshold_k1) m2 x1 = some r) FUEL ⟨_, rfl, h⟩ ?_ ?_)))))
    · rintro m2 _ ⟨x1, rfl, h⟩
      rw [g_slices_IndexFunc_Threshold_l2] at h
      refine srd 1 rfl [0, 1, 7, 8, 9] [] rfl (CWp.seq (CWp.cond h rfl (fun h => ?_) (fun h => ?_)))
      · refine CWp.skip (CWp.seq (CWp.block (srd 2 rfl [0, 1, 5, 7, 8] [] rfl (CWp.seq (CWp.region ?_)))))
        obtain ⟨v2, hv2, h⟩ := bI h
        refine rn 3 rfl (rd (rIx hv2) ?_)
        refine rn 1 rfl ?_
        obtain ⟨v3, hv3, h⟩ := bI h
        refine cCallV hp1.1 (hp1.2 _ _ hv3) ?_
        rintro _ _ ⟨rfl, rfl⟩
        refine COps.done [0, 1, 5, 7, 8, 16] [] rfl (CWp.cond h rfl (fun h => ?_) (fun h => ?_))
        · refine srd 2 rfl [4] [] rfl (CWp.ret ?_)
          cases h
          exact ⟨.inl rfl, _, rfl, rfl, rfl, rfl⟩
        refine CWp.skip ?_
        refine CWp.region (rn 2 rfl (COps.done [0, 1, 7, 8] [] rfl ?_))
        exact ⟨_, rfl, h⟩
      refine CWp.keep [] [] rfl (CWp.exit ?_)
      exact ⟨rfl, h⟩
    rintro _ ⟨_, _, h⟩
    rw [g_slices_IndexFunc_Threshold_l2] at h; cases h
  rintro _ ⟨rfl, h⟩
  unfold g_slices_IndexFunc_Threshold_k1 at h
  refine srd 1 rfl [4] [] rfl (CWp.ret ?_)
  cases h
  exact ⟨.inl rfl, _, rfl, rfl, rfl, rfl⟩
def g_slices_ContainsFunc_Threshold (a0 : List SThreshold) (a1 : SThreshold → Option Bool) : Option Bool :=
  bO (g_slices_IndexFunc_Threshold a0 a1) fun v1 =>
  some (decide (v1 ≥ 0))
theorem g_slices_ContainsFunc_Threshold_w {a0 : List SThreshold} {a1 : SThreshold → Option Bool} {r : Bool} {ins : Ob} {f1 : Nat} {c1 : List AV} (hp1 : Fn1 Tryz.prog f1 c1 ins eSThreshold zB a1) (h : g_slices_ContainsFunc_Threshold a0 a1 = some r) : FCall Tryz.prog 24 [.list false 35 (a0.map eSThreshold), .fn f1 c1] ins (fun v outs => v = zB r ∧ outs = ins) := by
  refine FCall.ofAll Tryz.func24 rfl rfl rfl rfl fun base => ?_
  unfold g_slices_ContainsFunc_Threshold at h
  refine srd 1 rfl [0, 1] [] rfl (CWp.seq (CWp.region (rn 2 rfl ?_)))
  obtain ⟨v1, hv1, h⟩ := bI h
  refine cCallA Tryz.call44 (g_slices_IndexFunc_Threshold_w hp1 hv1) rfl ?_
  rintro _ _ ⟨rfl, rfl⟩
  refine rn 2 rfl (COps.done [4] [] rfl (CWp.ret ?_))
  cases h
  exact ⟨.inl rfl, _, rfl, rfl, rfl, rfl⟩
def g_conf_Right_1 (a0 : SThreshold) : Option Bool :=
  bO (g_thresh_Right a0) fun v1 =>
  some (!v1)
theorem g_conf_Right_1_w {a0 : SThreshold} {r : Bool} (h : g_conf_Right_1 a0 = some r) : PCall Tryz.prog 25 [eSThreshold a0] (zB r) := by
  refine PCall.body Tryz.func25 rfl rfl rfl rfl fun base => ?_
  unfold g_conf_Right_1 at h
  refine srd 2 rfl [1] [1] rfl (CWp.seq (CWp.region (rn 1 rfl ?_)))
  obtain ⟨v1, hv1, h⟩ := bI h
  refine pCall Tryz.call26 (g_thresh_Right_w hv1) rfl ?_
  refine rn 2 rfl (COps.done [2] [] rfl ?_)
  cases h; exact CWp.ret ⟨.inl rfl, rfl, rfl⟩
def g_conf_in (a0 : Int) (a1 : Int) (a2 : Int) : Option Bool :=
  some ((decide (a0 ≥ a1)) && (decide (a0 ≤ a2)))
theorem g_conf_in_w {a0 : Int} {a1 : Int} {a2 : Int} {r : Bool} (h : g_conf_in a0 a1 a2 = some r) : PCall Tryz.prog 27 [zI a0, zI a1, zI a2] (zB r) := by
  refine PCall.body Tryz.func27 rfl rfl rfl rfl fun base => ?_
  unfold g_conf_in at h
  refine srd 1 rfl [0, 1, 2] [] rfl (srd 9 rfl [6] [] rfl ?_)
  cases h; exact CWp.ret ⟨.inl rfl, rfl, rfl⟩
def g_conf_Right_k3 (a0 : SConfig) (x3 : Bool) : Option Bool :=
  bif x3 then
    some false
  else
    bO (g_conf_in a0.period 1 1000) fun v4 =>
    bO (bif v4 then (g_conf_in a0.maxAge 1 1000) else some default) fun v5 =>
    bO (bif (v4 && v5) then (g_conf_in a0.retries 0 20) else some default) fun v6 =>
    bO (bif ((v4 && v5) && v6) then (g_conf_in a0.dead 0 100) else some default) fun v7 =>
    some (((v4 && v5) && v6) && v7)
def g_conf_Right_k2 (a0 : SConfig) (x2 : Bool) : Option Bool :=
  bif x2 then
    some false
  else
    bif decide ((a0.thresholds.length : Int) > 12) then
      g_conf_Right_k3 a0 (decide ((a0.thresholds.length : Int) > 12))
    else
      bO (g_slices_ContainsFunc_Threshold a0.thresholds g_conf_Right_1) fun v8 =>
      g_conf_Right_k3 a0 v8
def g_conf_Right_k1 (a0 : SConfig) (x1 : Bool) : Option Bool :=
  bif x1 then
    some false
  else
    bif decide (a0.allocatable.b > a0.capacity.a) then
      g_conf_Right_k2 a0 (decide (a0.allocatable.b > a0.capacity.a))
    else
      g_conf_Right_k2 a0 (decide (a0.allocatable.c > a0.capacity.c))
def g_conf_Right (a0 : SConfig) : Option Bool :=
  bO (g_slices_Min_int [a0.capacity.a, a0.capacity.b, a0.capacity.c]) fun v9 =>
  bif decide (v9 < 1) then
    g_conf_Right_k1 a0 (decide (v9 < 1))
  else
    bO (g_slices_Min_int [a0.allocatable.a, a0.allocatable.b, a0.allocatable.c]) fun v10 =>
    g_conf_Right_k1 a0 (decide (v10 < 0))
theorem g_conf_Right_w {a0 : SConfig} {r : Bool} (h : g_conf_Right a0 = some r) : PCall Tryz.prog 11 [eSConfig a0] (zB r) := by
  refine PCall.body Tryz.func11 rfl rfl rfl rfl fun base => ?_
  unfold g_conf_Right at h
  refine srd 2 rfl [1] [1] rfl (CWp.seq (CWp.block (CWp.mid (fun e => ∃ x1, e = ⟨[(1, [], .eptr (.agg [zI a0.capacity.a, zI a0.capacity.b, zI a0.capacity.c, zI a0.allocatable.a, zI a0.allocatable.b, zI a0.allocatable.c, .list false 35 (a0.thresholds.map eSThreshold), zI a0.period, zI a0.retries, zI a0.maxAge, zI a0.dead]) 0), (3, [], zB x1)], [], [], [], base⟩ ∧ g_conf_Right_k1 a0 x1 = some r) ?_ ?_)))
  · refine CWp.seq (CWp.region (rn 1 rfl (cFreeze 1 ?_)))
    refine rd (rArr [a0.capacity.a, a0.capacity.b, a0.capacity.c] zI) ?_
    obtain ⟨v9, hv9, h⟩ := bI h
    refine pCall Tryz.call23 (g_slices_Min_int_w hv9) rfl ?_
    refine rn 2 rfl (COps.done [1, 3] [] rfl (CWp.cond h rfl (fun h => ?_) (fun h => ?_)))
    · refine CWp.skip ?_
      exact ⟨_, rfl, h⟩
    refine CWp.region (rn 1 rfl (rd (rArr [a0.allocatable.a, a0.allocatable.b, a0.allocatable.c] zI) ?_))
    obtain ⟨v10, hv10, h⟩ := bI h
    refine pCall Tryz.call23 (g_slices_Min_int_w hv10) rfl ?_
    refine rn 2 rfl (COps.done [1, 3] [] rfl ?_)
    exact ⟨_, rfl, h⟩
  rintro _ ⟨x1, rfl, h⟩
  unfold g_conf_Right_k1 at h
  refine CWp.cond h rfl (fun h => ?_) (fun h => ?_)
  · refine srd 1 rfl [2] [] rfl ?_
    cases h; exact CWp.ret ⟨.inl rfl, rfl, rfl⟩
  refine CWp.mid (fun e => ∃ x2, e = ⟨[(1, [], .eptr (.agg [zI a0.capacity.a, zI a0.capacity.b, zI a0.capacity.c, zI a0.allocatable.a, zI a0.allocatable.b, zI a0.allocatable.c, .list false 35 (a0.thresholds.map eSThreshold), zI a0.period, zI a0.retries, zI a0.maxAge, zI a0.dead]) 0), (12, [], zB x2)], [], [], [], base⟩ ∧ g_conf_Right_k2 a0 x2 = some r) ?_ ?_
  · refine srd 8 rfl [1, 12] [] rfl (CWp.cond h rfl (fun h => ?_) (fun h => ?_))
    · refine CWp.skip ?_
      exact ⟨_, rfl, h⟩
    refine CWp.region (rn 8 rfl (COps.done [1, 12] [] rfl ?_))
    exact ⟨_, rfl, h⟩
  rintro _ ⟨x2, rfl, h⟩
  unfold g_conf_Right_k2 at h
  refine CWp.cond h rfl (fun h => ?_) (fun h => ?_)
  · refine srd 1 rfl [2] [] rfl ?_
    cases h; exact CWp.ret ⟨.inl rfl, rfl, rfl⟩
  refine CWp.mid (fun e => ∃ x3, e = ⟨[(1, [], .eptr (.agg [zI a0.capacity.a, zI a0.capacity.b, zI a0.capacity.c, zI a0.allocatable.a, zI a0.allocatable.b, zI a0.allocatable.c, .list false 35 (a0.thresholds.map eSThreshold), zI a0.period, zI a0.retries, zI a0.maxAge, zI a0.dead]) 0), (27, [], zB x3)], [], [], [], base⟩ ∧ g_conf_Right_k3 a0 x3 = some r) ?_ ?_
  · refine CWp.seq (CWp.region (rh 5 [a0.thresholds.length] [] rfl ⟨List.length_map .., trivial⟩ (COps.done [1, 27] [] rfl (CWp.cond h rfl (fun h => ?_) (fun h => ?_)))))
    · refine CWp.skip ?_
      exact ⟨_, rfl, h⟩
    refine CWp.region (rn 2 rfl ?_)
    obtain ⟨v8, hv8, h⟩ := bI h
    refine kCall [] Tryz.call24 (g_slices_ContainsFunc_Threshold_w ⟨Tryz.call25, fun _ _ hb => g_conf_Right_1_w hb⟩ hv8) rfl rfl ?_
    refine rn 1 rfl (COps.done [1, 27] [] rfl ?_)
    exact ⟨_, rfl, h⟩
  rintro _ ⟨x3, rfl, h⟩
  unfold g_conf_Right_k3 at h
  refine CWp.cond h rfl (fun h => ?_) (fun h => ?_)
  · refine srd 1 rfl [2] [] rfl ?_
    cases h; exact CWp.ret ⟨.inl rfl, rfl, rfl⟩
  refine CWp.skip (CWp.seq (CWp.region (rn 2 rfl ?_)))
  obtain ⟨v4, hv4, h⟩ := bI h
  refine pCall Tryz.call27 (g_conf_in_w hv4) rfl ?_
  refine rn 3 rfl ?_
  obtain ⟨v5, hv5, h⟩ := bI h
  refine pCallg 38 true [] Tryz.call27 (fun ht => g_conf_in_w (gd hv5 (ht.1 _ rfl))) rfl ?_
  refine rn 4 rfl (COps.keepG [1, 43, 45] rfl ?_)
  obtain ⟨v6, hv6, h⟩ := bI h
  refine pCallg 43 true [] Tryz.call27 (fun ht => g_conf_in_w (gd hv6 (ht.1 _ rfl))) rfl ?_
  refine rn 4 rfl (COps.keepG [48, 50] rfl ?_)
  obtain ⟨v7, hv7, h⟩ := bI h
  refine pCallg 48 true [] Tryz.call27 (fun ht => g_conf_in_w (gd hv7 (ht.1 _ rfl))) rfl ?_
  refine rn 2 rfl (COps.done [2] [] rfl ?_)
  cases h; exact CWp.ret ⟨.inl rfl, rfl, rfl⟩
def g_conf_Read_k1 (x6 : List ((List UInt8) × Int)) (x7 : Int) (x8 : Int) (x9 : Int) (x10 : Int) (x11 : Int) (x12 : Int) (x13 : Int) (x14 : Int) (x15 : Int) (x16 : Int) (x17 : List SThreshold) : Option (SConfig × Int × Int) :=
  bif decide ((x6.length : Int) < (6 : Int)) then
    some ((⟨(⟨0, 0, 0⟩ : V3 Int), (⟨0, 0, 0⟩ : V3 Int), ([] : List SThreshold), 0, 0, 0, 0⟩ : SConfig), 0, 4)
  else
    bO (g_conf_Right (⟨(⟨x7, x8, x9⟩ : V3 Int), (⟨x10, x11, x12⟩ : V3 Int), x17, x13, x14, x15, x16⟩ : SConfig)) fun v21 =>
    bif !v21 then
      some ((⟨(⟨0, 0, 0⟩ : V3 Int), (⟨0, 0, 0⟩ : V3 Int), ([] : List SThreshold), 0, 0, 0, 0⟩ : SConfig), 0, 1)
    else
      some ((⟨(⟨x7, x8, x9⟩ : V3 Int), (⟨x10, x11, x12⟩ : V3 Int), x17, x13, x14, x15, x16⟩ : SConfig), 0, 0)
def g_conf_Read_l2 (v1 : (List (List SField)) × Int) (k290 : (List ((List UInt8) × Int)) → Int → Int → Int → Int → Int → Int → Int → Int → Int → Int → (List SThreshold) → Option (SConfig × Int × Int)) : Nat → (List SThreshold) → (List ((List UInt8) × Int)) → Int → Int → Int → Int → Int → Int → Int → Int → Int → Int → Int → Option (SConfig × Int × Int)
  | 0, _, _, _, _, _, _, _, _, _, _, _, _, _ => none
  | m2 + 1, x23, x25, x26, x27, x28, x29, x30, x31, x32, x33, x34, x35, x36 =>
    bif decide (x36 < (v1.1.length : Int)) then
      bO (idx v1.1 x36) fun v37 =>
      bO (g_conf_line (⟨(⟨x26, x27, x29⟩ : V3 Int), (⟨x30, x31, x32⟩ : V3 Int), x23, x33, x34, x35, x28⟩ : SConfig) x25 v37) fun v38 =>
      bif v38.1 != 0 then
        bO (idx v37 0) fun v40 =>
        some ((⟨(⟨0, 0, 0⟩ : V3 Int), (⟨0, 0, 0⟩ : V3 Int), ([] : List SThreshold), 0, 0, 0, 0⟩ : SConfig), v40.line, v38.1)
      else
        (g_conf_Read_l2 v1 k290 m2) v38.2.1.thresholds v38.2.2 v38.2.1.capacity.a v38.2.1.capacity.b v38.2.1.dead v38.2.1.capacity.c v38.2.1.allocatable.a v38.2.1.allocatable.b v38.2.1.allocatable.c v38.2.1.period v38.2.1.retries v38.2.1.maxAge (w64 (x36 + 1))
    else
      k290 x25 x26 x27 x29 x30 x31 x32 x33 x34 x35 x28 x23
def g_conf_Read (a0 : List UInt8) : Option (SConfig × Int × Int) :=
  bO (g_lex_Lines a0) fun v1 =>
  bif v1.2 != 0 then
    some ((⟨(⟨0, 0, 0⟩ : V3 Int), (⟨0, 0, 0⟩ : V3 Int), ([] : List SThreshold), 0, 0, 0, 0⟩ : SConfig), 0, v1.2)
  else
    g_conf_Read_l2 v1 g_conf_Read_k1 FUEL ([] : List SThreshold) ([] : List ((List UInt8) × Int)) 0 0 0 0 0 0 0 0 0 0 0
theorem g_conf_Read_w {a0 : List UInt8} {r : SConfig × Int × Int} (h : g_conf_Read a0 = some r) : FCall Tryz.prog 8 [.list false 5 (a0.map zU8)] [] (fun v outs => ∃ (h0_ : Nat) (ph0_ sh0_ : Slk 5), v = .tuple [.agg [zI r.1.capacity.a, zI r.1.capacity.b, zI r.1.capacity.c, zI r.1.allocatable.a, zI r.1.allocatable.b, zI r.1.allocatable.c, hdM h0_ ph0_ r.1.thresholds sh0_, zI r.1.period, zI r.1.retries, zI r.1.maxAge, zI r.1.dead], zI r.2.1, zI r.2.2] ∧ outs = [(h0_, lob ph0_ eSThreshold r.1.thresholds sh0_)]) := by
  refine FCall.of Tryz.func8 rfl rfl rfl rfl fun base => ?_
  unfold g_conf_Read at h
  refine srd 3 rfl [0, 2] [2] rfl (CWp.seq (CWp.region (rn 1 rfl ?_)))
  obtain ⟨v1, hv1, h⟩ := bI h
  refine pCall Tryz.call16 (g_lex_Lines_w hv1) rfl ?_
  refine rh 5 [] [12, 15, 5] rfl trivial (COps.done [2, 5, 6] [2] rfl (CWp.seq (srd 2 rfl [2, 5, 6, 18] [2] rfl (CWp.cond h rfl (fun h => ?_) (fun h => ?_)))))
  · refine CWp.seq (CWp.region (rh 5 [] [19] rfl trivial (COps.done [2, 3, 4] [2] rfl (CWp.nilLoc (α := SThreshold) (sz := 5) eSThreshold 2 6 (fun m2 => ?_)))))
    refine CWp.ret ?_
    cases h
    exact ⟨.inl rfl, _, [0], _, _, rfl, rfl, rfl, m2, (Slk.nil : Slk 5), (Slk.nil : Slk 5), rfl, rfl⟩
  refine CWp.skip (CWp.seq (CWp.region (cNewO ?_)))
  rintro o3 -
  refine cNilCell (sz := 5) eSThreshold 0 6 35 ?_
  rintro m4
  refine COps.objs [1, 0] rfl ?_
  refine COps.done [2, 5, 7] [2] rfl (CWp.seq (CWp.region (cMap keS zI ?_)))
  rintro o5
  refine rn 1 rfl (COps.done [2, 5, 7, 8] [2] rfl (CWp.mid (fun e => ∃ (x6 : _) (x7 : _) (x8 : _) (x9 : _) (x10 : _) (x11 : _) (x12 : _) (x13 : _) (x14 : _) (x15 : _) (x16 : _) (m18 : Nat) (pm18 sm18 : Slk 5) (x17 : _), e = ⟨[(2, [], .lptr 2 0), (7, [], .gptr o3 0), (8, [], .gmap o5)], [], [(2, [zI 0, zI 0, zI 0, zI 0, zI 0, zI 0, .list false 35 (([] : List SThreshold).map eSThreshold), zI 0, zI 0, zI 0, zI 0])], [(o5, mapO keS zI x6), (o3, [zI x7, zI x8, zI x9, zI x10, zI x11, zI x12, hdM m18 pm18 x17 sm18, zI x13, zI x14, zI x15, zI x16]), (m18, lob pm18 eSThreshold x17 sm18)], base⟩ ∧ g_conf_Read_k1 x6 x7 x8 x9 x10 x11 x12 x13 x14 x15 x16 x17 = some r) ?_ ?_))
  · refine CWp.seq (CWp.region (rh 3 [v1.1.length] [] rfl ⟨List.length_map .., trivial⟩ (COps.done [2, 7, 8, 22, 23, 24] [2] rfl (CWp.block (CWp.loop (fun m2 e => ∃ (m24 : Nat) (pm24 sm24 : Slk 5) (x23 : _) (x25 : _) (x26 : _) (x27 : _) (x28 : _) (x29 : _) (x30 : _) (x31 : _) (x32 : _) (x33 : _) (x34 : _) (x35 : _) (x36 : _), e = ⟨[(2, [], .lptr 2 0), (7, [], .gptr o3 0), (8, [], .gmap o5), (22, [], .list false 45 (v1.1.map (fun (x : List SField) => .list false 49 (x.map eSField)))), (23, [], zI (v1.1.length : Int)), (24, [], zI x36)], [], [(2, [zI 0, zI 0, zI 0, zI 0, zI 0, zI 0, .list false 35 (([] : List SThreshold).map eSThreshold), zI 0, zI 0, zI 0, zI 0])], [(o5, mapO keS zI x25), (o3, [zI x26, zI x27, zI x29, zI x30, zI x31, zI x32, hdM m24 pm24 x23 sm24, zI x33, zI x34, zI x35, zI x28]), (m24, lob pm24 eSThreshold x23 sm24)], base⟩ ∧ g_conf_Read_l2 v1 (g_conf_Read_k1) m2 x23 x25 x26 x27 x28 x29 x30 x31 x32 x33 x34 x35 x36 = some r) FUEL ⟨_, _, _, _, _, _, _, _, _, _, _, _, _, _, _, _, rfl, h⟩ ?_ ?_)))))
    · rintro m2 _ ⟨m24, pm24, sm24, x23, x25, x26, x27, x28, x29, x30, x31, x32, x33, x34, x35, x36, rfl, h⟩
      rw [g_conf_Read_l2] at h
      refine srd 1 rfl [2, 7, 8, 22, 23, 24, 25] [2] rfl (CWp.seq (CWp.cond h rfl (fun h => ?_) (fun h => ?_)))
      · refine CWp.skip (CWp.seq (CWp.block (CWp.seq (CWp.region ?_))))
        obtain ⟨v37, hv37, h⟩ := bI h
        refine rd (rIx hv37) ?_
        refine rn 2 rfl (COps.done [2, 7, 8, 10, 22, 23, 24] [2] rfl (CWp.seq (CWp.region (rn 2 rfl ?_))))
        obtain ⟨v38, hv38, h⟩ := bI h
        refine cCall [1, 1, 0] Tryz.call17 (g_conf_line_w hv38) rfl rfl ?_
        rintro _ _ ⟨m39, pm39, sm39, rfl, rfl⟩
        refine rn 1 rfl (COps.objs [2, 0, 0] rfl ?_)
        refine COps.done [2, 7, 8, 10, 11, 22, 23, 24] [2] rfl (srd 2 rfl [2, 7, 8, 10, 11, 22, 23, 24, 32] [2] rfl (CWp.cond h rfl (fun h => ?_) (fun h => ?_)))
        · refine CWp.seq (CWp.conf 8 (by kernel_rfl) ?_)
          refine cf1 (d := 33) (v := .agg [zI 0, zI 0, zI 0, zI 0, zI 0, zI 0, .lit (.slice none 0 0), zI 0, zI 0, zI 0, zI 0]) rfl [] [] trivial trivial (fun fr X O hf => ?_) ?_
          · exact rh 1 [] [33] rfl trivial (COps.nil rfl)
          refine cfq rfl rfl (fun _ _ _ => rfl) ?_
          obtain ⟨v40, hv40, h⟩ := bI h
          refine cf1 (d := 35) (v := .eptr (eSField v40) 0) rfl [(34, [], _)] [] ⟨rfl, trivial⟩ trivial (fun fr X O hf => ?_) ?_
          · refine rd (rIx hv40) ?_
            exact COps.nil rfl
          refine cfq rfl rfl (fun _ _ _ => rfl) ?_
          refine cfq rfl rfl (fun _ _ _ => rfl) ?_
          refine cfq rfl rfl (fun _ _ _ => rfl) ?_
          refine cfs (wr := []) (k0 := 2) (cs' := [zI 0, zI 0, zI 0, zI 0, zI 0, zI 0, .lit (.slice none 0 0), zI 0, zI 0, zI 0, zI 0]) rfl [(2, [], _), (33, [], _)] ⟨rfl, rfl, trivial⟩ rfl (fun fr X O hf => ?_) ?_
          · exact rn 1 rfl (COps.nil rfl)
          refine cfq rfl rfl (fun _ _ _ => rfl) ?_
          refine Conf.nil ⟨by kernel_rfl, ?_⟩
          refine rn 1 rfl (COps.objs [] rfl ?_)
          refine COps.done [2, 3, 4] [2] rfl (CWp.nilLoc (α := SThreshold) (sz := 5) eSThreshold 2 6 (fun m41 => ?_))
          refine CWp.ret ?_
          cases h
          exact ⟨.inl rfl, _, [0], _, _, rfl, rfl, rfl, m41, (Slk.nil : Slk 5), (Slk.nil : Slk 5), rfl, rfl⟩
        refine CWp.skip ?_
        refine CWp.region (rn 2 rfl (COps.done [2, 7, 8, 22, 23, 24] [2] rfl ?_))
        exact ⟨_, _, _, _, _, _, _, _, _, _, _, _, _, _, _, _, rfl, h⟩
      refine CWp.keep [2, 7, 8] [2] rfl (CWp.exit ?_)
      exact ⟨_, _, _, _, _, _, _, _, _, _, _, _, _, _, _, rfl, h⟩
    rintro _ ⟨_, _, _, _, _, _, _, _, _, _, _, _, _, _, _, _, _, h⟩
    rw [g_conf_Read_l2] at h; cases h
  rintro _ ⟨x6, x7, x8, x9, x10, x11, x12, x13, x14, x15, x16, m18, pm18, sm18, x17, rfl, h⟩
  unfold g_conf_Read_k1 at h
  refine CWp.seq (CWp.block (CWp.seq (CWp.region (rn 1 rfl (cLenG 0 x6.length Tryz.underlying44 rfl ?_)))))
  refine cCall [1] Tryz.call18 numbers_w rfl rfl ?_
  rintro _ _ ⟨o19, t19, ht19, hlt19, rfl, rfl⟩
  refine cLenG 0 6 Tryz.underlying50 hlt19 ?_
  refine rn 2 rfl (COps.objs [1, 2] rfl ?_)
  refine COps.done [2, 7, 40] [2] rfl (CWp.cond h rfl (fun h => ?_) (fun h => ?_))
  · refine CWp.seq (CWp.region (rh 4 [] [46] rfl trivial (COps.objs [] rfl ?_)))
    refine COps.done [2, 3, 4] [2] rfl (CWp.nilLoc (α := SThreshold) (sz := 5) eSThreshold 2 6 (fun m20 => ?_))
    refine CWp.ret ?_
    cases h
    exact ⟨.inl rfl, _, [0], _, _, rfl, rfl, rfl, m20, (Slk.nil : Slk 5), (Slk.nil : Slk 5), rfl, rfl⟩
  refine CWp.seq (CWp.region (rh 1 [0] [] rfl ⟨rfl, trivial⟩ ?_))
  obtain ⟨v21, hv21, h⟩ := bI h
  refine kCall [1] Tryz.call11 (BCall.all (BCall.lendT (f := eSThreshold) (xs := x17) (E := 35) (us := [.agg [zI x7, zI x8, zI x9, zI x10, zI x11, zI x12, hdM m18 pm18 x17 sm18, zI x13, zI x14, zI x15, zI x16]]) (ws := [.agg [zI x7, zI x8, zI x9, zI x10, zI x11, zI x12, .list false 35 (x17.map eSThreshold), zI x13, zI x14, zI x15, zI x16]]) (fun _ => ⟨rfl, rfl, rfl⟩) (tabS (kk := _) rfl) (by decide) ⟨.inr (.inr ⟨_, _, rfl, rfl, ⟨.inl rfl, .inl rfl, .inl rfl, .inl rfl, .inl rfl, .inl rfl, .inr ⟨rfl, rfl⟩, .inl rfl, .inl rfl, .inl rfl, .inl rfl, trivial⟩⟩), trivial⟩ (g_conf_Right_w hv21) rfl)) rfl rfl ?_
  refine rn 2 rfl (COps.objs [1, 0] rfl ?_)
  refine COps.done [2, 7, 47] [2] rfl (CWp.cond h rfl (fun h => ?_) (fun h => ?_))
  · refine CWp.seq (CWp.region (rh 4 [] [51] rfl trivial (COps.objs [] rfl ?_)))
    refine COps.done [2, 3, 4] [2] rfl (CWp.nilLoc (α := SThreshold) (sz := 5) eSThreshold 2 6 (fun m22 => ?_))
    refine CWp.ret ?_
    cases h
    exact ⟨.inl rfl, _, [0], _, _, rfl, rfl, rfl, m22, (Slk.nil : Slk 5), (Slk.nil : Slk 5), rfl, rfl⟩
  refine CWp.skip (CWp.seq (CWp.region (rh 4 [0] [] rfl ⟨rfl, trivial⟩ (COps.objs [1] rfl ?_))))
  refine COps.done [2, 3, 4] [2] rfl (CWp.ret ?_)
  cases h
  exact ⟨.inl rfl, _, [0], _, _, rfl, rfl, rfl, m18, pm18, sm18, rfl, rfl⟩
def g_quant_Print_k1 (a0 : Int) : Option (List UInt8) :=
  bO (itoaO (max a0 0)) fun v1 =>
  some v1
def g_quant_Print_l2 (a0 : Int) (v2 : List Sunit) (k290 : Option (List UInt8)) : Nat → Int → Option (List UInt8)
  | 0, _ => none
  | m2 + 1, x3 =>
    bif decide (x3 < (v2.length : Int)) then
      bO (idx v2 x3) fun v4 =>
      bO (bif (decide ((max a0 0) > 0)) then (remO (max a0 0) v4.n) else some default) fun v5 =>
      bif (decide ((max a0 0) > 0)) && (v5 == 0) then
        bO (quoO .i64 (max a0 0) v4.n) fun v6 =>
        bO (itoaO v6) fun v7 =>
        bO (appO v7 v4.name) fun v8 =>
        some v8
      else
        (g_quant_Print_l2 a0 v2 k290 m2) (w64 (x3 + 1))
    else
      k290
def g_quant_Print (a0 : Int) : Option (List UInt8) :=
  bO (g_quant_units) fun v2 =>
  g_quant_Print_l2 a0 v2 (g_quant_Print_k1 a0) FUEL 0
theorem g_quant_Print_w {a0 : Int} {r : List UInt8} (h : g_quant_Print a0 = some r) : PCall Tryz.prog 19 [zI a0] (.str r) := by
  refine PCall.body Tryz.func19 rfl rfl rfl rfl fun base => ?_
  unfold g_quant_Print at h
  refine srd 1 rfl [0] [] rfl (srd 3 rfl [0] [] rfl (CWp.mid (fun e => e = ⟨[(0, [], zI (max a0 0))], [], [], [], base⟩ ∧ g_quant_Print_k1 a0 = some r) ?_ ?_))
  · refine CWp.seq (CWp.region ?_)
    obtain ⟨v2, hv2, h⟩ := bI h
    refine pCall Tryz.call38 (g_quant_units_w hv2) rfl ?_
    refine rh 2 [v2.length] [] rfl ⟨List.length_map .., trivial⟩ (COps.done [0, 7, 8, 9] [] rfl (CWp.block (CWp.loop (fun m2 e => ∃ x3, e = ⟨[(0, [], zI (max a0 0)), (7, [], .list true 74 (v2.map eSunit)), (8, [], zI (v2.length : Int)), (9, [], zI x3)], [], [], [], base⟩ ∧ g_quant_Print_l2 a0 v2 (g_quant_Print_k1 a0) m2 x3 = some r) FUEL ⟨_, rfl, h⟩ ?_ ?_)))
    · rintro m2 _ ⟨x3, rfl, h⟩
      rw [g_quant_Print_l2] at h
      refine srd 1 rfl [0, 7, 8, 9, 10] [] rfl (CWp.seq (CWp.cond h rfl (fun h => ?_) (fun h => ?_)))
      · refine CWp.skip (CWp.seq (CWp.block (CWp.seq (CWp.region ?_))))
        obtain ⟨v4, hv4, h⟩ := bI h
        refine rd (rIx hv4) ?_
        refine rn 3 rfl (COps.done [0, 4, 7, 8, 9] [4] rfl (CWp.seq (CWp.region ?_)))
        obtain ⟨v5, hv5, h⟩ := bI h
        refine rn 6 rfl (rdg 15 true [] (fun ht => rRem (gd hv5 (ht.1 _ rfl))) ?_)
        refine rn 2 rfl (COps.done [0, 4, 7, 8, 9, 21] [4] rfl (CWp.cond h rfl (fun h => ?_) (fun h => ?_)))
        · refine CWp.seq (CWp.drawn 9 (by kernel_rfl) ?_)
          obtain ⟨v6, hv6, h⟩ := bI h
          refine pn 3 rfl (pd (rQuo hv6) ?_)
          obtain ⟨v7, hv7, h⟩ := bI h
          refine qCall Tryz.call39 (itoaO_w hv7) rfl ?_
          obtain ⟨v8, hv8, h⟩ := bI h
          refine pn 2 rfl (pd (rCat hv8) ?_)
          refine pn 1 rfl (COpsE.nil (COps.done [2] [] rfl ?_))
          cases h; exact CWp.ret ⟨.inl rfl, rfl, rfl⟩
        refine CWp.skip ?_
        refine CWp.region (rn 2 rfl (COps.done [0, 7, 8, 9] [] rfl ?_))
        exact ⟨_, rfl, h⟩
      refine CWp.keep [0] [] rfl (CWp.exit ?_)
      exact ⟨rfl, h⟩
    rintro _ ⟨_, _, h⟩
    rw [g_quant_Print_l2] at h; cases h
  rintro _ ⟨rfl, h⟩
  unfold g_quant_Print_k1 at h
  refine CWp.seq (CWp.region (rn 1 rfl ?_))
  obtain ⟨v1, hv1, h⟩ := bI h
  refine pCall Tryz.call39 (itoaO_w hv1) rfl ?_
  refine rn 1 rfl (COps.done [2] [] rfl ?_)
  cases h; exact CWp.ret ⟨.inl rfl, rfl, rfl⟩
def g_conf_fields_k1 (x1 : List SField) : Option (List SField) :=
  some x1
def g_conf_fields_l2 (a1 : List (List UInt8)) (k290 : (List SField) → Option (List SField)) : Nat → Int → (List SField) → Option (List SField)
  | 0, _, _ => none
  | m2 + 1, x2, x3 =>
    bif decide (x2 < (a1.length : Int)) then
      bO (idx a1 x2) fun v4 =>
      bO (appO x3 [(⟨v4, 0, 0⟩ : SField)]) fun v5 =>
      (g_conf_fields_l2 a1 k290 m2) (w64 (x2 + 1)) v5
    else
      k290 x3
def g_conf_fields (a0 : List UInt8) (a1 : List (List UInt8)) : Option (List SField) :=
  g_conf_fields_l2 a1 g_conf_fields_k1 FUEL 0 [(⟨a0, 0, 0⟩ : SField)]
theorem g_conf_fields_w {a0 : List UInt8} {a1 : List (List UInt8)} {r : List SField} (h : g_conf_fields a0 a1 = some r) : PCall Tryz.prog 20 [.str a0, .list false 9 (a1.map AV.str)] (.list true 49 (r.map eSField)) := by
  refine PCall.body Tryz.func20 rfl rfl rfl rfl fun base => ?_
  unfold g_conf_fields at h
  refine srd 1 rfl [0, 1] [] rfl (CWp.seq (CWp.region (rh 4 [] [5] rfl trivial (COps.done [1, 5] [] rfl (CWp.mid (fun e => ∃ x1, e = ⟨[(5, [], .list true 49 (x1.map eSField))], [], [], [], base⟩ ∧ g_conf_fields_k1 x1 = some r) ?_ ?_)))))
  · refine CWp.seq (CWp.region (rh 3 [a1.length] [] rfl ⟨List.length_map .., trivial⟩ (COps.done [5, 11, 12, 13] [] rfl (CWp.block (CWp.loop (fun m2 e => ∃ x2 x3, e = ⟨[(5, [], .list true 49 (x3.map eSField)), (11, [], .list false 9 (a1.map AV.str)), (12, [], zI (a1.length : Int)), (13, [], zI x2)], [], [], [], base⟩ ∧ g_conf_fields_l2 a1 (g_conf_fields_k1) m2 x2 x3 = some r) FUEL ⟨_, _, rfl, h⟩ ?_ ?_)))))
    · rintro m2 _ ⟨x2, x3, rfl, h⟩
      rw [g_conf_fields_l2] at h
      refine srd 1 rfl [5, 11, 12, 13, 14] [] rfl (CWp.seq (CWp.cond h rfl (fun h => ?_) (fun h => ?_)))
      · refine CWp.skip (CWp.seq (CWp.block (CWp.seq (CWp.region ?_))))
        obtain ⟨v4, hv4, h⟩ := bI h
        refine rd (rIx hv4) ?_
        refine rn 2 rfl (COps.done [5, 7, 11, 12, 13] [] rfl ?_)
        refine CWp.region ?_
        obtain ⟨v5, hv5, h⟩ := bI h
        refine rh 4 [] [17] rfl trivial (cApp (f := eSField) hv5 ?_)
        refine rh 1 [] [5] rfl trivial (COps.done [5, 11, 12, 13] [] rfl ?_)
        refine CWp.region (rn 2 rfl (COps.done [5, 11, 12, 13] [] rfl ?_))
        exact ⟨_, _, rfl, h⟩
      refine CWp.keep [5] [] rfl (CWp.exit ?_)
      exact ⟨_, rfl, h⟩
    rintro _ ⟨_, _, _, h⟩
    rw [g_conf_fields_l2] at h; cases h
  rintro _ ⟨x1, rfl, h⟩
  unfold g_conf_fields_k1 at h
  refine CWp.seq (CWp.region (rh 2 [] [23, 4] rfl trivial (COps.done [4] [] rfl ?_)))
  cases h; exact CWp.ret ⟨.inl rfl, rfl, rfl⟩
end
section
open Go.RowKit
def g_thresh_Print_k1 (a0 : SThreshold) (x4 : List UInt8) : Option (List UInt8) :=
  bif a0.soft then
    bO (itoaO a0.grace) fun v5 =>
    bO (appO [58] v5) fun v6 =>
    bO (appO x4 v6) fun v7 =>
    some v7
  else
    some x4
def g_thresh_Print (a0 : SThreshold) : Option (List UInt8) :=
  bO (g_thresh_words) fun v1 =>
  bO (idx v1 a0.signal) fun v2 =>
  bO (appO v2 [60]) fun v3 =>
  bif decide (a0.percent > 0) then
    bO (itoaO a0.percent) fun v8 =>
    bO (appO v8 [37]) fun v9 =>
    bO (appO v3 v9) fun v10 =>
    g_thresh_Print_k1 a0 v10
  else
    bO (g_quant_Print a0.amount) fun v11 =>
    bO (appO v3 v11) fun v12 =>
    g_thresh_Print_k1 a0 v12
theorem g_thresh_Print_w {a0 : SThreshold} {r : List UInt8} (h : g_thresh_Print a0 = some r) : PCall Tryz.prog 21 [eSThreshold a0] (.str r) := by
  refine PCall.body Tryz.func21 rfl rfl rfl rfl fun base => ?_
  unfold g_thresh_Print at h
  refine srd 2 rfl [1] [1] rfl (CWp.seq (CWp.conf 3 (by kernel_rfl) ?_))
  obtain ⟨v1, hv1, h⟩ := bI h
  refine cf1 (d := 4) (v := .list true 9 (v1.map AV.str)) rfl [] [] trivial trivial (fun fr X O hf => ?_) ?_
  · refine pCall (hsub := sbF rfl hf) Tryz.call40 (g_thresh_words_w hv1) rfl ?_
    exact COps.nil rfl
  refine cfq rfl rfl (fun _ _ _ => rfl) ?_
  refine cfp rfl [] [(1, _)] rfl ⟨rfl, trivial⟩ (fun _ _ _ => rfl) trivial ?_
  refine Conf.nil ⟨by kernel_rfl, ?_⟩
  obtain ⟨v2, hv2, h⟩ := bI h
  refine rd (rIx hv2) ?_
  obtain ⟨v3, hv3, h⟩ := bI h
  refine rn 1 rfl (rd (rCat hv3) ?_)
  refine rn 1 rfl (COps.done [1, 3] [1] rfl (CWp.mid (fun e => ∃ x4, e = ⟨[(1, [], .lptr 1 0), (3, [], .str x4)], [], [(1, [zI a0.signal, zI a0.percent, zI a0.amount, zB a0.soft, zI a0.grace])], [], base⟩ ∧ g_thresh_Print_k1 a0 x4 = some r) ?_ ?_))
  · refine srd 3 rfl [1, 3, 12] [1] rfl (CWp.cond h rfl (fun h => ?_) (fun h => ?_))
    · refine CWp.region (rn 3 rfl ?_)
      obtain ⟨v8, hv8, h⟩ := bI h
      refine pCall Tryz.call39 (itoaO_w hv8) rfl ?_
      obtain ⟨v9, hv9, h⟩ := bI h
      refine rd (rCat hv9) ?_
      obtain ⟨v10, hv10, h⟩ := bI h
      refine rd (rCat hv10) ?_
      refine rn 1 rfl (COps.done [1, 3] [1] rfl ?_)
      exact ⟨_, rfl, h⟩
    refine CWp.region (rn 3 rfl ?_)
    obtain ⟨v11, hv11, h⟩ := bI h
    refine pCall Tryz.call19 (g_quant_Print_w hv11) rfl ?_
    obtain ⟨v12, hv12, h⟩ := bI h
    refine rd (rCat hv12) ?_
    refine rn 1 rfl (COps.done [1, 3] [1] rfl ?_)
    exact ⟨_, rfl, h⟩
  rintro _ ⟨x4, rfl, h⟩
  unfold g_thresh_Print_k1 at h
  refine CWp.seq (srd 2 rfl [1, 3, 25] [1] rfl (CWp.cond h rfl (fun h => ?_) (fun h => ?_)))
  · refine CWp.region (rn 3 rfl ?_)
    obtain ⟨v5, hv5, h⟩ := bI h
    refine pCall Tryz.call39 (itoaO_w hv5) rfl ?_
    obtain ⟨v6, hv6, h⟩ := bI h
    refine rd (rCat hv6) ?_
    obtain ⟨v7, hv7, h⟩ := bI h
    refine rd (rCat hv7) ?_
    refine rn 1 rfl (COps.done [3] [] rfl (srd 2 rfl [2] [] rfl ?_))
    cases h; exact CWp.ret ⟨.inl rfl, rfl, rfl⟩
  refine CWp.skip (srd 2 rfl [2] [] rfl ?_)
  cases h; exact CWp.ret ⟨.inl rfl, rfl, rfl⟩
def g_lex_Join_k1 (_x2 : Bool) (x3 : List UInt8) : Option (List UInt8) :=
  bO (bytesO x3) fun v4 =>
  some v4
def g_lex_Join_k3 (x7 : Int) (q2 : Bool → (List UInt8) → Int → Option (List UInt8)) (x8 : List UInt8) : Option (List UInt8) :=
  q2 true x8 (w64 (x7 + 1))
def g_lex_Join_k4 (x7 : Int) (q2 : Bool → (List UInt8) → Int → Option (List UInt8)) (_x10 : Bool) (x11 : List UInt8) : Option (List UInt8) :=
  bO (wrO x11 [10]) fun v12 =>
  g_lex_Join_k3 x7 q2 v12
def g_lex_Join_k6 (x15 : Int) (q5 : Bool → (List UInt8) → Int → Option (List UInt8)) (v16 : SField) (_x17 : Bool) (x18 : List UInt8) : Option (List UInt8) :=
  bO (wrO x18 v16.text) fun v19 =>
  q5 true v19 (w64 (x15 + 1))
def g_lex_Join_l5 (v9 : List SField) (k590 : Bool → (List UInt8) → Option (List UInt8)) : Nat → Bool → (List UInt8) → Int → Option (List UInt8)
  | 0, _, _, _ => none
  | m5 + 1, x13, x14, x15 =>
    bif decide (x15 < (v9.length : Int)) then
      bO (idx v9 x15) fun v16 =>
      bif decide (x15 > 0) then
        bO (wrO x14 [32]) fun v20 =>
        g_lex_Join_k6 x15 (g_lex_Join_l5 v9 k590 m5) v16 true v20
      else
        g_lex_Join_k6 x15 (g_lex_Join_l5 v9 k590 m5) v16 x13 x14
    else
      k590 x13 x14
def g_lex_Join_l2 (a0 : List (List SField)) (k290 : Bool → (List UInt8) → Option (List UInt8)) : Nat → Bool → (List UInt8) → Int → Option (List UInt8)
  | 0, _, _, _ => none
  | m2 + 1, x5, x6, x7 =>
    bif decide (x7 < (a0.length : Int)) then
      bO (idx a0 x7) fun v9 =>
      g_lex_Join_l5 v9 (g_lex_Join_k4 x7 (g_lex_Join_l2 a0 k290 m2)) FUEL x5 x6 0
    else
      k290 x5 x6
def g_lex_Join (a0 : List (List SField)) : Option (List UInt8) :=
  g_lex_Join_l2 a0 g_lex_Join_k1 FUEL false ([] : List UInt8) 0
theorem g_lex_Join_w {a0 : List (List SField)} {r : List UInt8} (h : g_lex_Join a0 = some r) : PCall Tryz.prog 22 [.list false 45 (a0.map (fun (x : List SField) => .list false 49 (x.map eSField)))] (.str r) := by
  refine PCall.body Tryz.func22 rfl rfl rfl rfl fun base => ?_
  unfold g_lex_Join at h
  refine srd 1 rfl [0] [] rfl (CWp.seq (CWp.region (cNewO ?_)))
  rintro o1 ho1
  refine COps.done [0, 3] [] rfl (CWp.mid (fun e => ∃ x2 x3, e = ⟨[(3, [], .gptr o1 0)], [], [], [(o1, [bldP o1 x2, bufAV x3])], base⟩ ∧ g_lex_Join_k1 x2 x3 = some r) ?_ ?_)
  · refine CWp.seq (CWp.region (rh 3 [a0.length] [] rfl ⟨List.length_map .., trivial⟩ (COps.done [3, 8, 9, 10] [] rfl (CWp.block (CWp.loop (fun m2 e => ∃ x5 x6 x7, e = ⟨[(3, [], .gptr o1 0), (8, [], .list false 45 (a0.map (fun (x : List SField) => .list false 49 (x.map eSField)))), (9, [], zI (a0.length : Int)), (10, [], zI x7)], [], [], [(o1, [bldP o1 x5, bufAV x6])], base⟩ ∧ g_lex_Join_l2 a0 (g_lex_Join_k1) m2 x5 x6 x7 = some r) FUEL ⟨_, _, _, rfl, h⟩ ?_ ?_)))))
    · rintro m2 _ ⟨x5, x6, x7, rfl, h⟩
      rw [g_lex_Join_l2] at h
      refine srd 1 rfl [3, 8, 9, 10, 11] [] rfl (CWp.seq (CWp.cond h rfl (fun h => ?_) (fun h => ?_)))
      · refine CWp.skip (CWp.mid (fun e => ∃ x8, e = ⟨[(3, [], .gptr o1 0), (8, [], .list false 45 (a0.map (fun (x : List SField) => .list false 49 (x.map eSField)))), (9, [], zI (a0.length : Int)), (10, [], zI x7)], [], [], [(o1, [bldP o1 true, bufAV x8])], base⟩ ∧ g_lex_Join_k3 x7 (g_lex_Join_l2 a0 (g_lex_Join_k1) m2) x8 = some r) ?_ ?_)
        · refine CWp.block (CWp.seq (CWp.region ?_))
          obtain ⟨v9, hv9, h⟩ := bI h
          refine rd (rIx hv9) ?_
          refine rn 2 rfl (COps.done [3, 5, 8, 9, 10] [] rfl (CWp.mid (fun e => ∃ x10 x11, e = ⟨[(3, [], .gptr o1 0), (8, [], .list false 45 (a0.map (fun (x : List SField) => .list false 49 (x.map eSField)))), (9, [], zI (a0.length : Int)), (10, [], zI x7)], [], [], [(o1, [bldP o1 x10, bufAV x11])], base⟩ ∧ g_lex_Join_k4 x7 (g_lex_Join_l2 a0 (g_lex_Join_k1) m2) x10 x11 = some r) ?_ ?_))
          · refine CWp.seq (CWp.region (rh 3 [v9.length] [] rfl ⟨List.length_map .., trivial⟩ (COps.done [3, 8, 9, 10, 14, 15, 16] [] rfl (CWp.block (CWp.loop (fun m5 e => ∃ x13 x14 x15, e = ⟨[(3, [], .gptr o1 0), (8, [], .list false 45 (a0.map (fun (x : List SField) => .list false 49 (x.map eSField)))), (9, [], zI (a0.length : Int)), (10, [], zI x7), (14, [], .list false 49 (v9.map eSField)), (15, [], zI (v9.length : Int)), (16, [], zI x15)], [], [], [(o1, [bldP o1 x13, bufAV x14])], base⟩ ∧ g_lex_Join_l5 v9 (g_lex_Join_k4 x7 (g_lex_Join_l2 a0 (g_lex_Join_k1) m2)) m5 x13 x14 x15 = some r) FUEL ⟨_, _, _, rfl, h⟩ ?_ ?_)))))
            · rintro m5 _ ⟨x13, x14, x15, rfl, h⟩
              rw [g_lex_Join_l5] at h
              refine srd 1 rfl [3, 8, 9, 10, 14, 15, 16, 17] [] rfl (CWp.seq (CWp.cond h rfl (fun h => ?_) (fun h => ?_)))
              · refine CWp.skip (CWp.seq (CWp.block (CWp.seq (CWp.region ?_))))
                obtain ⟨v16, hv16, h⟩ := bI h
                refine rn 1 rfl (rd (rIx hv16) ?_)
                refine rn 4 rfl (COps.done [3, 6, 7, 8, 9, 10, 14, 15, 16] [7] rfl (CWp.mid (fun e => ∃ x17 x18, e = ⟨[(3, [], .gptr o1 0), (7, [], .lptr 7 0), (8, [], .list false 45 (a0.map (fun (x : List SField) => .list false 49 (x.map eSField)))), (9, [], zI (a0.length : Int)), (10, [], zI x7), (14, [], .list false 49 (v9.map eSField)), (15, [], zI (v9.length : Int)), (16, [], zI x15)], [], [(7, [.str v16.text, zI v16.line, zI v16.col])], [(o1, [bldP o1 x17, bufAV x18])], base⟩ ∧ g_lex_Join_k6 x15 (g_lex_Join_l5 v9 (g_lex_Join_k4 x7 (g_lex_Join_l2 a0 (g_lex_Join_k1) m2)) m5) v16 x17 x18 = some r) ?_ ?_))
                · refine srd 2 rfl [3, 7, 8, 9, 10, 14, 15, 16, 22] [7] rfl (CWp.cond h rfl (fun h => ?_) (fun h => ?_))
                  · refine CWp.region ?_
                    obtain ⟨v20, hv20, h⟩ := bI h
                    refine kCall [0] Tryz.call41 (bldByte_w (u := x13) ho1 hv20) rfl rfl ?_
                    refine COps.done [3, 7, 8, 9, 10, 14, 15, 16] [7] rfl ?_
                    exact ⟨_, _, rfl, h⟩
                  refine CWp.keep [3, 7, 8, 9, 10, 14, 15, 16] [7] rfl (CWp.skip ?_)
                  exact ⟨_, _, rfl, h⟩
                rintro _ ⟨x17, x18, rfl, h⟩
                unfold g_lex_Join_k6 at h
                refine CWp.region (rn 2 rfl ?_)
                obtain ⟨v19, hv19, h⟩ := bI h
                refine kCall [0] Tryz.call42 (bldStr_w (u := x17) ho1 hv19) rfl rfl ?_
                refine COps.done [3, 8, 9, 10, 14, 15, 16] [] rfl ?_
                refine CWp.region (rn 2 rfl (COps.done [3, 8, 9, 10, 14, 15, 16] [] rfl ?_))
                exact ⟨_, _, _, rfl, h⟩
              refine CWp.keep [3, 8, 9, 10] [] rfl (CWp.exit ?_)
              exact ⟨_, _, rfl, h⟩
            rintro _ ⟨_, _, _, _, h⟩
            rw [g_lex_Join_l5] at h; cases h
          rintro _ ⟨x10, x11, rfl, h⟩
          unfold g_lex_Join_k4 at h
          refine CWp.region ?_
          obtain ⟨v12, hv12, h⟩ := bI h
          refine kCall [0] Tryz.call41 (bldByte_w (u := x10) ho1 hv12) rfl rfl ?_
          refine COps.done [3, 8, 9, 10] [] rfl ?_
          exact ⟨_, rfl, h⟩
        rintro _ ⟨x8, rfl, h⟩
        unfold g_lex_Join_k3 at h
        refine CWp.region (rn 2 rfl (COps.done [3, 8, 9, 10] [] rfl ?_))
        exact ⟨_, _, _, rfl, h⟩
      refine CWp.keep [3] [] rfl (CWp.exit ?_)
      exact ⟨_, _, rfl, h⟩
    rintro _ ⟨_, _, _, _, h⟩
    rw [g_lex_Join_l2] at h; cases h
  rintro _ ⟨x2, x3, rfl, h⟩
  unfold g_lex_Join_k1 at h
  refine CWp.seq (CWp.region ?_)
  obtain ⟨v4, hv4, h⟩ := bI h
  refine kCall [0] Tryz.call43 (bldOut_w (u := x2) ho1 hv4) rfl rfl ?_
  refine rn 1 rfl (COps.done [2] [] rfl ?_)
  cases h; exact CWp.ret ⟨.inl rfl, rfl, rfl⟩
def g_conf_Print_k1 (a0 : SConfig) (x10 : List (List SField)) : Option ((List UInt8) × Int) :=
  bO (g_quant_Print a0.period) fun v11 =>
  bO (g_conf_fields [112, 101, 114, 105, 111, 100] [v11]) fun v12 =>
  bO (g_quant_Print a0.retries) fun v13 =>
  bO (g_conf_fields [114, 101, 116, 114, 105, 101, 115] [v13]) fun v14 =>
  bO (g_quant_Print a0.maxAge) fun v15 =>
  bO (g_conf_fields [109, 97, 120, 97, 103, 101] [v15]) fun v16 =>
  bO (g_quant_Print a0.dead) fun v17 =>
  bO (g_conf_fields [100, 101, 97, 100] [v17]) fun v18 =>
  bO (appO x10 [v12, v14, v16, v18]) fun v19 =>
  bO (g_lex_Join v19) fun v20 =>
  some (v20, 0)
def g_conf_Print_l2 (a0 : SConfig) (k290 : (List (List SField)) → Option ((List UInt8) × Int)) : Nat → Int → (List (List SField)) → Option ((List UInt8) × Int)
  | 0, _, _ => none
  | m2 + 1, x21, x22 =>
    bif decide (x21 < (a0.thresholds.length : Int)) then
      bO (idx a0.thresholds x21) fun v23 =>
      bO (g_thresh_Print v23) fun v24 =>
      bO (g_conf_fields [116, 104, 114, 101, 115, 104, 111, 108, 100] [v24]) fun v25 =>
      bO (appO x22 [v25]) fun v26 =>
      (g_conf_Print_l2 a0 k290 m2) (w64 (x21 + 1)) v26
    else
      k290 x22
def g_conf_Print (a0 : SConfig) : Option ((List UInt8) × Int) :=
  bO (g_conf_Right a0) fun v1 =>
  bif !v1 then
    some (([] : List UInt8), 1)
  else
    bO (g_quant_Print a0.capacity.a) fun v2 =>
    bO (g_quant_Print a0.capacity.b) fun v3 =>
    bO (g_quant_Print a0.capacity.c) fun v4 =>
    bO (g_conf_fields [99, 97, 112, 97, 99, 105, 116, 121] [v2, v3, v4]) fun v5 =>
    bO (g_quant_Print a0.allocatable.a) fun v6 =>
    bO (g_quant_Print a0.allocatable.b) fun v7 =>
    bO (g_quant_Print a0.allocatable.c) fun v8 =>
    bO (g_conf_fields [97, 108, 108, 111, 99, 97, 116, 97, 98, 108, 101] [v6, v7, v8]) fun v9 =>
    g_conf_Print_l2 a0 (g_conf_Print_k1 a0) FUEL 0 [v5, v9]
theorem g_conf_Print_w {a0 : SConfig} {r : (List UInt8) × Int} (h : g_conf_Print a0 = some r) : PCall Tryz.prog 10 [eSConfig a0] (.tuple [.str r.1, zI r.2]) := by
  refine PCall.body Tryz.func10 rfl rfl rfl rfl fun base => ?_
  unfold g_conf_Print at h
  refine srd 3 rfl [1] [1] rfl (CWp.seq (CWp.seq (CWp.region (rn 1 rfl ?_))))
  obtain ⟨v1, hv1, h⟩ := bI h
  refine pCall Tryz.call11 (g_conf_Right_w hv1) rfl ?_
  refine rn 1 rfl (COps.done [1, 10] [1] rfl (CWp.cond h rfl (fun h => ?_) (fun h => ?_)))
  · refine srd 2 rfl [2, 3] [] rfl ?_
    cases h; exact CWp.ret ⟨.inl rfl, rfl, rfl⟩
  refine CWp.skip (srd 1 rfl [1, 4] [1] rfl (CWp.seq (CWp.conf 31 (by kernel_rfl) ?_)))
  refine cfq rfl rfl (fun _ _ _ => rfl) ?_
  refine cfq rfl rfl (fun _ _ _ => rfl) ?_
  refine cfq rfl rfl (fun _ _ _ => rfl) ?_
  refine cfp rfl [] [(1, _)] rfl ⟨rfl, trivial⟩ (fun _ _ _ => rfl) trivial ?_
  obtain ⟨v2, hv2, h⟩ := bI h
  refine cf1 (d := 15) (v := .str v2) rfl [(11, [], _), (14, [], _)] [] ⟨rfl, rfl, trivial⟩ trivial (fun fr X O hf => ?_) ?_
  · refine pCallV Tryz.call19 (g_quant_Print_w hv2) ?_
    exact COps.nil rfl
  refine cfq rfl rfl (fun _ _ _ => rfl) ?_
  refine cfq rfl rfl (fun _ _ _ => rfl) ?_
  refine cfq rfl rfl (fun _ _ _ => rfl) ?_
  refine cfp rfl [] [(1, _)] rfl ⟨rfl, trivial⟩ (fun _ _ _ => rfl) trivial ?_
  obtain ⟨v3, hv3, h⟩ := bI h
  refine cf1 (d := 20) (v := .str v3) rfl [(16, [], _), (19, [], _)] [] ⟨rfl, rfl, trivial⟩ trivial (fun fr X O hf => ?_) ?_
  · refine pCallV Tryz.call19 (g_quant_Print_w hv3) ?_
    exact COps.nil rfl
  refine cfq rfl rfl (fun _ _ _ => rfl) ?_
  refine cfq rfl rfl (fun _ _ _ => rfl) ?_
  refine cfq rfl rfl (fun _ _ _ => rfl) ?_
  refine cfp rfl [] [(1, _)] rfl ⟨rfl, trivial⟩ (fun _ _ _ => rfl) trivial ?_
  obtain ⟨v4, hv4, h⟩ := bI h
  refine cf1 (d := 25) (v := .str v4) rfl [(21, [], _), (24, [], _)] [] ⟨rfl, rfl, trivial⟩ trivial (fun fr X O hf => ?_) ?_
  · refine pCallV Tryz.call19 (g_quant_Print_w hv4) ?_
    exact COps.nil rfl
  refine cfb (d := 26) (v := .list true 9 ([v2, v3, v4].map AV.str)) rfl rfl (fun _ _ _ => rfl) (fun _ _ _ => rfl) ?_
  obtain ⟨v5, hv5, h⟩ := bI h
  refine cf1 (d := 27) (v := .list true 49 (v5.map eSField)) rfl [(26, [], _)] [] ⟨rfl, trivial⟩ trivial (fun fr X O hf => ?_) ?_
  · refine pCall (hsub := sbF rfl hf) Tryz.call20 (g_conf_fields_w hv5) rfl ?_
    exact COps.nil rfl
  refine cfq rfl rfl (fun _ _ _ => rfl) ?_
  refine cfq rfl rfl (fun _ _ _ => rfl) ?_
  refine cfq rfl rfl (fun _ _ _ => rfl) ?_
  refine cfp rfl [] [(1, _)] rfl ⟨rfl, trivial⟩ (fun _ _ _ => rfl) trivial ?_
  obtain ⟨v6, hv6, h⟩ := bI h
  refine cf1 (d := 32) (v := .str v6) rfl [(28, [], _), (31, [], _)] [] ⟨rfl, rfl, trivial⟩ trivial (fun fr X O hf => ?_) ?_
  · refine pCallV Tryz.call19 (g_quant_Print_w hv6) ?_
    exact COps.nil rfl
  refine cfq rfl rfl (fun _ _ _ => rfl) ?_
  refine cfq rfl rfl (fun _ _ _ => rfl) ?_
  refine cfq rfl rfl (fun _ _ _ => rfl) ?_
  refine cfp rfl [] [(1, _)] rfl ⟨rfl, trivial⟩ (fun _ _ _ => rfl) trivial ?_
  obtain ⟨v7, hv7, h⟩ := bI h
  refine cf1 (d := 37) (v := .str v7) rfl [(33, [], _), (36, [], _)] [] ⟨rfl, rfl, trivial⟩ trivial (fun fr X O hf => ?_) ?_
  · refine pCallV Tryz.call19 (g_quant_Print_w hv7) ?_
    exact COps.nil rfl
  refine cfq rfl rfl (fun _ _ _ => rfl) ?_
  refine cfq rfl rfl (fun _ _ _ => rfl) ?_
  refine cfq rfl rfl (fun _ _ _ => rfl) ?_
  refine cfp rfl [] [(1, _)] rfl ⟨rfl, trivial⟩ (fun _ _ _ => rfl) trivial ?_
  refine Conf.nil ⟨by kernel_rfl, ?_⟩
  obtain ⟨v8, hv8, h⟩ := bI h
  refine pCallV Tryz.call19 (g_quant_Print_w hv8) ?_
  refine rn 1 rfl ?_
  obtain ⟨v9, hv9, h⟩ := bI h
  refine pCall Tryz.call20 (g_conf_fields_w hv9) rfl ?_
  refine rh 2 [] [5] rfl trivial (COps.done [1, 4, 5] [1] rfl (CWp.mid (fun e => ∃ x10, e = ⟨[(1, [], .lptr 1 0), (4, [], .fn 19 []), (5, [], .list true 45 (x10.map (fun (x : List SField) => .list false 49 (x.map eSField))))], [], [(1, [zI a0.capacity.a, zI a0.capacity.b, zI a0.capacity.c, zI a0.allocatable.a, zI a0.allocatable.b, zI a0.allocatable.c, .list false 35 (a0.thresholds.map eSThreshold), zI a0.period, zI a0.retries, zI a0.maxAge, zI a0.dead])], [], base⟩ ∧ g_conf_Print_k1 a0 x10 = some r) ?_ ?_))
  · refine CWp.seq (CWp.region (rh 4 [a0.thresholds.length] [] rfl ⟨List.length_map .., trivial⟩ (COps.done [1, 4, 5, 47, 48, 49] [1] rfl (CWp.block (CWp.loop (fun m2 e => ∃ x21 x22, e = ⟨[(1, [], .lptr 1 0), (4, [], .fn 19 []), (5, [], .list true 45 (x22.map (fun (x : List SField) => .list false 49 (x.map eSField)))), (47, [], .list false 35 (a0.thresholds.map eSThreshold)), (48, [], zI (a0.thresholds.length : Int)), (49, [], zI x21)], [], [(1, [zI a0.capacity.a, zI a0.capacity.b, zI a0.capacity.c, zI a0.allocatable.a, zI a0.allocatable.b, zI a0.allocatable.c, .list false 35 (a0.thresholds.map eSThreshold), zI a0.period, zI a0.retries, zI a0.maxAge, zI a0.dead])], [], base⟩ ∧ g_conf_Print_l2 a0 (g_conf_Print_k1 a0) m2 x21 x22 = some r) FUEL ⟨_, _, rfl, h⟩ ?_ ?_)))))
    · rintro m2 _ ⟨x21, x22, rfl, h⟩
      rw [g_conf_Print_l2] at h
      refine srd 1 rfl [1, 4, 5, 47, 48, 49, 50] [1] rfl (CWp.seq (CWp.cond h rfl (fun h => ?_) (fun h => ?_)))
      · refine CWp.skip (CWp.seq (CWp.block (CWp.seq (CWp.region ?_))))
        obtain ⟨v23, hv23, h⟩ := bI h
        refine rd (rIx hv23) ?_
        refine rn 3 rfl (COps.done [1, 4, 5, 7, 47, 48, 49] [1, 7] rfl ?_)
        refine CWp.region (rh 2 [] [53] rfl trivial ?_)
        obtain ⟨v24, hv24, h⟩ := bI h
        refine pCall Tryz.call21 (g_thresh_Print_w hv24) rfl ?_
        refine rn 1 rfl ?_
        obtain ⟨v25, hv25, h⟩ := bI h
        refine pCall Tryz.call20 (g_conf_fields_w hv25) rfl ?_
        obtain ⟨v26, hv26, h⟩ := bI h
        refine rn 1 rfl (cApp (f := (fun (x : List SField) => .list false 49 (x.map eSField))) hv26 ?_)
        refine rh 1 [] [5] rfl trivial (COps.done [1, 4, 5, 47, 48, 49] [1] rfl ?_)
        refine CWp.region (rn 2 rfl (COps.done [1, 4, 5, 47, 48, 49] [1] rfl ?_))
        exact ⟨_, _, rfl, h⟩
      refine CWp.keep [1, 4, 5] [1] rfl (CWp.exit ?_)
      exact ⟨_, rfl, h⟩
    rintro _ ⟨_, _, _, h⟩
    rw [g_conf_Print_l2] at h; cases h
  rintro _ ⟨x10, rfl, h⟩
  unfold g_conf_Print_k1 at h
  refine CWp.seq (CWp.conf 26 (by kernel_rfl) ?_)
  refine cf2 (d := 61) (s := 5) (v := .list true 45 (x10.map (fun (x : List SField) => .list false 49 (x.map eSField)))) (u := .list false 45 (x10.map (fun (x : List SField) => .list false 49 (x.map eSField)))) rfl [(5, [], _)] [] ⟨rfl, trivial⟩ trivial (fun fr X O hf => ?_) ?_
  · exact rh 1 [] [61] rfl trivial (COps.nil rfl)
  refine cfq rfl rfl (fun _ _ _ => rfl) ?_
  refine cfq rfl rfl (fun _ _ _ => rfl) ?_
  refine cfp rfl [] [(1, _)] rfl ⟨rfl, trivial⟩ (fun _ _ _ => rfl) trivial ?_
  obtain ⟨v11, hv11, h⟩ := bI h
  refine cf1 (d := 65) (v := .str v11) rfl [(62, [], _), (64, [], _)] [] ⟨rfl, rfl, trivial⟩ trivial (fun fr X O hf => ?_) ?_
  · refine pCallV Tryz.call19 (g_quant_Print_w hv11) ?_
    exact COps.nil rfl
  refine cfb (d := 66) (v := .list true 9 ([v11].map AV.str)) rfl rfl (fun _ _ _ => rfl) (fun _ _ _ => rfl) ?_
  obtain ⟨v12, hv12, h⟩ := bI h
  refine cf1 (d := 67) (v := .list true 49 (v12.map eSField)) rfl [(66, [], _)] [] ⟨rfl, trivial⟩ trivial (fun fr X O hf => ?_) ?_
  · refine pCall (hsub := sbF rfl hf) Tryz.call20 (g_conf_fields_w hv12) rfl ?_
    exact COps.nil rfl
  refine cfq rfl rfl (fun _ _ _ => rfl) ?_
  refine cfq rfl rfl (fun _ _ _ => rfl) ?_
  refine cfp rfl [] [(1, _)] rfl ⟨rfl, trivial⟩ (fun _ _ _ => rfl) trivial ?_
  obtain ⟨v13, hv13, h⟩ := bI h
  refine cf1 (d := 71) (v := .str v13) rfl [(68, [], _), (70, [], _)] [] ⟨rfl, rfl, trivial⟩ trivial (fun fr X O hf => ?_) ?_
  · refine pCallV Tryz.call19 (g_quant_Print_w hv13) ?_
    exact COps.nil rfl
  refine cfb (d := 72) (v := .list true 9 ([v13].map AV.str)) rfl rfl (fun _ _ _ => rfl) (fun _ _ _ => rfl) ?_
  obtain ⟨v14, hv14, h⟩ := bI h
  refine cf1 (d := 73) (v := .list true 49 (v14.map eSField)) rfl [(72, [], _)] [] ⟨rfl, trivial⟩ trivial (fun fr X O hf => ?_) ?_
  · refine pCall (hsub := sbF rfl hf) Tryz.call20 (g_conf_fields_w hv14) rfl ?_
    exact COps.nil rfl
  refine cfq rfl rfl (fun _ _ _ => rfl) ?_
  refine cfq rfl rfl (fun _ _ _ => rfl) ?_
  refine cfp rfl [] [(1, _)] rfl ⟨rfl, trivial⟩ (fun _ _ _ => rfl) trivial ?_
  obtain ⟨v15, hv15, h⟩ := bI h
  refine cf1 (d := 77) (v := .str v15) rfl [(74, [], _), (76, [], _)] [] ⟨rfl, rfl, trivial⟩ trivial (fun fr X O hf => ?_) ?_
  · refine pCallV Tryz.call19 (g_quant_Print_w hv15) ?_
    exact COps.nil rfl
  refine cfb (d := 78) (v := .list true 9 ([v15].map AV.str)) rfl rfl (fun _ _ _ => rfl) (fun _ _ _ => rfl) ?_
  obtain ⟨v16, hv16, h⟩ := bI h
  refine cf1 (d := 79) (v := .list true 49 (v16.map eSField)) rfl [(78, [], _)] [] ⟨rfl, trivial⟩ trivial (fun fr X O hf => ?_) ?_
  · refine pCall (hsub := sbF rfl hf) Tryz.call20 (g_conf_fields_w hv16) rfl ?_
    exact COps.nil rfl
  refine cfq rfl rfl (fun _ _ _ => rfl) ?_
  refine cfq rfl rfl (fun _ _ _ => rfl) ?_
  refine cfp rfl [] [(1, _)] rfl ⟨rfl, trivial⟩ (fun _ _ _ => rfl) trivial ?_
  obtain ⟨v17, hv17, h⟩ := bI h
  refine cf1 (d := 83) (v := .str v17) rfl [(80, [], _), (82, [], _)] [] ⟨rfl, rfl, trivial⟩ trivial (fun fr X O hf => ?_) ?_
  · refine pCallV Tryz.call19 (g_quant_Print_w hv17) ?_
    exact COps.nil rfl
  refine cfb (d := 84) (v := .list true 9 ([v17].map AV.str)) rfl rfl (fun _ _ _ => rfl) (fun _ _ _ => rfl) ?_
  obtain ⟨v18, hv18, h⟩ := bI h
  refine cf1 (d := 85) (v := .list true 49 (v18.map eSField)) rfl [(84, [], _)] [] ⟨rfl, trivial⟩ trivial (fun fr X O hf => ?_) ?_
  · refine pCall (hsub := sbF rfl hf) Tryz.call20 (g_conf_fields_w hv18) rfl ?_
    exact COps.nil rfl
  refine cfb (d := 86) (v := .list true 45 ([v12, v14, v16, v18].map (fun (x : List SField) => .list false 49 (x.map eSField)))) rfl rfl (fun _ _ _ => rfl) (fun _ _ _ => rfl) ?_
  refine Conf.nil ⟨by kernel_rfl, ?_⟩
  obtain ⟨v19, hv19, h⟩ := bI h
  refine cApp (f := (fun (x : List SField) => .list false 49 (x.map eSField))) hv19 ?_
  refine rh 1 [] [5] rfl trivial (COps.done [5] [] rfl (CWp.seq (CWp.region (rn 1 rfl ?_))))
  obtain ⟨v20, hv20, h⟩ := bI h
  refine pCall Tryz.call22 (g_lex_Join_w hv20) rfl ?_
  refine rn 2 rfl (COps.done [2, 3] [] rfl ?_)
  cases h; exact CWp.ret ⟨.inl rfl, rfl, rfl⟩
def g_slices_Equal_Threshold_k1 : Option Bool :=
  some true
def g_slices_Equal_Threshold_l2 (a0 : List SThreshold) (a1 : List SThreshold) (k290 : Option Bool) : Nat → Int → Option Bool
  | 0, _ => none
  | m2 + 1, x1 =>
    bif decide (x1 < (a0.length : Int)) then
      bO (idx a0 x1) fun v2 =>
      bO (idx a1 x1) fun v3 =>
      bif !(qSThreshold v2 v3) then
        some false
      else
        (g_slices_Equal_Threshold_l2 a0 a1 k290 m2) (w64 (x1 + 1))
    else
      k290
def g_slices_Equal_Threshold (a0 : List SThreshold) (a1 : List SThreshold) : Option Bool :=
  bif (a0.length : Int) != (a1.length : Int) then
    some false
  else
    g_slices_Equal_Threshold_l2 a0 a1 g_slices_Equal_Threshold_k1 FUEL 0
theorem g_slices_Equal_Threshold_w {a0 : List SThreshold} {a1 : List SThreshold} {r : Bool} (h : g_slices_Equal_Threshold a0 a1 = some r) : PCall Tryz.prog 28 [.list false 35 (a0.map eSThreshold), .list false 35 (a1.map eSThreshold)] (zB r) := by
  refine PCall.body Tryz.func28 rfl rfl rfl rfl fun base => ?_
  unfold g_slices_Equal_Threshold at h
  refine srd 1 rfl [0, 1] [] rfl (CWp.seq (CWp.seq (CWp.region (rh 5 [a0.length, a1.length] [] rfl ⟨List.length_map .., List.length_map .., trivial⟩ (COps.done [0, 1, 10] [] rfl (CWp.cond h rfl (fun h => ?_) (fun h => ?_)))))))
  · refine srd 1 rfl [4] [] rfl ?_
    cases h; exact CWp.ret ⟨.inl rfl, rfl, rfl⟩
  refine CWp.skip (CWp.mid (fun e => e = ⟨[], [], [], [], base⟩ ∧ g_slices_Equal_Threshold_k1 = some r) ?_ ?_)
  · refine CWp.seq (CWp.region (rh 3 [a0.length] [] rfl ⟨List.length_map .., trivial⟩ (COps.done [0, 1, 12, 13] [] rfl (CWp.block (CWp.loop (fun m2 e => ∃ x1, e = ⟨[(0, [], .list false 35 (a0.map eSThreshold)), (1, [], .list false 35 (a1.map eSThreshold)), (12, [], zI (a0.length : Int)), (13, [], zI x1)], [], [], [], base⟩ ∧ g_slices_Equal_Threshold_l2 a0 a1 (g_slices_Equal_Threshold_k1) m2 x1 = some r) FUEL ⟨_, rfl, h⟩ ?_ ?_)))))
    · rintro m2 _ ⟨x1, rfl, h⟩
      rw [g_slices_Equal_Threshold_l2] at h
      refine srd 1 rfl [0, 1, 12, 13, 14] [] rfl (CWp.seq (CWp.cond h rfl (fun h => ?_) (fun h => ?_)))
      · refine CWp.skip (CWp.seq (CWp.block (srd 2 rfl [0, 1, 5, 12, 13] [] rfl (CWp.seq (CWp.drawn 9 (by kernel_rfl) ?_)))))
        obtain ⟨v2, hv2, h⟩ := bI h
        refine pn 2 rfl (pd (rIx hv2) ?_)
        obtain ⟨v3, hv3, h⟩ := bI h
        refine pn 3 rfl (pd (rIx hv3) ?_)
        refine pn 1 rfl (pd (rNe (a := v2) (b := v3) EqSThreshold) ?_)
        refine COpsE.nil (COps.done [0, 1, 12, 13, 24] [] rfl (CWp.cond h rfl (fun h => ?_) (fun h => ?_)))
        · refine srd 1 rfl [4] [] rfl ?_
          cases h; exact CWp.ret ⟨.inl rfl, rfl, rfl⟩
        refine CWp.skip ?_
        refine CWp.region (rn 2 rfl (COps.done [0, 1, 12, 13] [] rfl ?_))
        exact ⟨_, rfl, h⟩
      refine CWp.keep [] [] rfl (CWp.exit ?_)
      exact ⟨rfl, h⟩
    rintro _ ⟨_, _, h⟩
    rw [g_slices_Equal_Threshold_l2] at h; cases h
  rintro _ ⟨rfl, h⟩
  unfold g_slices_Equal_Threshold_k1 at h
  refine srd 1 rfl [4] [] rfl ?_
  cases h; exact CWp.ret ⟨.inl rfl, rfl, rfl⟩
def g_conf_Same (a0 : SConfig) (a1 : SConfig) : Option Bool :=
  bO (bif ((q3_Int a0.capacity a1.capacity) && (q3_Int a0.allocatable a1.allocatable)) then (g_slices_Equal_Threshold a0.thresholds a1.thresholds) else some default) fun v1 =>
  some (((((((q3_Int a0.capacity a1.capacity) && (q3_Int a0.allocatable a1.allocatable)) && v1) && (a0.period == a1.period)) && (a0.retries == a1.retries)) && (a0.maxAge == a1.maxAge)) && (a0.dead == a1.dead))
theorem g_conf_Same_w {a0 : SConfig} {a1 : SConfig} {r : Bool} (h : g_conf_Same a0 a1 = some r) : PCall Tryz.prog 12 [eSConfig a0, eSConfig a1] (zB r) := by
  refine PCall.body Tryz.func12 rfl rfl rfl rfl fun base => ?_
  unfold g_conf_Same at h
  refine srd 3 rfl [2, 3] [2, 3] rfl (CWp.seq (CWp.region (rn 4 rfl (rd (rEq (a := a0.capacity) (b := a1.capacity) Eq3_Int) ?_))))
  refine rn 5 rfl (rdg 10 true [] (fun _ => rEq (a := a0.allocatable) (b := a1.allocatable) Eq3_Int) ?_)
  refine rn 6 rfl (COps.keepG [2, 3, 17, 19, 21] rfl ?_)
  obtain ⟨v1, hv1, h⟩ := bI h
  refine pCallg 17 true [] Tryz.call28 (fun ht => g_slices_Equal_Threshold_w (gd hv1 (ht.1 _ rfl))) rfl ?_
  refine rn 30 rfl (COps.done [4] [] rfl ?_)
  cases h; exact CWp.ret ⟨.inl rfl, rfl, rfl⟩
def g_law07_awake : Option Bool :=
  bO (g_conf_Read [99, 97, 112, 97, 99, 105, 116, 121, 32, 56, 71, 105, 32, 49, 84, 105, 32, 49, 48, 48, 48, 10, 97, 108, 108, 111, 99, 97, 116, 97, 98, 108, 101, 32, 52, 107, 32, 55, 71, 105, 32, 57, 48, 48, 10, 112, 101, 114, 105, 111, 100, 32, 53, 10, 114, 101, 116, 114, 105, 101, 115, 32, 50, 10, 109, 97, 120, 97, 103, 101, 32, 51, 10, 100, 101, 97, 100, 32, 49, 10, 116, 104, 114, 101, 115, 104, 111, 108, 100, 32, 109, 101, 109, 111, 114, 121, 60, 49, 48, 37, 10]) fun v1 =>
  bO (g_conf_Read [112, 101, 114, 105, 111, 100, 32, 53, 10, 10, 112, 101, 114, 105, 111, 100, 32, 53]) fun v3 =>
  bO (g_conf_Read ([] : List UInt8)) fun v5 =>
  bO (g_conf_Print v1.1) fun v7 =>
  bO (g_conf_Print (⟨(⟨0, 0, 0⟩ : V3 Int), (⟨0, 0, 0⟩ : V3 Int), ([] : List SThreshold), 0, 0, 0, 0⟩ : SConfig)) fun v8 =>
  bif (((((((((v1.2.2 == 0) && (v1.2.1 == 0)) && (v1.1.allocatable.a == 4000)) && ((v1.1.thresholds.length : Int) == 1)) && (v3.2.2 == 5)) && (v3.2.1 == 3)) && (v5.2.2 == 4)) && (v7.2 == 0)) && (decide ((v7.1.length : Int) > 20))) && (v8.2 == 1) then
    bO (g_conf_Right v1.1) fun v9 =>
    bif v9 then
      bO (g_conf_Same v1.1 v1.1) fun v10 =>
      some v10
    else
      some false
  else
    some false
set_option maxRecDepth 8000 in
theorem g_law07_awake_w {r : Bool} (h : g_law07_awake = some r) : PCall Tryz.prog 4 [] (zB r) := by
  refine PCall.body Tryz.func4 rfl rfl rfl rfl fun base => ?_
  unfold g_law07_awake at h
  refine srd 1 rfl [] [] rfl (CWp.seq (CWp.region (rn 1 rfl (cConv ?_))))
  obtain ⟨v1, hv1, h⟩ := bI h
  refine cCall [] Tryz.call8 (g_conf_Read_w hv1) rfl rfl ?_
  rintro _ _ ⟨m2, pm2, sm2, rfl, rfl⟩
  refine rn 8 rfl (COps.done [1, 2, 3] [1] rfl (CWp.seq (CWp.region (rn 1 rfl (cConv ?_)))))
  obtain ⟨v3, hv3, h⟩ := bI h
  refine cCall [] Tryz.call8 (g_conf_Read_w hv3) rfl rfl ?_
  rintro _ _ ⟨m4, pm4, sm4, rfl, rfl⟩
  refine rn 8 rfl (COps.objs [1] rfl ?_)
  refine COps.done [1, 2, 3, 5, 6] [1] rfl (CWp.seq (CWp.region ?_))
  obtain ⟨v5, hv5, h⟩ := bI h
  refine cCall [] Tryz.call8 (g_conf_Read_w hv5) rfl rfl ?_
  rintro _ _ ⟨m6, pm6, sm6, rfl, rfl⟩
  refine rn 8 rfl (COps.objs [1] rfl ?_)
  refine COps.done [1, 2, 3, 5, 6, 9] [1] rfl (CWp.seq (CWp.region (rn 1 rfl ?_)))
  obtain ⟨v7, hv7, h⟩ := bI h
  refine kCall [0] Tryz.call10 (BCall.all (BCall.lendT (f := eSThreshold) (xs := v1.1.thresholds) (E := 35) (us := [.agg [zI v1.1.capacity.a, zI v1.1.capacity.b, zI v1.1.capacity.c, zI v1.1.allocatable.a, zI v1.1.allocatable.b, zI v1.1.allocatable.c, hdM m2 pm2 v1.1.thresholds sm2, zI v1.1.period, zI v1.1.retries, zI v1.1.maxAge, zI v1.1.dead]]) (ws := [.agg [zI v1.1.capacity.a, zI v1.1.capacity.b, zI v1.1.capacity.c, zI v1.1.allocatable.a, zI v1.1.allocatable.b, zI v1.1.allocatable.c, .list false 35 (v1.1.thresholds.map eSThreshold), zI v1.1.period, zI v1.1.retries, zI v1.1.maxAge, zI v1.1.dead]]) (fun _ => ⟨rfl, rfl, rfl⟩) (tabS (kk := _) rfl) (by decide) ⟨.inr (.inr ⟨_, _, rfl, rfl, ⟨.inl rfl, .inl rfl, .inl rfl, .inl rfl, .inl rfl, .inl rfl, .inr ⟨rfl, rfl⟩, .inl rfl, .inl rfl, .inl rfl, .inl rfl, trivial⟩⟩), trivial⟩ (g_conf_Print_w hv7) rfl)) rfl rfl ?_
  refine rn 5 rfl (COps.done [1, 2, 3, 5, 6, 9, 10, 11] [1] rfl (CWp.seq (CWp.region (rn 1 rfl ?_))))
  obtain ⟨v8, hv8, h⟩ := bI h
  refine pCall Tryz.call10 (g_conf_Print_w hv8) rfl ?_
  refine rn 5 rfl (COps.done [1, 2, 3, 5, 6, 9, 10, 11, 13] [1] rfl (CWp.seq (CWp.region (rn 15 rfl (rdg 55 true [] (fun _ => rLenM) ?_)))))
  refine rn 28 rfl (COps.caseB 86 h rfl (fun h => ?_) (fun h => ?_))
  · refine COps.want ?_
    refine rn 1 rfl (COps.want ?_)
    refine COps.keepG [1, 86, 87] rfl ?_
    refine COps.keep [1, 86, 87] [1] rfl ?_
    obtain ⟨v9, hv9, h⟩ := bI h
    refine kCall [0] Tryz.call11 (BCall.all (BCall.lendT (f := eSThreshold) (xs := v1.1.thresholds) (E := 35) (us := [.agg [zI v1.1.capacity.a, zI v1.1.capacity.b, zI v1.1.capacity.c, zI v1.1.allocatable.a, zI v1.1.allocatable.b, zI v1.1.allocatable.c, hdM m2 pm2 v1.1.thresholds sm2, zI v1.1.period, zI v1.1.retries, zI v1.1.maxAge, zI v1.1.dead]]) (ws := [.agg [zI v1.1.capacity.a, zI v1.1.capacity.b, zI v1.1.capacity.c, zI v1.1.allocatable.a, zI v1.1.allocatable.b, zI v1.1.allocatable.c, .list false 35 (v1.1.thresholds.map eSThreshold), zI v1.1.period, zI v1.1.retries, zI v1.1.maxAge, zI v1.1.dead]]) (fun _ => ⟨rfl, rfl, rfl⟩) (tabS (kk := _) rfl) (by decide) ⟨.inr (.inr ⟨_, _, rfl, rfl, ⟨.inl rfl, .inl rfl, .inl rfl, .inl rfl, .inl rfl, .inl rfl, .inr ⟨rfl, rfl⟩, .inl rfl, .inl rfl, .inl rfl, .inl rfl, trivial⟩⟩), trivial⟩ (g_conf_Right_w hv9) rfl)) rfl rfl ?_
    refine rd (rPickK) ?_
    refine rn 1 rfl (COps.caseB 90 h rfl (fun h => ?_) (fun h => ?_))
    · refine COps.want ?_
      refine rn 1 rfl (COps.want ?_)
      refine rn 1 rfl (COps.want ?_)
      obtain ⟨v10, hv10, h⟩ := bI h
      refine kCall [0] Tryz.call12 (BCall.all (BCall.lendT (f := eSThreshold) (xs := v1.1.thresholds) (E := 35) (us := [.agg [zI v1.1.capacity.a, zI v1.1.capacity.b, zI v1.1.capacity.c, zI v1.1.allocatable.a, zI v1.1.allocatable.b, zI v1.1.allocatable.c, hdM m2 pm2 v1.1.thresholds sm2, zI v1.1.period, zI v1.1.retries, zI v1.1.maxAge, zI v1.1.dead], .agg [zI v1.1.capacity.a, zI v1.1.capacity.b, zI v1.1.capacity.c, zI v1.1.allocatable.a, zI v1.1.allocatable.b, zI v1.1.allocatable.c, hdM m2 pm2 v1.1.thresholds sm2, zI v1.1.period, zI v1.1.retries, zI v1.1.maxAge, zI v1.1.dead]]) (ws := [.agg [zI v1.1.capacity.a, zI v1.1.capacity.b, zI v1.1.capacity.c, zI v1.1.allocatable.a, zI v1.1.allocatable.b, zI v1.1.allocatable.c, .list false 35 (v1.1.thresholds.map eSThreshold), zI v1.1.period, zI v1.1.retries, zI v1.1.maxAge, zI v1.1.dead], .agg [zI v1.1.capacity.a, zI v1.1.capacity.b, zI v1.1.capacity.c, zI v1.1.allocatable.a, zI v1.1.allocatable.b, zI v1.1.allocatable.c, .list false 35 (v1.1.thresholds.map eSThreshold), zI v1.1.period, zI v1.1.retries, zI v1.1.maxAge, zI v1.1.dead]]) (fun _ => ⟨rfl, rfl, rfl⟩) (tabS (kk := _) rfl) (by decide) ⟨.inr (.inr ⟨_, _, rfl, rfl, ⟨.inl rfl, .inl rfl, .inl rfl, .inl rfl, .inl rfl, .inl rfl, .inr ⟨rfl, rfl⟩, .inl rfl, .inl rfl, .inl rfl, .inl rfl, trivial⟩⟩), .inr (.inr ⟨_, _, rfl, rfl, ⟨.inl rfl, .inl rfl, .inl rfl, .inl rfl, .inl rfl, .inl rfl, .inr ⟨rfl, rfl⟩, .inl rfl, .inl rfl, .inl rfl, .inl rfl, trivial⟩⟩), trivial⟩ (g_conf_Same_w hv10) rfl)) rfl rfl ?_
      refine rd (rPickK) ?_
      refine rn 1 rfl (COps.objs [] rfl ?_)
      refine COps.done [0] [] rfl ?_
      cases h; exact CWp.ret ⟨.inl rfl, rfl, rfl⟩
    refine COps.unwant ?_
    refine COps.unwant ?_
    refine COps.unwant ?_
    refine rd (rPickK) ?_
    refine rn 1 rfl (COps.objs [] rfl ?_)
    refine COps.done [0] [] rfl ?_
    cases h; exact CWp.ret ⟨.inl rfl, rfl, rfl⟩
  refine COps.unwant ?_
  refine COps.unwant ?_
  refine rd (rPickK) ?_
  refine rn 1 rfl (COps.unwant ?_)
  refine COps.unwant ?_
  refine COps.unwant ?_
  refine rd (rPickK) ?_
  refine rn 1 rfl (COps.objs [] rfl ?_)
  refine COps.done [0] [] rfl ?_
  cases h; exact CWp.ret ⟨.inl rfl, rfl, rfl⟩
def g_law07_few (a0 : SConfig) : Option Bool :=
  some (decide ((a0.thresholds.length : Int) ≤ 30))
theorem g_law07_few_w {a0 : SConfig} {r : Bool} (h : g_law07_few a0 = some r) : PCall Tryz.prog 5 [eSConfig a0] (zB r) := by
  refine PCall.body Tryz.func5 rfl rfl rfl rfl fun base => ?_
  unfold g_law07_few at h
  refine srd 2 rfl [1] [1] rfl (CWp.seq (CWp.region (rh 5 [a0.thresholds.length] [] rfl ⟨List.length_map .., trivial⟩ (COps.done [2] [] rfl ?_))))
  cases h; exact CWp.ret ⟨.inl rfl, rfl, rfl⟩
def g_ref06_Right (a0 : SThreshold) : Option Bool :=
  bif ((((decide (a0.signal < 0)) || (decide (a0.signal > 2))) || (decide (a0.percent < 0))) || (decide (a0.percent > 100))) || (decide (a0.amount < 0)) then
    some false
  else
    bif (a0.percent == 0) == (a0.amount == 0) then
      some false
    else
      bif a0.soft then
        some ((decide (a0.grace ≥ 1)) && (decide (a0.grace ≤ 1000)))
      else
        some (a0.grace == 0)
theorem g_ref06_Right_w {a0 : SThreshold} {r : Bool} (h : g_ref06_Right a0 = some r) : PCall Tryz.prog 13 [eSThreshold a0] (zB r) := by
  refine PCall.body Tryz.func13 rfl rfl rfl rfl fun base => ?_
  unfold g_ref06_Right at h
  refine srd 2 rfl [1] [1] rfl (CWp.seq (srd 23 rfl [1, 25] [1] rfl (CWp.cond h rfl (fun h => ?_) (fun h => ?_))))
  · refine srd 1 rfl [2] [] rfl ?_
    cases h; exact CWp.ret ⟨.inl rfl, rfl, rfl⟩
  refine CWp.skip (CWp.seq (srd 7 rfl [1, 32] [1] rfl (CWp.cond h rfl (fun h => ?_) (fun h => ?_))))
  · refine srd 1 rfl [2] [] rfl ?_
    cases h; exact CWp.ret ⟨.inl rfl, rfl, rfl⟩
  refine CWp.skip (CWp.seq (srd 2 rfl [1, 34] [1] rfl (CWp.cond h rfl (fun h => ?_) (fun h => ?_))))
  · refine srd 9 rfl [2] [] rfl ?_
    cases h; exact CWp.ret ⟨.inl rfl, rfl, rfl⟩
  refine CWp.skip (srd 4 rfl [2] [] rfl ?_)
  cases h; exact CWp.ret ⟨.inl rfl, rfl, rfl⟩
def g_ref07_Right_k1 (a0 : SConfig) : Option Bool :=
  some ((((((((decide (a0.period ≥ 1)) && (decide (a0.period ≤ 1000))) && (decide (a0.maxAge ≥ 1))) && (decide (a0.maxAge ≤ 1000))) && (decide (a0.retries ≥ 0))) && (decide (a0.retries ≤ 20))) && (decide (a0.dead ≥ 0))) && (decide (a0.dead ≤ 100)))
def g_ref07_Right_l2 (a0 : SConfig) (k290 : Option Bool) : Nat → Int → Option Bool
  | 0, _ => none
  | m2 + 1, x1 =>
    bif decide (x1 < (a0.thresholds.length : Int)) then
      bO (idx a0.thresholds x1) fun v2 =>
      bO (g_ref06_Right v2) fun v3 =>
      bif !v3 then
        some false
      else
        (g_ref07_Right_l2 a0 k290 m2) (w64 (x1 + 1))
    else
      k290
def g_ref07_Right (a0 : SConfig) : Option Bool :=
  bif (decide (a0.capacity.a < 1)) || (decide (a0.allocatable.a < 0)) then
    some false
  else
    bif (decide (a0.capacity.b < 1)) || (decide (a0.allocatable.b < 0)) then
      some false
    else
      bif (decide (a0.capacity.c < 1)) || (decide (a0.allocatable.c < 0)) then
        some false
      else
        bif ((decide (a0.allocatable.b > a0.capacity.a)) || (decide (a0.allocatable.c > a0.capacity.c))) || (decide ((a0.thresholds.length : Int) > 12)) then
          some false
        else
          g_ref07_Right_l2 a0 (g_ref07_Right_k1 a0) FUEL 0
theorem g_ref07_Right_w {a0 : SConfig} {r : Bool} (h : g_ref07_Right a0 = some r) : PCall Tryz.prog 6 [eSConfig a0] (zB r) := by
  refine PCall.body Tryz.func6 rfl rfl rfl rfl fun base => ?_
  unfold g_ref07_Right at h
  refine srd 2 rfl [1] [1] rfl (CWp.seq (srd 1 rfl [1, 3] [1] rfl (CWp.block (CWp.unroll 4 (crd (CWp.seq (srd 2 rfl [1, 3, 6] [1] rfl (CWp.condT rfl (by decide) ?_))))))))
  refine CWp.skip (CWp.seq (CWp.block (srd 12 rfl [1, 3, 20] [1] rfl (CWp.cond h rfl (fun h => ?_) (fun h => ?_)))))
  · refine srd 1 rfl [2] [] rfl ?_
    cases h; exact CWp.ret ⟨.inl rfl, rfl, rfl⟩
  refine CWp.skip ?_
  refine CWp.region (rn 3 rfl (COps.done [1, 3] [1] rfl (crd (CWp.seq (srd 2 rfl [1, 3, 6] [1] rfl (CWp.condT rfl (by decide) ?_))))))
  refine CWp.skip (CWp.seq (CWp.block (srd 12 rfl [1, 3, 20] [1] rfl (CWp.cond h rfl (fun h => ?_) (fun h => ?_)))))
  · refine srd 1 rfl [2] [] rfl ?_
    cases h; exact CWp.ret ⟨.inl rfl, rfl, rfl⟩
  refine CWp.skip ?_
  refine CWp.region (rn 3 rfl (COps.done [1, 3] [1] rfl (crd (CWp.seq (srd 2 rfl [1, 3, 6] [1] rfl (CWp.condT rfl (by decide) ?_))))))
  refine CWp.skip (CWp.seq (CWp.block (srd 12 rfl [1, 3, 20] [1] rfl (CWp.cond h rfl (fun h => ?_) (fun h => ?_)))))
  · refine srd 1 rfl [2] [] rfl ?_
    cases h; exact CWp.ret ⟨.inl rfl, rfl, rfl⟩
  refine CWp.skip ?_
  refine CWp.region (rn 3 rfl (COps.done [1, 3] [1] rfl (crd (CWp.seq (srd 2 rfl [1, 3, 6] [1] rfl (CWp.condF rfl (by decide) ?_))))))
  refine CWp.exit (CWp.seq (CWp.seq (CWp.region (rh 22 [a0.thresholds.length] [] rfl ⟨List.length_map .., trivial⟩ (COps.done [1, 42] [1] rfl (CWp.cond h rfl (fun h => ?_) (fun h => ?_)))))))
  · refine srd 1 rfl [2] [] rfl ?_
    cases h; exact CWp.ret ⟨.inl rfl, rfl, rfl⟩
  refine CWp.skip (CWp.mid (fun e => e = ⟨[(1, [], .lptr 1 0)], [], [(1, [zI a0.capacity.a, zI a0.capacity.b, zI a0.capacity.c, zI a0.allocatable.a, zI a0.allocatable.b, zI a0.allocatable.c, .list false 35 (a0.thresholds.map eSThreshold), zI a0.period, zI a0.retries, zI a0.maxAge, zI a0.dead])], [], base⟩ ∧ g_ref07_Right_k1 a0 = some r) ?_ ?_)
  · refine srd 1 rfl [1, 4] [1] rfl (CWp.block (CWp.loop (fun m2 e => ∃ x1, e = ⟨[(1, [], .lptr 1 0), (4, [], zI x1)], [], [(1, [zI a0.capacity.a, zI a0.capacity.b, zI a0.capacity.c, zI a0.allocatable.a, zI a0.allocatable.b, zI a0.allocatable.c, .list false 35 (a0.thresholds.map eSThreshold), zI a0.period, zI a0.retries, zI a0.maxAge, zI a0.dead])], [], base⟩ ∧ g_ref07_Right_l2 a0 (g_ref07_Right_k1 a0) m2 x1 = some r) FUEL ⟨_, rfl, h⟩ ?_ ?_))
    · rintro m2 _ ⟨x1, rfl, h⟩
      rw [g_ref07_Right_l2] at h
      refine CWp.seq (CWp.seq (CWp.region (rh 5 [a0.thresholds.length] [] rfl ⟨List.length_map .., trivial⟩ (COps.done [1, 4, 47] [1] rfl (CWp.cond h rfl (fun h => ?_) (fun h => ?_))))))
      · refine CWp.skip (CWp.seq (CWp.block (CWp.seq (CWp.region ?_))))
        obtain ⟨v2, hv2, h⟩ := bI h
        refine rn 3 rfl (rd (rIx hv2) ?_)
        refine rn 1 rfl ?_
        obtain ⟨v3, hv3, h⟩ := bI h
        refine pCall Tryz.call13 (g_ref06_Right_w hv3) rfl ?_
        refine rn 1 rfl (COps.done [1, 4, 56] [1] rfl (CWp.cond h rfl (fun h => ?_) (fun h => ?_)))
        · refine srd 1 rfl [2] [] rfl ?_
          cases h; exact CWp.ret ⟨.inl rfl, rfl, rfl⟩
        refine CWp.skip ?_
        refine CWp.region (rn 3 rfl (COps.done [1, 4] [1] rfl ?_))
        exact ⟨_, rfl, h⟩
      refine CWp.keep [1] [1] rfl (CWp.exit ?_)
      exact ⟨rfl, h⟩
    rintro _ ⟨_, _, h⟩
    rw [g_ref07_Right_l2] at h; cases h
  rintro _ ⟨rfl, h⟩
  unfold g_ref07_Right_k1 at h
  refine srd 39 rfl [2] [] rfl ?_
  cases h; exact CWp.ret ⟨.inl rfl, rfl, rfl⟩
def g_ref05_Names : Option (List (List UInt8)) :=
  some [[84, 105], [84], [71, 105], [71], [77, 105], [77], [75, 105], [107]]
theorem g_ref05_Names_w {r : List (List UInt8)} (h : g_ref05_Names = some r) : PCall Tryz.prog 29 [] (.list true 9 (r.map AV.str)) := by
  refine PCall.body Tryz.func29 rfl rfl rfl rfl fun base => ?_
  unfold g_ref05_Names at h
  refine srd 1 rfl [] [] rfl (CWp.seq (CWp.region (rh 2 [] [0] rfl trivial (COps.done [0] [] rfl ?_))))
  cases h; exact CWp.ret ⟨.inl rfl, rfl, rfl⟩
end
section
open Go.RowKit
def g_ref05_Unit_k1 : Option Int :=
  some 0
def g_ref05_Unit_k3 (x2 : Int) (q2 : Int → Option Int) : Option Int :=
  q2 (w64 (x2 + 1))
def g_ref05_Unit_k4 (x4 : Int) : Option Int :=
  some x4
def g_ref05_Unit_k6 (x6 : Int) (q5 : Int → Int → Option Int) (x7 : Int) : Option Int :=
  q5 x7 (w64 (x6 + 1))
def g_ref05_Unit_l5 (x2 : Int) (k590 : Int → Option Int) : Nat → Int → Int → Option Int
  | 0, _, _ => none
  | m5 + 1, x5, x6 =>
    bif decide (x6 < 4) then
      bif (x2.tmod 2) == 0 then
        g_ref05_Unit_k6 x6 (g_ref05_Unit_l5 x2 k590 m5) (w64 (x5 * 1024))
      else
        g_ref05_Unit_k6 x6 (g_ref05_Unit_l5 x2 k590 m5) (w64 (x5 * 1000))
    else
      k590 x5
def g_ref05_Unit_l2 (a0 : List UInt8) (v1 : List (List UInt8)) (k290 : Option Int) : Nat → Int → Option Int
  | 0, _ => none
  | m2 + 1, x2 =>
    bif decide (x2 < 8) then
      bO (idx v1 x2) fun v3 =>
      bif v3 == a0 then
        g_ref05_Unit_l5 x2 g_ref05_Unit_k4 FUEL 1 (w64 (x2.tdiv 2))
      else
        g_ref05_Unit_k3 x2 (g_ref05_Unit_l2 a0 v1 k290 m2)
    else
      k290
def g_ref05_Unit (a0 : List UInt8) : Option Int :=
  bif a0 == ([] : List UInt8) then
    some 1
  else
    bO (g_ref05_Names) fun v1 =>
    g_ref05_Unit_l2 a0 v1 g_ref05_Unit_k1 FUEL 0
theorem g_ref05_Unit_w {a0 : List UInt8} {r : Int} (h : g_ref05_Unit a0 = some r) : PCall Tryz.prog 30 [.str a0] (zI r) := by
  refine PCall.body Tryz.func30 rfl rfl rfl rfl fun base => ?_
  unfold g_ref05_Unit at h
  refine srd 1 rfl [0] [] rfl (CWp.seq (srd 2 rfl [0, 8] [] rfl (CWp.cond h rfl (fun h => ?_) (fun h => ?_))))
  · refine srd 1 rfl [2] [] rfl ?_
    cases h; exact CWp.ret ⟨.inl rfl, rfl, rfl⟩
  refine CWp.skip (CWp.seq (CWp.region ?_))
  obtain ⟨v1, hv1, h⟩ := bI h
  refine pCall Tryz.call29 (g_ref05_Names_w hv1) rfl ?_
  refine rh 1 [] [3] rfl trivial (COps.done [0, 3] [] rfl (CWp.mid (fun e => e = ⟨[], [], [], [], base⟩ ∧ g_ref05_Unit_k1 = some r) ?_ ?_))
  · refine srd 1 rfl [0, 3, 4] [] rfl (CWp.block (CWp.loop (fun m2 e => ∃ x2, e = ⟨[(0, [], .str a0), (3, [], .list true 9 (v1.map AV.str)), (4, [], zI x2)], [], [], [], base⟩ ∧ g_ref05_Unit_l2 a0 v1 (g_ref05_Unit_k1) m2 x2 = some r) FUEL ⟨_, rfl, h⟩ ?_ ?_))
    · rintro m2 _ ⟨x2, rfl, h⟩
      rw [g_ref05_Unit_l2] at h
      refine CWp.seq (srd 2 rfl [0, 3, 4, 11] [] rfl (CWp.cond h rfl (fun h => ?_) (fun h => ?_)))
      · refine CWp.skip (CWp.mid (fun e => e = ⟨[(0, [], .str a0), (3, [], .list true 9 (v1.map AV.str)), (4, [], zI x2)], [], [], [], base⟩ ∧ g_ref05_Unit_k3 x2 (g_ref05_Unit_l2 a0 v1 (g_ref05_Unit_k1) m2) = some r) ?_ ?_)
        · refine CWp.block (CWp.seq (CWp.region ?_))
          obtain ⟨v3, hv3, h⟩ := bI h
          refine rn 2 rfl (rd (rIx hv3) ?_)
          refine rn 3 rfl (COps.done [0, 3, 4, 19] [] rfl (CWp.cond h rfl (fun h => ?_) (fun h => ?_)))
          · refine srd 1 rfl [4, 5] [] rfl (CWp.mid (fun e => ∃ x4, e = ⟨[(5, [], zI x4)], [], [], [], base⟩ ∧ g_ref05_Unit_k4 x4 = some r) ?_ ?_)
            · refine srd 3 rfl [4, 5, 6] [] rfl (CWp.block (CWp.loop (fun m5 e => ∃ x5 x6, e = ⟨[(4, [], zI x2), (5, [], zI x5), (6, [], zI x6)], [], [], [], base⟩ ∧ g_ref05_Unit_l5 x2 (g_ref05_Unit_k4) m5 x5 x6 = some r) FUEL ⟨_, _, rfl, h⟩ ?_ ?_))
              · rintro m5 _ ⟨x5, x6, rfl, h⟩
                rw [g_ref05_Unit_l5] at h
                refine CWp.seq (srd 2 rfl [4, 5, 6, 23] [] rfl (CWp.cond h rfl (fun h => ?_) (fun h => ?_)))
                · refine CWp.skip (CWp.mid (fun e => ∃ x7, e = ⟨[(4, [], zI x2), (5, [], zI x7), (6, [], zI x6)], [], [], [], base⟩ ∧ g_ref05_Unit_k6 x6 (g_ref05_Unit_l5 x2 (g_ref05_Unit_k4) m5) x7 = some r) ?_ ?_)
                  · refine CWp.block (srd 3 rfl [4, 5, 6, 28] [] rfl (CWp.cond h rfl (fun h => ?_) (fun h => ?_)))
                    · refine CWp.region (rn 3 rfl (COps.done [4, 5, 6] [] rfl ?_))
                      exact ⟨_, rfl, h⟩
                    refine CWp.region (rn 3 rfl (COps.done [4, 5, 6] [] rfl ?_))
                    exact ⟨_, rfl, h⟩
                  rintro _ ⟨x7, rfl, h⟩
                  unfold g_ref05_Unit_k6 at h
                  refine CWp.region (rn 3 rfl (COps.done [4, 5, 6] [] rfl ?_))
                  exact ⟨_, _, rfl, h⟩
                refine CWp.keep [5] [] rfl (CWp.exit ?_)
                exact ⟨_, rfl, h⟩
              rintro _ ⟨_, _, _, h⟩
              rw [g_ref05_Unit_l5] at h; cases h
            rintro _ ⟨x4, rfl, h⟩
            unfold g_ref05_Unit_k4 at h
            refine srd 2 rfl [2] [] rfl ?_
            cases h; exact CWp.ret ⟨.inl rfl, rfl, rfl⟩
          refine CWp.keep [0, 3, 4] [] rfl (CWp.skip ?_)
          exact ⟨rfl, h⟩
        rintro _ ⟨rfl, h⟩
        unfold g_ref05_Unit_k3 at h
        refine CWp.region (rn 3 rfl (COps.done [0, 3, 4] [] rfl ?_))
        exact ⟨_, rfl, h⟩
      refine CWp.keep [] [] rfl (CWp.exit ?_)
      exact ⟨rfl, h⟩
    rintro _ ⟨_, _, h⟩
    rw [g_ref05_Unit_l2] at h; cases h
  rintro _ ⟨rfl, h⟩
  unfold g_ref05_Unit_k1 at h
  refine srd 1 rfl [2] [] rfl ?_
  cases h; exact CWp.ret ⟨.inl rfl, rfl, rfl⟩
def g_ref05_Digits_r : Nat → Int → Option (List UInt8)
  | 0, _ => none
  | m + 1, a0 =>
    bif decide (a0 < 10) then
      some [u8 (w64 (48 + a0))]
    else
      bO (g_ref05_Digits_r m (w64 (a0.tdiv 10))) fun v1 =>
      bO (g_ref05_Digits_r m (a0.tmod 10)) fun v2 =>
      bO (appO v1 v2) fun v3 =>
      some v3
def g_ref05_Digits (a0 : Int) : Option (List UInt8) := g_ref05_Digits_r FUEL a0
theorem g_ref05_Digits_rw (m : Nat) : ∀ {a0 : Int} {r : List UInt8} (_h : g_ref05_Digits_r m a0 = some r), PCall Tryz.prog 31 [zI a0] (.str r) := by
  induction m with
  | zero => intro a0 r h; rw [g_ref05_Digits_r] at h; cases h
  | succ m ih =>
  intro a0 r h
  refine PCall.body Tryz.func31 rfl rfl rfl rfl fun base => ?_
  rw [g_ref05_Digits_r] at h
  refine srd 1 rfl [0] [] rfl (CWp.seq (srd 2 rfl [0, 4] [] rfl (CWp.cond h rfl (fun h => ?_) (fun h => ?_))))
  · refine CWp.seq (CWp.region (rn 3 rfl (cU8 7 ?_)))
    refine rn 1 rfl (rd (rStr (l := [u8 (w64 (48 + a0))])) ?_)
    refine rn 1 rfl (COps.done [2] [] rfl ?_)
    cases h; exact CWp.ret ⟨.inl rfl, rfl, rfl⟩
  refine CWp.skip (CWp.seq (CWp.region (rn 2 rfl ?_)))
  obtain ⟨v1, hv1, h⟩ := bI h
  refine pCall Tryz.call31 (ih hv1) rfl ?_
  refine rn 2 rfl ?_
  obtain ⟨v2, hv2, h⟩ := bI h
  refine pCall Tryz.call31 (ih hv2) rfl ?_
  obtain ⟨v3, hv3, h⟩ := bI h
  refine rd (rCat hv3) ?_
  refine rn 1 rfl (COps.done [2] [] rfl ?_)
  cases h; exact CWp.ret ⟨.inl rfl, rfl, rfl⟩
theorem g_ref05_Digits_w {a0 : Int} {r : List UInt8} (h : g_ref05_Digits a0 = some r) : PCall Tryz.prog 31 [zI a0] (.str r) := g_ref05_Digits_rw FUEL h
def g_ref05_Print_k1 (a0 : Int) (x2 : List UInt8) : Option (List UInt8) :=
  bO (g_ref05_Unit x2) fun v3 =>
  bO (quoO .i64 a0 v3) fun v4 =>
  bO (g_ref05_Digits v4) fun v5 =>
  bO (appO v5 x2) fun v6 =>
  some v6
def g_ref05_Print_k3 (x8 : Int) (q2 : (List UInt8) → Int → Option (List UInt8)) (x9 : List UInt8) : Option (List UInt8) :=
  q2 x9 (w64 (x8 - 1))
def g_ref05_Print_l2 (a0 : Int) (v1 : List (List UInt8)) (k290 : (List UInt8) → Option (List UInt8)) : Nat → (List UInt8) → Int → Option (List UInt8)
  | 0, _, _ => none
  | m2 + 1, x7, x8 =>
    bif decide (x8 ≥ 0) then
      bO (idx v1 x8) fun v10 =>
      bO (g_ref05_Unit v10) fun v11 =>
      bO (remO a0 v11) fun v12 =>
      bif v12 == 0 then
        bO (idx v1 x8) fun v13 =>
        g_ref05_Print_k3 x8 (g_ref05_Print_l2 a0 v1 k290 m2) v13
      else
        g_ref05_Print_k3 x8 (g_ref05_Print_l2 a0 v1 k290 m2) x7
    else
      k290 x7
def g_ref05_Print (a0 : Int) : Option (List UInt8) :=
  bif decide (a0 ≤ 0) then
    some [48]
  else
    bO (g_ref05_Names) fun v1 =>
    g_ref05_Print_l2 a0 v1 (g_ref05_Print_k1 a0) FUEL ([] : List UInt8) 7
theorem g_ref05_Print_w {a0 : Int} {r : List UInt8} (h : g_ref05_Print a0 = some r) : PCall Tryz.prog 14 [zI a0] (.str r) := by
  refine PCall.body Tryz.func14 rfl rfl rfl rfl fun base => ?_
  unfold g_ref05_Print at h
  refine srd 1 rfl [0] [] rfl (CWp.seq (srd 2 rfl [0, 7] [] rfl (CWp.cond h rfl (fun h => ?_) (fun h => ?_))))
  · refine srd 1 rfl [2] [] rfl ?_
    cases h; exact CWp.ret ⟨.inl rfl, rfl, rfl⟩
  refine CWp.skip (srd 1 rfl [0, 3] [] rfl (CWp.seq (CWp.region ?_)))
  obtain ⟨v1, hv1, h⟩ := bI h
  refine pCall Tryz.call29 (g_ref05_Names_w hv1) rfl ?_
  refine rh 1 [] [4] rfl trivial (COps.done [0, 3, 4] [] rfl (CWp.mid (fun e => ∃ x2, e = ⟨[(0, [], zI a0), (3, [], .str x2)], [], [], [], base⟩ ∧ g_ref05_Print_k1 a0 x2 = some r) ?_ ?_))
  · refine srd 1 rfl [0, 3, 4, 5] [] rfl (CWp.block (CWp.loop (fun m2 e => ∃ x7 x8, e = ⟨[(0, [], zI a0), (3, [], .str x7), (4, [], .list true 9 (v1.map AV.str)), (5, [], zI x8)], [], [], [], base⟩ ∧ g_ref05_Print_l2 a0 v1 (g_ref05_Print_k1 a0) m2 x7 x8 = some r) FUEL ⟨_, _, rfl, h⟩ ?_ ?_))
    · rintro m2 _ ⟨x7, x8, rfl, h⟩
      rw [g_ref05_Print_l2] at h
      refine CWp.seq (srd 2 rfl [0, 3, 4, 5, 10] [] rfl (CWp.cond h rfl (fun h => ?_) (fun h => ?_)))
      · refine CWp.skip (CWp.mid (fun e => ∃ x9, e = ⟨[(0, [], zI a0), (3, [], .str x9), (4, [], .list true 9 (v1.map AV.str)), (5, [], zI x8)], [], [], [], base⟩ ∧ g_ref05_Print_k3 x8 (g_ref05_Print_l2 a0 v1 (g_ref05_Print_k1 a0) m2) x9 = some r) ?_ ?_)
        · refine CWp.block (CWp.seq (CWp.region ?_))
          obtain ⟨v10, hv10, h⟩ := bI h
          refine rn 3 rfl (rd (rIx hv10) ?_)
          refine rn 1 rfl ?_
          obtain ⟨v11, hv11, h⟩ := bI h
          refine pCall Tryz.call30 (g_ref05_Unit_w hv11) rfl ?_
          obtain ⟨v12, hv12, h⟩ := bI h
          refine rd (rRem hv12) ?_
          refine rn 1 rfl (COps.done [0, 3, 4, 5, 20] [] rfl (CWp.cond h rfl (fun h => ?_) (fun h => ?_)))
          · refine CWp.region ?_
            obtain ⟨v13, hv13, h⟩ := bI h
            refine rn 2 rfl (rd (rIx hv13) ?_)
            refine rn 2 rfl (COps.done [0, 3, 4, 5] [] rfl ?_)
            exact ⟨_, rfl, h⟩
          refine CWp.keep [0, 3, 4, 5] [] rfl (CWp.skip ?_)
          exact ⟨_, rfl, h⟩
        rintro _ ⟨x9, rfl, h⟩
        unfold g_ref05_Print_k3 at h
        refine CWp.region (rn 3 rfl (COps.done [0, 3, 4, 5] [] rfl ?_))
        exact ⟨_, _, rfl, h⟩
      refine CWp.keep [0, 3] [] rfl (CWp.exit ?_)
      exact ⟨_, rfl, h⟩
    rintro _ ⟨_, _, _, h⟩
    rw [g_ref05_Print_l2] at h; cases h
  rintro _ ⟨x2, rfl, h⟩
  unfold g_ref05_Print_k1 at h
  refine CWp.seq (CWp.region (rn 2 rfl ?_))
  obtain ⟨v3, hv3, h⟩ := bI h
  refine pCall Tryz.call30 (g_ref05_Unit_w hv3) rfl ?_
  obtain ⟨v4, hv4, h⟩ := bI h
  refine rd (rQuo hv4) ?_
  obtain ⟨v5, hv5, h⟩ := bI h
  refine pCall Tryz.call31 (g_ref05_Digits_w hv5) rfl ?_
  obtain ⟨v6, hv6, h⟩ := bI h
  refine rn 1 rfl (rd (rCat hv6) ?_)
  refine rn 1 rfl (COps.done [2] [] rfl ?_)
  cases h; exact CWp.ret ⟨.inl rfl, rfl, rfl⟩
def g_ref06_Word (a0 : Int) : Option (List UInt8) :=
  bif a0 == 0 then
    some [109, 101, 109, 111, 114, 121]
  else
    bif a0 == 1 then
      some [100, 105, 115, 107]
    else
      some [112, 105, 100]
theorem g_ref06_Word_w {a0 : Int} {r : List UInt8} (h : g_ref06_Word a0 = some r) : PCall Tryz.prog 32 [zI a0] (.str r) := by
  refine PCall.body Tryz.func32 rfl rfl rfl rfl fun base => ?_
  unfold g_ref06_Word at h
  refine srd 1 rfl [0] [] rfl (CWp.seq (srd 2 rfl [0, 4] [] rfl (CWp.cond h rfl (fun h => ?_) (fun h => ?_))))
  · refine srd 1 rfl [2] [] rfl ?_
    cases h; exact CWp.ret ⟨.inl rfl, rfl, rfl⟩
  refine CWp.skip (CWp.seq (srd 2 rfl [6] [] rfl (CWp.cond h rfl (fun h => ?_) (fun h => ?_))))
  · refine srd 1 rfl [2] [] rfl ?_
    cases h; exact CWp.ret ⟨.inl rfl, rfl, rfl⟩
  refine CWp.skip (srd 1 rfl [2] [] rfl ?_)
  cases h; exact CWp.ret ⟨.inl rfl, rfl, rfl⟩
def g_ref06_Print_k1 (a0 : SThreshold) (x3 : List UInt8) : Option (List UInt8) :=
  bif a0.soft then
    bO (appO x3 [58]) fun v4 =>
    bO (g_ref05_Digits a0.grace) fun v5 =>
    bO (appO v4 v5) fun v6 =>
    some v6
  else
    some x3
def g_ref06_Print (a0 : SThreshold) : Option (List UInt8) :=
  bO (g_ref06_Word a0.signal) fun v1 =>
  bO (appO v1 [60]) fun v2 =>
  bif decide (a0.percent > 0) then
    bO (g_ref05_Digits a0.percent) fun v7 =>
    bO (appO v2 v7) fun v8 =>
    bO (appO v8 [37]) fun v9 =>
    g_ref06_Print_k1 a0 v9
  else
    bO (g_ref05_Print a0.amount) fun v10 =>
    bO (appO v2 v10) fun v11 =>
    g_ref06_Print_k1 a0 v11
theorem g_ref06_Print_w {a0 : SThreshold} {r : List UInt8} (h : g_ref06_Print a0 = some r) : PCall Tryz.prog 15 [eSThreshold a0] (.str r) := by
  refine PCall.body Tryz.func15 rfl rfl rfl rfl fun base => ?_
  unfold g_ref06_Print at h
  refine srd 2 rfl [1] [1] rfl (CWp.seq (CWp.region (rn 2 rfl ?_)))
  obtain ⟨v1, hv1, h⟩ := bI h
  refine pCall Tryz.call32 (g_ref06_Word_w hv1) rfl ?_
  obtain ⟨v2, hv2, h⟩ := bI h
  refine rd (rCat hv2) ?_
  refine rn 1 rfl (COps.done [1, 3] [1] rfl (CWp.mid (fun e => ∃ x3, e = ⟨[(1, [], .lptr 1 0), (3, [], .str x3)], [], [(1, [zI a0.signal, zI a0.percent, zI a0.amount, zB a0.soft, zI a0.grace])], [], base⟩ ∧ g_ref06_Print_k1 a0 x3 = some r) ?_ ?_))
  · refine srd 3 rfl [1, 3, 10] [1] rfl (CWp.cond h rfl (fun h => ?_) (fun h => ?_))
    · refine CWp.region (rn 3 rfl ?_)
      obtain ⟨v7, hv7, h⟩ := bI h
      refine pCall Tryz.call31 (g_ref05_Digits_w hv7) rfl ?_
      obtain ⟨v8, hv8, h⟩ := bI h
      refine rd (rCat hv8) ?_
      obtain ⟨v9, hv9, h⟩ := bI h
      refine rd (rCat hv9) ?_
      refine rn 1 rfl (COps.done [1, 3] [1] rfl ?_)
      exact ⟨_, rfl, h⟩
    refine CWp.region (rn 3 rfl ?_)
    obtain ⟨v10, hv10, h⟩ := bI h
    refine pCall Tryz.call14 (g_ref05_Print_w hv10) rfl ?_
    obtain ⟨v11, hv11, h⟩ := bI h
    refine rd (rCat hv11) ?_
    refine rn 1 rfl (COps.done [1, 3] [1] rfl ?_)
    exact ⟨_, rfl, h⟩
  rintro _ ⟨x3, rfl, h⟩
  unfold g_ref06_Print_k1 at h
  refine CWp.seq (srd 2 rfl [1, 3, 23] [1] rfl (CWp.cond h rfl (fun h => ?_) (fun h => ?_)))
  · refine CWp.region ?_
    obtain ⟨v4, hv4, h⟩ := bI h
    refine rn 1 rfl (rd (rCat hv4) ?_)
    refine rn 2 rfl ?_
    obtain ⟨v5, hv5, h⟩ := bI h
    refine pCall Tryz.call31 (g_ref05_Digits_w hv5) rfl ?_
    obtain ⟨v6, hv6, h⟩ := bI h
    refine rd (rCat hv6) ?_
    refine rn 1 rfl (COps.done [3] [] rfl (srd 2 rfl [2] [] rfl ?_))
    cases h; exact CWp.ret ⟨.inl rfl, rfl, rfl⟩
  refine CWp.skip (srd 2 rfl [2] [] rfl ?_)
  cases h; exact CWp.ret ⟨.inl rfl, rfl, rfl⟩
def g_ref07_Print_k1 (a0 : SConfig) (x21 : List UInt8) : Option (List UInt8) :=
  bO (appO x21 [112, 101, 114, 105, 111, 100, 32]) fun v22 =>
  bO (g_ref05_Print a0.period) fun v23 =>
  bO (appO v22 v23) fun v24 =>
  bO (appO v24 [10, 114, 101, 116, 114, 105, 101, 115, 32]) fun v25 =>
  bO (g_ref05_Print a0.retries) fun v26 =>
  bO (appO v25 v26) fun v27 =>
  bO (appO v27 [10, 109, 97, 120, 97, 103, 101, 32]) fun v28 =>
  bO (g_ref05_Print a0.maxAge) fun v29 =>
  bO (appO v28 v29) fun v30 =>
  bO (appO v30 [10, 100, 101, 97, 100, 32]) fun v31 =>
  bO (g_ref05_Print a0.dead) fun v32 =>
  bO (appO v31 v32) fun v33 =>
  bO (appO v33 [10]) fun v34 =>
  some v34
def g_ref07_Print_l2 (a0 : SConfig) (k290 : (List UInt8) → Option (List UInt8)) : Nat → (List UInt8) → Int → Option (List UInt8)
  | 0, _, _ => none
  | m2 + 1, x35, x36 =>
    bif decide (x36 < (a0.thresholds.length : Int)) then
      bO (appO x35 [116, 104, 114, 101, 115, 104, 111, 108, 100, 32]) fun v37 =>
      bO (idx a0.thresholds x36) fun v38 =>
      bO (g_ref06_Print v38) fun v39 =>
      bO (appO v37 v39) fun v40 =>
      bO (appO v40 [10]) fun v41 =>
      (g_ref07_Print_l2 a0 k290 m2) v41 (w64 (x36 + 1))
    else
      k290 x35
def g_ref07_Print (a0 : SConfig) : Option (List UInt8) :=
  bO (appO [99, 97, 112, 97, 99, 105, 116, 121] [32]) fun v1 =>
  bO (g_ref05_Print a0.capacity.a) fun v2 =>
  bO (appO v1 v2) fun v3 =>
  bO (appO v3 [32]) fun v4 =>
  bO (g_ref05_Print a0.capacity.b) fun v5 =>
  bO (appO v4 v5) fun v6 =>
  bO (appO v6 [32]) fun v7 =>
  bO (g_ref05_Print a0.capacity.c) fun v8 =>
  bO (appO v7 v8) fun v9 =>
  bO (appO v9 [10, 97, 108, 108, 111, 99, 97, 116, 97, 98, 108, 101]) fun v10 =>
  bO (appO v10 [32]) fun v11 =>
  bO (g_ref05_Print a0.allocatable.a) fun v12 =>
  bO (appO v11 v12) fun v13 =>
  bO (appO v13 [32]) fun v14 =>
  bO (g_ref05_Print a0.allocatable.b) fun v15 =>
  bO (appO v14 v15) fun v16 =>
  bO (appO v16 [32]) fun v17 =>
  bO (g_ref05_Print a0.allocatable.c) fun v18 =>
  bO (appO v17 v18) fun v19 =>
  bO (appO v19 [10]) fun v20 =>
  g_ref07_Print_l2 a0 (g_ref07_Print_k1 a0) FUEL v20 0
theorem g_ref07_Print_w {a0 : SConfig} {r : List UInt8} (h : g_ref07_Print a0 = some r) : PCall Tryz.prog 7 [eSConfig a0] (.str r) := by
  refine PCall.body Tryz.func7 rfl rfl rfl rfl fun base => ?_
  unfold g_ref07_Print at h
  refine srd 2 rfl [1] [1] rfl (srd 1 rfl [1, 3] [1] rfl (CWp.seq (srd 1 rfl [1, 3, 4] [1] rfl (CWp.block (CWp.unroll 4 (crd (CWp.seq (srd 2 rfl [1, 3, 4, 8] [1] rfl (CWp.condT rfl (by decide) ?_)))))))))
  refine CWp.skip (CWp.seq (CWp.block ?_))
  refine CWp.region ?_
  obtain ⟨v1, hv1, h⟩ := bI h
  refine rn 1 rfl (rd (rCat hv1) ?_)
  refine rn 4 rfl ?_
  obtain ⟨v2, hv2, h⟩ := bI h
  refine pCall Tryz.call14 (g_ref05_Print_w hv2) rfl ?_
  obtain ⟨v3, hv3, h⟩ := bI h
  refine rd (rCat hv3) ?_
  refine rn 1 rfl (COps.done [1, 3, 4] [1] rfl ?_)
  refine CWp.region (rn 3 rfl (COps.done [1, 3, 4] [1] rfl (crd (CWp.seq (srd 2 rfl [1, 3, 4, 8] [1] rfl (CWp.condT rfl (by decide) ?_))))))
  refine CWp.skip (CWp.seq (CWp.block ?_))
  refine CWp.region ?_
  obtain ⟨v4, hv4, h⟩ := bI h
  refine rn 1 rfl (rd (rCat hv4) ?_)
  refine rn 4 rfl ?_
  obtain ⟨v5, hv5, h⟩ := bI h
  refine pCall Tryz.call14 (g_ref05_Print_w hv5) rfl ?_
  obtain ⟨v6, hv6, h⟩ := bI h
  refine rd (rCat hv6) ?_
  refine rn 1 rfl (COps.done [1, 3, 4] [1] rfl ?_)
  refine CWp.region (rn 3 rfl (COps.done [1, 3, 4] [1] rfl (crd (CWp.seq (srd 2 rfl [1, 3, 4, 8] [1] rfl (CWp.condT rfl (by decide) ?_))))))
  refine CWp.skip (CWp.seq (CWp.block ?_))
  refine CWp.region ?_
  obtain ⟨v7, hv7, h⟩ := bI h
  refine rn 1 rfl (rd (rCat hv7) ?_)
  refine rn 4 rfl ?_
  obtain ⟨v8, hv8, h⟩ := bI h
  refine pCall Tryz.call14 (g_ref05_Print_w hv8) rfl ?_
  obtain ⟨v9, hv9, h⟩ := bI h
  refine rd (rCat hv9) ?_
  refine rn 1 rfl (COps.done [1, 3, 4] [1] rfl ?_)
  refine CWp.region (rn 3 rfl (COps.done [1, 3, 4] [1] rfl (crd (CWp.seq (srd 2 rfl [1, 3, 4, 8] [1] rfl (CWp.condF rfl (by decide) ?_))))))
  refine CWp.exit (CWp.seq (CWp.region ?_))
  obtain ⟨v10, hv10, h⟩ := bI h
  refine rn 1 rfl (rd (rCat hv10) ?_)
  refine rn 1 rfl (COps.done [1, 3] [1] rfl (CWp.seq (srd 1 rfl [1, 3, 5] [1] rfl (CWp.block (CWp.unroll 4 (crd (CWp.seq (srd 2 rfl [1, 3, 5, 22] [1] rfl (CWp.condT rfl (by decide) ?_)))))))))
  refine CWp.skip (CWp.seq (CWp.block ?_))
  refine CWp.region ?_
  obtain ⟨v11, hv11, h⟩ := bI h
  refine rn 1 rfl (rd (rCat hv11) ?_)
  refine rn 4 rfl ?_
  obtain ⟨v12, hv12, h⟩ := bI h
  refine pCall Tryz.call14 (g_ref05_Print_w hv12) rfl ?_
  obtain ⟨v13, hv13, h⟩ := bI h
  refine rd (rCat hv13) ?_
  refine rn 1 rfl (COps.done [1, 3, 5] [1] rfl ?_)
  refine CWp.region (rn 3 rfl (COps.done [1, 3, 5] [1] rfl (crd (CWp.seq (srd 2 rfl [1, 3, 5, 22] [1] rfl (CWp.condT rfl (by decide) ?_))))))
  refine CWp.skip (CWp.seq (CWp.block ?_))
  refine CWp.region ?_
  obtain ⟨v14, hv14, h⟩ := bI h
  refine rn 1 rfl (rd (rCat hv14) ?_)
  refine rn 4 rfl ?_
  obtain ⟨v15, hv15, h⟩ := bI h
  refine pCall Tryz.call14 (g_ref05_Print_w hv15) rfl ?_
  obtain ⟨v16, hv16, h⟩ := bI h
  refine rd (rCat hv16) ?_
  refine rn 1 rfl (COps.done [1, 3, 5] [1] rfl ?_)
  refine CWp.region (rn 3 rfl (COps.done [1, 3, 5] [1] rfl (crd (CWp.seq (srd 2 rfl [1, 3, 5, 22] [1] rfl (CWp.condT rfl (by decide) ?_))))))
  refine CWp.skip (CWp.seq (CWp.block ?_))
  refine CWp.region ?_
  obtain ⟨v17, hv17, h⟩ := bI h
  refine rn 1 rfl (rd (rCat hv17) ?_)
  refine rn 4 rfl ?_
  obtain ⟨v18, hv18, h⟩ := bI h
  refine pCall Tryz.call14 (g_ref05_Print_w hv18) rfl ?_
  obtain ⟨v19, hv19, h⟩ := bI h
  refine rd (rCat hv19) ?_
  refine rn 1 rfl (COps.done [1, 3, 5] [1] rfl ?_)
  refine CWp.region (rn 3 rfl (COps.done [1, 3, 5] [1] rfl (crd (CWp.seq (srd 2 rfl [1, 3, 5, 22] [1] rfl (CWp.condF rfl (by decide) ?_))))))
  refine CWp.exit (CWp.seq (CWp.region ?_))
  obtain ⟨v20, hv20, h⟩ := bI h
  refine rn 1 rfl (rd (rCat hv20) ?_)
  refine rn 1 rfl (COps.done [1, 3] [1] rfl (CWp.mid (fun e => ∃ x21, e = ⟨[(1, [], .lptr 1 0), (3, [], .str x21)], [], [(1, [zI a0.capacity.a, zI a0.capacity.b, zI a0.capacity.c, zI a0.allocatable.a, zI a0.allocatable.b, zI a0.allocatable.c, .list false 35 (a0.thresholds.map eSThreshold), zI a0.period, zI a0.retries, zI a0.maxAge, zI a0.dead])], [], base⟩ ∧ g_ref07_Print_k1 a0 x21 = some r) ?_ ?_))
  · refine srd 1 rfl [1, 3, 6] [1] rfl (CWp.block (CWp.loop (fun m2 e => ∃ x35 x36, e = ⟨[(1, [], .lptr 1 0), (3, [], .str x35), (6, [], zI x36)], [], [(1, [zI a0.capacity.a, zI a0.capacity.b, zI a0.capacity.c, zI a0.allocatable.a, zI a0.allocatable.b, zI a0.allocatable.c, .list false 35 (a0.thresholds.map eSThreshold), zI a0.period, zI a0.retries, zI a0.maxAge, zI a0.dead])], [], base⟩ ∧ g_ref07_Print_l2 a0 (g_ref07_Print_k1 a0) m2 x35 x36 = some r) FUEL ⟨_, _, rfl, h⟩ ?_ ?_))
    · rintro m2 _ ⟨x35, x36, rfl, h⟩
      rw [g_ref07_Print_l2] at h
      refine CWp.seq (CWp.seq (CWp.region (rh 5 [a0.thresholds.length] [] rfl ⟨List.length_map .., trivial⟩ (COps.done [1, 3, 6, 39] [1] rfl (CWp.cond h rfl (fun h => ?_) (fun h => ?_))))))
      · refine CWp.skip (CWp.seq (CWp.block ?_))
        refine CWp.region ?_
        obtain ⟨v37, hv37, h⟩ := bI h
        refine rn 1 rfl (rd (rCat hv37) ?_)
        obtain ⟨v38, hv38, h⟩ := bI h
        refine rn 3 rfl (rd (rIx hv38) ?_)
        refine rn 1 rfl ?_
        obtain ⟨v39, hv39, h⟩ := bI h
        refine pCall Tryz.call15 (g_ref06_Print_w hv39) rfl ?_
        obtain ⟨v40, hv40, h⟩ := bI h
        refine rd (rCat hv40) ?_
        obtain ⟨v41, hv41, h⟩ := bI h
        refine rd (rCat hv41) ?_
        refine rn 1 rfl (COps.done [1, 3, 6] [1] rfl ?_)
        refine CWp.region (rn 3 rfl (COps.done [1, 3, 6] [1] rfl ?_))
        exact ⟨_, _, rfl, h⟩
      refine CWp.keep [1, 3] [1] rfl (CWp.exit ?_)
      exact ⟨_, rfl, h⟩
    rintro _ ⟨_, _, _, h⟩
    rw [g_ref07_Print_l2] at h; cases h
  rintro _ ⟨x21, rfl, h⟩
  unfold g_ref07_Print_k1 at h
  refine CWp.seq (CWp.drawn 23 (by kernel_rfl) ?_)
  obtain ⟨v22, hv22, h⟩ := bI h
  refine pn 1 rfl (pd (rCat hv22) ?_)
  refine pn 2 rfl ?_
  obtain ⟨v23, hv23, h⟩ := bI h
  refine qCall Tryz.call14 (g_ref05_Print_w hv23) rfl ?_
  obtain ⟨v24, hv24, h⟩ := bI h
  refine pd (rCat hv24) ?_
  obtain ⟨v25, hv25, h⟩ := bI h
  refine pd (rCat hv25) ?_
  refine pn 2 rfl ?_
  obtain ⟨v26, hv26, h⟩ := bI h
  refine qCall Tryz.call14 (g_ref05_Print_w hv26) rfl ?_
  obtain ⟨v27, hv27, h⟩ := bI h
  refine pd (rCat hv27) ?_
  obtain ⟨v28, hv28, h⟩ := bI h
  refine pd (rCat hv28) ?_
  refine pn 2 rfl ?_
  obtain ⟨v29, hv29, h⟩ := bI h
  refine qCall Tryz.call14 (g_ref05_Print_w hv29) rfl ?_
  obtain ⟨v30, hv30, h⟩ := bI h
  refine pd (rCat hv30) ?_
  obtain ⟨v31, hv31, h⟩ := bI h
  refine pd (rCat hv31) ?_
  refine pn 2 rfl ?_
  obtain ⟨v32, hv32, h⟩ := bI h
  refine qCall Tryz.call14 (g_ref05_Print_w hv32) rfl ?_
  obtain ⟨v33, hv33, h⟩ := bI h
  refine pd (rCat hv33) ?_
  obtain ⟨v34, hv34, h⟩ := bI h
  refine pd (rCat hv34) ?_
  refine pn 1 rfl (COpsE.nil (COps.done [2] [] rfl ?_))
  cases h; exact CWp.ret ⟨.inl rfl, rfl, rfl⟩
def g_ref07_Same_k1 : Option Bool :=
  some true
def g_ref07_Same_l2 (a0 : SConfig) (a1 : SConfig) (k290 : Option Bool) : Nat → Int → Option Bool
  | 0, _ => none
  | m2 + 1, x1 =>
    bif decide (x1 < (a0.thresholds.length : Int)) then
      bO (idx a0.thresholds x1) fun v2 =>
      bO (idx a1.thresholds x1) fun v3 =>
      bif !(qSThreshold v2 v3) then
        some false
      else
        (g_ref07_Same_l2 a0 a1 k290 m2) (w64 (x1 + 1))
    else
      k290
def g_ref07_Same (a0 : SConfig) (a1 : SConfig) : Option Bool :=
  bif ((((((!(q3_Int a0.capacity a1.capacity)) || (!(q3_Int a0.allocatable a1.allocatable))) || ((a0.thresholds.length : Int) != (a1.thresholds.length : Int))) || (a0.period != a1.period)) || (a0.retries != a1.retries)) || (a0.maxAge != a1.maxAge)) || (a0.dead != a1.dead) then
    some false
  else
    g_ref07_Same_l2 a0 a1 g_ref07_Same_k1 FUEL 0
theorem g_ref07_Same_w {a0 : SConfig} {a1 : SConfig} {r : Bool} (h : g_ref07_Same a0 a1 = some r) : PCall Tryz.prog 9 [eSConfig a0, eSConfig a1] (zB r) := by
  refine PCall.body Tryz.func9 rfl rfl rfl rfl fun base => ?_
  unfold g_ref07_Same at h
  refine srd 3 rfl [2, 3] [2, 3] rfl (CWp.seq (CWp.seq (CWp.region (rn 4 rfl (rd (rNe (a := a0.capacity) (b := a1.capacity) Eq3_Int) ?_)))))
  refine rn 5 rfl (rdg 11 false [] (fun _ => rNe (a := a0.allocatable) (b := a1.allocatable) Eq3_Int) ?_)
  refine rh 38 [a0.thresholds.length, a1.thresholds.length] [] rfl ⟨List.length_map .., List.length_map .., trivial⟩ (COps.done [2, 3, 54] [2, 3] rfl (CWp.cond h rfl (fun h => ?_) (fun h => ?_)))
  · refine srd 1 rfl [4] [] rfl ?_
    cases h; exact CWp.ret ⟨.inl rfl, rfl, rfl⟩
  refine CWp.skip (CWp.mid (fun e => e = ⟨[], [], [], [], base⟩ ∧ g_ref07_Same_k1 = some r) ?_ ?_)
  · refine srd 1 rfl [2, 3, 5] [2, 3] rfl (CWp.block (CWp.loop (fun m2 e => ∃ x1, e = ⟨[(2, [], .lptr 2 0), (3, [], .lptr 3 0), (5, [], zI x1)], [], [(2, [zI a0.capacity.a, zI a0.capacity.b, zI a0.capacity.c, zI a0.allocatable.a, zI a0.allocatable.b, zI a0.allocatable.c, .list false 35 (a0.thresholds.map eSThreshold), zI a0.period, zI a0.retries, zI a0.maxAge, zI a0.dead]), (3, [zI a1.capacity.a, zI a1.capacity.b, zI a1.capacity.c, zI a1.allocatable.a, zI a1.allocatable.b, zI a1.allocatable.c, .list false 35 (a1.thresholds.map eSThreshold), zI a1.period, zI a1.retries, zI a1.maxAge, zI a1.dead])], [], base⟩ ∧ g_ref07_Same_l2 a0 a1 (g_ref07_Same_k1) m2 x1 = some r) FUEL ⟨_, rfl, h⟩ ?_ ?_))
    · rintro m2 _ ⟨x1, rfl, h⟩
      rw [g_ref07_Same_l2] at h
      refine CWp.seq (CWp.seq (CWp.region (rh 5 [a0.thresholds.length] [] rfl ⟨List.length_map .., trivial⟩ (COps.done [2, 3, 5, 59] [2, 3] rfl (CWp.cond h rfl (fun h => ?_) (fun h => ?_))))))
      · refine CWp.skip (CWp.seq (CWp.block (CWp.seq (CWp.drawn 11 (by kernel_rfl) ?_))))
        obtain ⟨v2, hv2, h⟩ := bI h
        refine pn 3 rfl (pd (rIx hv2) ?_)
        obtain ⟨v3, hv3, h⟩ := bI h
        refine pn 4 rfl (pd (rIx hv3) ?_)
        refine pn 1 rfl (pd (rNe (a := v2) (b := v3) EqSThreshold) ?_)
        refine COpsE.nil (COps.done [2, 3, 5, 72] [2, 3] rfl (CWp.cond h rfl (fun h => ?_) (fun h => ?_)))
        · refine srd 1 rfl [4] [] rfl ?_
          cases h; exact CWp.ret ⟨.inl rfl, rfl, rfl⟩
        refine CWp.skip ?_
        refine CWp.region (rn 3 rfl (COps.done [2, 3, 5] [2, 3] rfl ?_))
        exact ⟨_, rfl, h⟩
      refine CWp.keep [] [] rfl (CWp.exit ?_)
      exact ⟨rfl, h⟩
    rintro _ ⟨_, _, h⟩
    rw [g_ref07_Same_l2] at h; cases h
  rintro _ ⟨rfl, h⟩
  unfold g_ref07_Same_k1 at h
  refine srd 1 rfl [4] [] rfl ?_
  cases h; exact CWp.ret ⟨.inl rfl, rfl, rfl⟩
def g_law07_ConfKeeps_k2 (a0 : SConfig) (v12 : Bool) (_x13 : List SThreshold) : Option Bool :=
  bO (bif v12 then (g_ref07_Right a0) else some default) fun v15 =>
  some (v12 && v15)
def g_law07_ConfKeeps_l3 (k390 : (List SThreshold) → Option Bool) : Nat → (List SThreshold) → Int → Option Bool
  | 0, _, _ => none
  | m3 + 1, x16, x18 =>
    bif decide (x18 < (x16.length : Int)) then
      bO (idx x16 x18) fun _v19 =>
      (g_law07_ConfKeeps_l3 k390 m3) (List.set x16 (Int.toNat x18) (⟨0, 0, 0, false, 0⟩ : SThreshold)) (w64 (x18 + 1))
    else
      k390 x16
def g_law07_ConfKeeps_k4 (_x12 : List SThreshold) : Option Bool :=
  some false
def g_law07_ConfKeeps_l5 (k590 : (List SThreshold) → Option Bool) : Nat → (List SThreshold) → Int → Option Bool
  | 0, _, _ => none
  | m5 + 1, x14, x16 =>
    bif decide (x16 < (x14.length : Int)) then
      bO (idx x14 x16) fun _v17 =>
      (g_law07_ConfKeeps_l5 k590 m5) (List.set x14 (Int.toNat x16) (⟨0, 0, 0, false, 0⟩ : SThreshold)) (w64 (x16 + 1))
    else
      k590 x14
def g_law07_ConfKeeps_k1 (a0 : SConfig) (v8 : SConfig × Int × Int) (x10 : List SThreshold) : Option Bool :=
  bif v8.2.2 == 0 then
    bO (g_ref07_Same a0 (⟨v8.1.capacity, v8.1.allocatable, x10, v8.1.period, v8.1.retries, v8.1.maxAge, v8.1.dead⟩ : SConfig)) fun v12 =>
    g_law07_ConfKeeps_l3 (g_law07_ConfKeeps_k2 a0 v12) FUEL x10 0
  else
    g_law07_ConfKeeps_l5 g_law07_ConfKeeps_k4 FUEL x10 0
def g_law07_ConfKeeps_l6 (v5 : List UInt8) (v8 : SConfig × Int × Int) (k690 : (List SThreshold) → Option Bool) : Nat → Int → Option Bool
  | 0, _ => none
  | m6 + 1, x18 =>
    bif decide (x18 < (v5.length : Int)) then
      bO (idx v5 x18) fun _v19 =>
      (g_law07_ConfKeeps_l6 v5 v8 k690 m6) (w64 (x18 + 1))
    else
      k690 v8.1.thresholds
def g_law07_ConfKeeps (a0 : SConfig) : Option Bool :=
  bO (g_law07_awake) fun v1 =>
  bO (bif (!v1) then some default else (g_law07_few a0)) fun v2 =>
  bO (bif ((!v1) || (!v2)) then some default else (g_ref07_Right a0)) fun v3 =>
  bif ((!v1) || (!v2)) || (!v3) then
    bO (g_law07_awake) fun v4 =>
    some v4
  else
    bO (g_ref07_Print a0) fun v5 =>
    bO (bytesO v5) fun _v6 =>
    bO (g_conf_Read v5) fun v8 =>
    g_law07_ConfKeeps_l6 v5 v8 (g_law07_ConfKeeps_k1 a0 v8) FUEL 0
theorem g_law07_ConfKeeps_w {a0 : SConfig} {r : Bool} (h : g_law07_ConfKeeps a0 = some r) : PCall Tryz.prog 3 [eSConfig a0] (zB r) := by
  refine PCall.body Tryz.func3 rfl rfl rfl rfl fun base => ?_
  unfold g_law07_ConfKeeps at h
  refine srd 2 rfl [1] [1] rfl (CWp.seq (CWp.seq (CWp.region ?_)))
  obtain ⟨v1, hv1, h⟩ := bI h
  refine pCall Tryz.call4 (g_law07_awake_w hv1) rfl ?_
  refine rn 3 rfl ?_
  obtain ⟨v2, hv2, h⟩ := bI h
  refine pCallg 12 false [] Tryz.call5 (fun ht => g_law07_few_w (gdf hv2 (ht.1 _ rfl))) rfl ?_
  refine rn 4 rfl (COps.keepG [1, 17, 18] rfl ?_)
  obtain ⟨v3, hv3, h⟩ := bI h
  refine pCallg 17 false [] Tryz.call6 (fun ht => g_ref07_Right_w (gdf hv3 (ht.1 _ rfl))) rfl ?_
  refine rn 2 rfl (COps.done [1, 21] [1] rfl (CWp.cond h rfl (fun h => ?_) (fun h => ?_)))
  · refine CWp.seq (CWp.region ?_)
    obtain ⟨v4, hv4, h⟩ := bI h
    refine pCall Tryz.call4 (g_law07_awake_w hv4) rfl ?_
    refine rn 1 rfl (COps.done [2] [] rfl ?_)
    cases h; exact CWp.ret ⟨.inl rfl, rfl, rfl⟩
  refine CWp.skip (CWp.seq (CWp.region (rn 1 rfl ?_)))
  obtain ⟨v5, hv5, h⟩ := bI h
  refine pCall Tryz.call7 (g_ref07_Print_w hv5) rfl ?_
  obtain ⟨v6, hv6, h⟩ := bI h
  refine cBytesB (bytesO_ok hv6).1 ?_
  rintro m7 cm7
  refine rn 1 rfl (COps.done [1, 3] [1] rfl (CWp.seq (CWp.region (rn 1 rfl ?_))))
  obtain ⟨v8, hv8, h⟩ := bI h
  refine cCall [0] Tryz.call8 (FCall.lendB (l := v5) (cap := cm7) [] [] (tabS (kk := .int .u8) rfl) (g_conf_Read_w hv8) (lend1 (fun _ => ⟨rfl, rfl, rfl⟩) (fun _ => rfl) (fun _ _ _ _ _ h1 h2 => by simp only [hdM, h1, h2]) (fun _ _ _ => rfl))) rfl rfl ?_
  rintro _ _ ⟨_, ⟨m9, pm9, sm9, rfl, rfl⟩, rfl⟩
  refine cForgetB 1 ?_
  refine rn 8 rfl (COps.done [1, 3, 4, 6] [1, 4] rfl (CWp.mid (fun e => ∃ (m11 : Nat) (pm11 sm11 : Slk 5) (x10 : _), e = ⟨[(1, [], .lptr 1 0), (4, [], .lptr 4 0), (6, [], zI v8.2.2)], [], [(1, [zI a0.capacity.a, zI a0.capacity.b, zI a0.capacity.c, zI a0.allocatable.a, zI a0.allocatable.b, zI a0.allocatable.c, .list false 35 (a0.thresholds.map eSThreshold), zI a0.period, zI a0.retries, zI a0.maxAge, zI a0.dead]), (4, [zI v8.1.capacity.a, zI v8.1.capacity.b, zI v8.1.capacity.c, zI v8.1.allocatable.a, zI v8.1.allocatable.b, zI v8.1.allocatable.c, hdM m11 pm11 x10 sm11, zI v8.1.period, zI v8.1.retries, zI v8.1.maxAge, zI v8.1.dead])], [(m11, lob pm11 eSThreshold x10 sm11), (m7, bytA none v5.length)], base⟩ ∧ g_law07_ConfKeeps_k1 a0 v8 x10 = some r) ?_ ?_))
  · refine srd 1 rfl [1, 3, 4, 6, 7] [1, 4] rfl (CWp.block (CWp.loop (fun m6 e => ∃ x18, e = ⟨[(1, [], .lptr 1 0), (3, [], .gsl m7 0 v5.length cm7), (4, [], .lptr 4 0), (6, [], zI v8.2.2), (7, [], zI x18)], [], [(1, [zI a0.capacity.a, zI a0.capacity.b, zI a0.capacity.c, zI a0.allocatable.a, zI a0.allocatable.b, zI a0.allocatable.c, .list false 35 (a0.thresholds.map eSThreshold), zI a0.period, zI a0.retries, zI a0.maxAge, zI a0.dead]), (4, [zI v8.1.capacity.a, zI v8.1.capacity.b, zI v8.1.capacity.c, zI v8.1.allocatable.a, zI v8.1.allocatable.b, zI v8.1.allocatable.c, hdM m9 pm9 v8.1.thresholds sm9, zI v8.1.period, zI v8.1.retries, zI v8.1.maxAge, zI v8.1.dead])], [(m9, lob pm9 eSThreshold v8.1.thresholds sm9), (m7, bytA none v5.length)], base⟩ ∧ g_law07_ConfKeeps_l6 v5 v8 (g_law07_ConfKeeps_k1 a0 v8) m6 x18 = some r) FUEL ⟨_, rfl, h⟩ ?_ ?_))
    · rintro m6 _ ⟨x18, rfl, h⟩
      rw [g_law07_ConfKeeps_l6] at h
      refine CWp.seq (CWp.seq (CWp.region (rn 2 rfl (rd (rLenM) ?_))))
      refine rn 1 rfl (COps.done [1, 3, 4, 6, 7, 35] [1, 4] rfl (CWp.cond h rfl (fun h => ?_) (fun h => ?_)))
      · refine CWp.skip (CWp.seq (CWp.block ?_))
        refine CWp.region ?_
        obtain ⟨v19, hv19, h⟩ := bI h
        refine rn 2 rfl (rd (rIxM hv19) ?_)
        refine cStB (l := v5) 1 hv19 ?_
        refine COps.done [1, 3, 4, 6, 7] [1, 4] rfl ?_
        refine CWp.region (rn 3 rfl (COps.done [1, 3, 4, 6, 7] [1, 4] rfl ?_))
        exact ⟨_, rfl, h⟩
      refine CWp.keep [1, 4, 6] [1, 4] rfl (CWp.exit ?_)
      exact ⟨_, _, _, _, rfl, h⟩
    rintro _ ⟨_, _, h⟩
    rw [g_law07_ConfKeeps_l6] at h; cases h
  rintro _ ⟨m11, pm11, sm11, x10, rfl, h⟩
  unfold g_law07_ConfKeeps_k1 at h
  refine CWp.seq (CWp.region (rn 3 rfl (COps.caseB 43 h rfl (fun h => ?_) (fun h => ?_))))
  · refine COps.want ?_
    refine rn 1 rfl (COps.want ?_)
    refine rn 1 rfl (COps.want ?_)
    obtain ⟨v12, hv12, h⟩ := bI h
    refine kCall [0] Tryz.call9 (BCall.all (BCall.lendT (f := eSThreshold) (xs := x10) (E := 35) (us := [.agg [zI a0.capacity.a, zI a0.capacity.b, zI a0.capacity.c, zI a0.allocatable.a, zI a0.allocatable.b, zI a0.allocatable.c, .list false 35 (a0.thresholds.map eSThreshold), zI a0.period, zI a0.retries, zI a0.maxAge, zI a0.dead], .agg [zI v8.1.capacity.a, zI v8.1.capacity.b, zI v8.1.capacity.c, zI v8.1.allocatable.a, zI v8.1.allocatable.b, zI v8.1.allocatable.c, hdM m11 pm11 x10 sm11, zI v8.1.period, zI v8.1.retries, zI v8.1.maxAge, zI v8.1.dead]]) (ws := [.agg [zI a0.capacity.a, zI a0.capacity.b, zI a0.capacity.c, zI a0.allocatable.a, zI a0.allocatable.b, zI a0.allocatable.c, .list false 35 (a0.thresholds.map eSThreshold), zI a0.period, zI a0.retries, zI a0.maxAge, zI a0.dead], .agg [zI v8.1.capacity.a, zI v8.1.capacity.b, zI v8.1.capacity.c, zI v8.1.allocatable.a, zI v8.1.allocatable.b, zI v8.1.allocatable.c, .list false 35 (x10.map eSThreshold), zI v8.1.period, zI v8.1.retries, zI v8.1.maxAge, zI v8.1.dead]]) (fun _ => ⟨rfl, rfl, rfl⟩) (tabS (kk := _) rfl) (by decide) ⟨.inl rfl, .inr (.inr ⟨_, _, rfl, rfl, ⟨.inl rfl, .inl rfl, .inl rfl, .inl rfl, .inl rfl, .inl rfl, .inr ⟨rfl, rfl⟩, .inl rfl, .inl rfl, .inl rfl, .inl rfl, trivial⟩⟩), trivial⟩ (g_ref07_Same_w hv12) rfl)) rfl rfl ?_
    refine rd (rPickK) ?_
    refine rn 1 rfl (COps.objs [0] rfl ?_)
    refine COps.done [1, 4, 8] [1, 4] rfl (CWp.mid (fun e => ∃ (m14 : Nat) (pm14 sm14 : Slk 5) (x13 : _), e = ⟨[(1, [], .lptr 1 0), (8, [], zB v12)], [], [(1, [zI a0.capacity.a, zI a0.capacity.b, zI a0.capacity.c, zI a0.allocatable.a, zI a0.allocatable.b, zI a0.allocatable.c, .list false 35 (a0.thresholds.map eSThreshold), zI a0.period, zI a0.retries, zI a0.maxAge, zI a0.dead])], [(m14, lob pm14 eSThreshold x13 sm14)], base⟩ ∧ g_law07_ConfKeeps_k2 a0 v12 x13 = some r) ?_ ?_)
    · refine srd 1 rfl [1, 4, 8, 9] [1, 4] rfl (CWp.block (CWp.loop (fun m3 e => ∃ (m17 : Nat) (pm17 sm17 : Slk 5) (x16 : _) (x18 : _), e = ⟨[(1, [], .lptr 1 0), (4, [], .lptr 4 0), (8, [], zB v12), (9, [], zI x18)], [], [(1, [zI a0.capacity.a, zI a0.capacity.b, zI a0.capacity.c, zI a0.allocatable.a, zI a0.allocatable.b, zI a0.allocatable.c, .list false 35 (a0.thresholds.map eSThreshold), zI a0.period, zI a0.retries, zI a0.maxAge, zI a0.dead]), (4, [zI v8.1.capacity.a, zI v8.1.capacity.b, zI v8.1.capacity.c, zI v8.1.allocatable.a, zI v8.1.allocatable.b, zI v8.1.allocatable.c, hdM m17 pm17 x16 sm17, zI v8.1.period, zI v8.1.retries, zI v8.1.maxAge, zI v8.1.dead])], [(m17, lob pm17 eSThreshold x16 sm17)], base⟩ ∧ g_law07_ConfKeeps_l3 (g_law07_ConfKeeps_k2 a0 v12) m3 x16 x18 = some r) FUEL ⟨_, _, _, _, _, rfl, h⟩ ?_ ?_))
      · rintro m3 _ ⟨m17, pm17, sm17, x16, x18, rfl, h⟩
        rw [g_law07_ConfKeeps_l3] at h
        refine CWp.seq (CWp.seq (CWp.region (rn 3 rfl (rd (rLenM) ?_))))
        refine rn 1 rfl (COps.done [1, 4, 8, 9, 52] [1, 4] rfl (CWp.cond h rfl (fun h => ?_) (fun h => ?_)))
        · refine CWp.skip (CWp.seq (CWp.block ?_))
          refine CWp.region ?_
          obtain ⟨v19, hv19, h⟩ := bI h
          refine rn 4 rfl (rd (rIxM hv19) ?_)
          refine cStM (f := eSThreshold) (off := 0) 0 (fun _ => ⟨rfl, rfl, rfl⟩) hv19 (⟨0, 0, 0, false, 0⟩ : SThreshold) ?_
          refine cRe [56] [(4, 6)] (show hdM m17 pm17 x16 sm17 = hdM m17 pm17 (List.set x16 (Int.toNat x18) (⟨0, 0, 0, false, 0⟩ : SThreshold)) sm17 from hdM_set) ?_ ⟨rfl, trivial⟩ ⟨⟨_, rfl, rfl⟩, trivial⟩
          refine COps.done [1, 4, 8, 9] [1, 4] rfl ?_
          refine CWp.region (rn 3 rfl (COps.done [1, 4, 8, 9] [1, 4] rfl ?_))
          exact ⟨_, _, _, _, _, rfl, h⟩
        refine CWp.keep [1, 8] [1] rfl (CWp.exit ?_)
        exact ⟨_, _, _, _, rfl, h⟩
      rintro _ ⟨_, _, _, _, _, _, h⟩
      rw [g_law07_ConfKeeps_l3] at h; cases h
    rintro _ ⟨m14, pm14, sm14, x13, rfl, h⟩
    unfold g_law07_ConfKeeps_k2 at h
    refine CWp.seq (CWp.region (rn 3 rfl ?_))
    obtain ⟨v15, hv15, h⟩ := bI h
    refine pCallg 61 true [] Tryz.call6 (fun ht => g_ref07_Right_w (gd hv15 (ht.1 _ rfl))) rfl ?_
    refine rn 2 rfl (COps.objs [] rfl ?_)
    refine COps.done [2] [] rfl ?_
    cases h; exact CWp.ret ⟨.inl rfl, rfl, rfl⟩
  refine COps.unwant ?_
  refine COps.unwant ?_
  refine COps.unwant ?_
  refine rd (rPickK) ?_
  refine rn 1 rfl (COps.objs [0] rfl ?_)
  refine COps.done [1, 4, 8] [1, 4] rfl (CWp.mid (fun e => ∃ (m13 : Nat) (pm13 sm13 : Slk 5) (x12 : _), e = ⟨[(1, [], .lptr 1 0), (8, [], zB false)], [], [(1, [zI a0.capacity.a, zI a0.capacity.b, zI a0.capacity.c, zI a0.allocatable.a, zI a0.allocatable.b, zI a0.allocatable.c, .list false 35 (a0.thresholds.map eSThreshold), zI a0.period, zI a0.retries, zI a0.maxAge, zI a0.dead])], [(m13, lob pm13 eSThreshold x12 sm13)], base⟩ ∧ g_law07_ConfKeeps_k4 x12 = some r) ?_ ?_)
  · refine srd 1 rfl [1, 4, 8, 9] [1, 4] rfl (CWp.block (CWp.loop (fun m5 e => ∃ (m15 : Nat) (pm15 sm15 : Slk 5) (x14 : _) (x16 : _), e = ⟨[(1, [], .lptr 1 0), (4, [], .lptr 4 0), (8, [], zB false), (9, [], zI x16)], [], [(1, [zI a0.capacity.a, zI a0.capacity.b, zI a0.capacity.c, zI a0.allocatable.a, zI a0.allocatable.b, zI a0.allocatable.c, .list false 35 (a0.thresholds.map eSThreshold), zI a0.period, zI a0.retries, zI a0.maxAge, zI a0.dead]), (4, [zI v8.1.capacity.a, zI v8.1.capacity.b, zI v8.1.capacity.c, zI v8.1.allocatable.a, zI v8.1.allocatable.b, zI v8.1.allocatable.c, hdM m15 pm15 x14 sm15, zI v8.1.period, zI v8.1.retries, zI v8.1.maxAge, zI v8.1.dead])], [(m15, lob pm15 eSThreshold x14 sm15)], base⟩ ∧ g_law07_ConfKeeps_l5 (g_law07_ConfKeeps_k4) m5 x14 x16 = some r) FUEL ⟨_, _, _, _, _, rfl, h⟩ ?_ ?_))
    · rintro m5 _ ⟨m15, pm15, sm15, x14, x16, rfl, h⟩
      rw [g_law07_ConfKeeps_l5] at h
      refine CWp.seq (CWp.seq (CWp.region (rn 3 rfl (rd (rLenM) ?_))))
      refine rn 1 rfl (COps.done [1, 4, 8, 9, 52] [1, 4] rfl (CWp.cond h rfl (fun h => ?_) (fun h => ?_)))
      · refine CWp.skip (CWp.seq (CWp.block ?_))
        refine CWp.region ?_
        obtain ⟨v17, hv17, h⟩ := bI h
        refine rn 4 rfl (rd (rIxM hv17) ?_)
        refine cStM (f := eSThreshold) (off := 0) 0 (fun _ => ⟨rfl, rfl, rfl⟩) hv17 (⟨0, 0, 0, false, 0⟩ : SThreshold) ?_
        refine cRe [56] [(4, 6)] (show hdM m15 pm15 x14 sm15 = hdM m15 pm15 (List.set x14 (Int.toNat x16) (⟨0, 0, 0, false, 0⟩ : SThreshold)) sm15 from hdM_set) ?_ ⟨rfl, trivial⟩ ⟨⟨_, rfl, rfl⟩, trivial⟩
        refine COps.done [1, 4, 8, 9] [1, 4] rfl ?_
        refine CWp.region (rn 3 rfl (COps.done [1, 4, 8, 9] [1, 4] rfl ?_))
        exact ⟨_, _, _, _, _, rfl, h⟩
      refine CWp.keep [1, 8] [1] rfl (CWp.exit ?_)
      exact ⟨_, _, _, _, rfl, h⟩
    rintro _ ⟨_, _, _, _, _, _, h⟩
    rw [g_law07_ConfKeeps_l5] at h; cases h
  rintro _ ⟨m13, pm13, sm13, x12, rfl, h⟩
  unfold g_law07_ConfKeeps_k4 at h
  refine CWp.seq (CWp.region (rn 2 rfl (COps.unwant ?_)))
  refine COps.unwant ?_
  refine rd (rPickK) ?_
  refine rn 1 rfl (COps.objs [] rfl ?_)
  refine COps.done [2] [] rfl ?_
  cases h; exact CWp.ret ⟨.inl rfl, rfl, rfl⟩
end
section

end
section

end
end Go.Proofs.YtdjojfibjbjpdaaGreatDoor
