/- ScK, LexP, LexP2, ScL1, ScL2, ScL3, ScR1, ScR2, LexP3, LexM, ScR3. -/
import Derived.Test.YtgphopeclplahaaGreatDoorPT1b
import Derived.Test.YtgphopeclplahaaGreatDoorM7
import Derived.Test.YtgphopeclplahaaGreatDoorM2
import Derived.Lib.Split
import Derived.Lib.AtoiAllCases
set_option maxHeartbeats 8000000
set_option maxRecDepth 100000
namespace Go.Proofs.YtgphopeclplahaaGreatDoor
section
open Go.RowKit
theorem u8OK : EncOK zU8 1 := fun _ => ⟨rfl, rfl, rfl⟩
theorem g_lex_Lines_wM {id : Nat} {pl sl : Slk 1} {a0 : List UInt8} {r : (List (List SField)) × Int} (h : g_lex_Lines a0 = some r) : BCall Tryz.prog 42 [hdM id pl a0 sl] id (lob pl zU8 a0 sl) (.tuple [.list true 75 (r.1.map (fun x => .list false 81 (x.map eSField))), zI r.2]) := by
  refine BCall.body Tryz.func42 rfl rfl rfl rfl fun base hb => ?_
  unfold g_lex_Lines at h
  refine CWp.seq ?_
  refine CWp.region ?_
  refine rn 2 rfl ?_
  refine COps.done [0] [] rfl ?_
  refine CWp.scope ?_
  refine CWp.seq ?_
  refine CWp.seq ?_
  refine CWp.region ?_
  refine rn 1 rfl ?_
  obtain ⟨v1, hv1, h⟩ := bI h
  refine bCall Tryz.call72 (BCall.lend u8OK sizeOf_5 (by decide) (g_lex_readable_w hv1)) hb rfl ?_
  refine rn 1 rfl ?_
  refine COps.done [0, 12] [] rfl ?_
  refine CWp.cond h rfl (fun h => ?_) (fun h => ?_)
  · refine CWp.seq ?_
    refine CWp.region ?_
    refine rn 2 rfl ?_
    refine COps.done [2, 3] [] rfl ?_
    refine CWp.ret ?_
    cases h
    exact ⟨.inl rfl, rfl, rfl⟩
  · refine CWp.skip ?_
    refine CWp.seq ?_
    refine CWp.region ?_
    refine rn 1 rfl ?_
    refine COps.done [0, 4] [] rfl ?_
    refine CWp.seq ?_
    refine CWp.label ?_
    refine CWp.mid (fun e => ∃ x2, e = ⟨[(4, [], .list true 75 (x2.map (fun x => .list false 81 (x.map eSField))))], [], [], [], base⟩ ∧ gq1 x2 = some r) ?_ ?_
    · refine CWp.seq ?_
      refine CWp.region ?_
      refine rn 1 rfl ?_
      refine cStrB hb ?_
      obtain ⟨v3, hv3, h⟩ := bI h
      refine pCall Tryz.call73 (splitO_w hv3) rfl ?_
      refine rh 2 [v3.length] [] rfl ⟨List.length_map .., trivial⟩ ?_
      refine COps.done [4, 15, 16, 17] [] rfl ?_
      refine CWp.block ?_
      refine CWp.loop (fun m2 e => ∃ x4 x5, e = ⟨[(4, [], .list true 75 (x5.map (fun x => .list false 81 (x.map eSField)))), (15, [], .list true 9 (v3.map AV.str)), (16, [], zI (v3.length : Int)), (17, [], zI x4)], [], [], [], base⟩ ∧ gq0 v3 (gq1) m2 x4 x5 = some r) FUEL ⟨_, _, rfl, h⟩ ?_ ?_
      · rintro m2 _ ⟨x4, x5, rfl, h⟩
        rw [gq0] at h
        refine CWp.seq ?_
        refine CWp.region ?_
        refine rn 1 rfl ?_
        refine COps.done [4, 15, 16, 17, 18] [] rfl ?_
        refine CWp.seq ?_
        refine CWp.cond h rfl (fun h => ?_) (fun h => ?_)
        · refine CWp.skip ?_
          refine CWp.mid (fun e => ∃ x6, e = ⟨[(4, [], .list true 75 (x6.map (fun x => .list false 81 (x.map eSField)))), (15, [], .list true 9 (v3.map AV.str)), (16, [], zI (v3.length : Int)), (17, [], zI x4)], [], [], [], base⟩ ∧ g_lex_Lines_k3 x4 (gq0 v3 (gq1) m2) x6 = some r) ?_ ?_
          · refine CWp.block ?_
            refine CWp.seq ?_
            refine CWp.region ?_
            obtain ⟨v7, hv7, h⟩ := bI h
            refine rn 1 rfl ?_
            refine rd (rIx hv7) ?_
            refine rn 3 rfl ?_
            refine COps.done [4, 5, 6, 15, 16, 17] [] rfl ?_
            refine CWp.seq ?_
            refine CWp.region ?_
            refine rn 1 rfl ?_
            refine COps.done [4, 5, 6, 7, 15, 16, 17] [] rfl ?_
            refine CWp.mid (fun e => ∃ x8, e = ⟨[(4, [], .list true 75 (x5.map (fun x => .list false 81 (x.map eSField)))), (7, [], .list true 81 (x8.map eSField)), (15, [], .list true 9 (v3.map AV.str)), (16, [], zI (v3.length : Int)), (17, [], zI x4)], [], [], [], base⟩ ∧ g_lex_Lines_k4 x4 x5 (gq0 v3 (gq1) m2) x8 = some r) ?_ ?_
            · refine CWp.seq ?_
              refine CWp.region ?_
              refine rn 1 rfl ?_
              refine COps.done [4, 5, 6, 7, 8, 15, 16, 17] [] rfl ?_
              refine CWp.block ?_
              refine CWp.loop (fun m5 e => ∃ x10 x11, e = ⟨[(4, [], .list true 75 (x5.map (fun x => .list false 81 (x.map eSField)))), (5, [], zI x4), (6, [], .str v7), (7, [], .list true 81 (x10.map eSField)), (8, [], zI x11), (15, [], .list true 9 (v3.map AV.str)), (16, [], zI (v3.length : Int)), (17, [], zI x4)], [], [], [], base⟩ ∧ g_lex_Lines_l5 x4 x5 v7 (g_lex_Lines_k4 x4 x5 (gq0 v3 (gq1) m2)) (g_lex_Lines_k3 x4 (gq0 v3 (gq1) m2)) m5 x10 x11 = some r) FUEL ⟨_, _, rfl, h⟩ ?_ ?_
              · rintro m5 _ ⟨x10, x11, rfl, h⟩
                rw [g_lex_Lines_l5] at h
                refine CWp.seq ?_
                refine CWp.seq ?_
                refine CWp.region ?_
                refine rn 4 rfl ?_
                refine COps.done [4, 5, 6, 7, 8, 15, 16, 17, 25] [] rfl ?_
                refine CWp.cond h rfl (fun h => ?_) (fun h => ?_)
                · refine CWp.skip ?_
                  refine CWp.mid (fun e => ∃ x12 x13, e = ⟨[(4, [], .list true 75 (x5.map (fun x => .list false 81 (x.map eSField)))), (5, [], zI x4), (6, [], .str v7), (7, [], .list true 81 (x12.map eSField)), (8, [], zI x13), (15, [], .list true 9 (v3.map AV.str)), (16, [], zI (v3.length : Int)), (17, [], zI x4)], [], [], [], base⟩ ∧ g_lex_Lines_k6 (g_lex_Lines_l5 x4 x5 v7 (g_lex_Lines_k4 x4 x5 (gq0 v3 (gq1) m2)) (g_lex_Lines_k3 x4 (gq0 v3 (gq1) m2)) m5) x12 x13 = some r) ?_ ?_
                  · refine CWp.block ?_
                    refine CWp.seq ?_
                    refine CWp.seq ?_
                    refine CWp.region ?_
                    obtain ⟨v14, hv14, h⟩ := bI h
                    refine rn 2 rfl ?_
                    refine rd (rBy hv14) ?_
                    obtain ⟨v15, hv15, h⟩ := bI h
                    refine pCall Tryz.call74 (g_lex_blank_w hv15) rfl ?_
                    refine COps.done [4, 5, 6, 7, 8, 15, 16, 17, 31] [] rfl ?_
                    refine CWp.cond h rfl (fun h => ?_) (fun h => ?_)
                    · refine CWp.keep [4, 5, 6, 7, 8, 15, 16, 17] [] rfl ?_
                      refine CWp.exit ?_
                      exact ⟨_, _, rfl, h⟩
                    · refine CWp.skip ?_
                      refine CWp.seq ?_
                      refine CWp.seq ?_
                      refine CWp.region ?_
                      obtain ⟨v16, hv16, h⟩ := bI h
                      refine rn 2 rfl ?_
                      refine rd (rBy hv16) ?_
                      refine rn 1 rfl ?_
                      refine COps.done [4, 5, 6, 7, 8, 15, 16, 17, 35] [] rfl ?_
                      refine CWp.cond h rfl (fun h => ?_) (fun h => ?_)
                      · refine CWp.mid (fun e => ∃ x17, e = ⟨[(4, [], .list true 75 (x17.map (fun x => .list false 81 (x.map eSField)))), (15, [], .list true 9 (v3.map AV.str)), (16, [], zI (v3.length : Int)), (17, [], zI x4)], [], [], [], base⟩ ∧ g_lex_Lines_k7 (g_lex_Lines_k3 x4 (gq0 v3 (gq1) m2)) x17 = some r) ?_ ?_
                        · refine CWp.seq ?_
                          refine CWp.region ?_
                          refine rh 3 [x10.length] [] rfl ⟨List.length_map .., trivial⟩ ?_
                          refine COps.done [4, 7, 15, 16, 17, 38] [] rfl ?_
                          refine CWp.cond h rfl (fun h => ?_) (fun h => ?_)
                          · refine CWp.region ?_
                            obtain ⟨v18, hv18, h⟩ := bI h
                            refine rh 3 [] [39] rfl trivial ?_
                            refine cApp hv18 ?_
                            refine rh 1 [] [4] rfl trivial ?_
                            refine COps.done [4, 15, 16, 17] [] rfl ?_
                            exact ⟨_, rfl, h⟩
                          · refine CWp.keep [4, 15, 16, 17] [] rfl ?_
                            refine CWp.skip ?_
                            exact ⟨_, rfl, h⟩
                        · rintro _ ⟨x17, rfl, h⟩
                          unfold g_lex_Lines_k7 at h
                          refine CWp.exit ?_
                          exact ⟨_, rfl, h⟩
                      · refine CWp.skip ?_
                        refine CWp.seq ?_
                        refine CWp.region ?_
                        refine rn 2 rfl ?_
                        refine COps.done [4, 5, 6, 7, 8, 9, 15, 16, 17] [] rfl ?_
                        refine CWp.mid (fun e => ∃ x19, e = ⟨[(4, [], .list true 75 (x5.map (fun x => .list false 81 (x.map eSField)))), (5, [], zI x4), (6, [], .str v7), (7, [], .list true 81 (x10.map eSField)), (8, [], zI x19), (9, [], zI x11), (15, [], .list true 9 (v3.map AV.str)), (16, [], zI (v3.length : Int)), (17, [], zI x4)], [], [], [], base⟩ ∧ g_lex_Lines_k8 x4 v7 x10 x11 (g_lex_Lines_l5 x4 x5 v7 (g_lex_Lines_k4 x4 x5 (gq0 v3 (gq1) m2)) (g_lex_Lines_k3 x4 (gq0 v3 (gq1) m2)) m5) x19 = some r) ?_ ?_
                        · refine CWp.block ?_
                          refine CWp.loop (fun m9 e => ∃ x22, e = ⟨[(4, [], .list true 75 (x5.map (fun x => .list false 81 (x.map eSField)))), (5, [], zI x4), (6, [], .str v7), (7, [], .list true 81 (x10.map eSField)), (8, [], zI x22), (9, [], zI x11), (15, [], .list true 9 (v3.map AV.str)), (16, [], zI (v3.length : Int)), (17, [], zI x4)], [], [], [], base⟩ ∧ g_lex_Lines_l9 v7 (g_lex_Lines_k8 x4 v7 x10 x11 (g_lex_Lines_l5 x4 x5 v7 (g_lex_Lines_k4 x4 x5 (gq0 v3 (gq1) m2)) (g_lex_Lines_k3 x4 (gq0 v3 (gq1) m2)) m5)) m9 x22 = some r) FUEL ⟨_, rfl, h⟩ ?_ ?_
                          · rintro m9 _ ⟨x22, rfl, h⟩
                            rw [g_lex_Lines_l9] at h
                            refine CWp.seq ?_
                            refine CWp.seq ?_
                            refine CWp.region ?_
                            obtain ⟨v23, hv23, h⟩ := bI h
                            refine rn 7 rfl ?_
                            refine rdg 48 true [] (fun ht => rBy (gd hv23 (ht.1 _ rfl))) ?_
                            obtain ⟨v24, hv24, h⟩ := bI h
                            refine pCallg 48 true [] Tryz.call74 (fun ht => g_lex_blank_w (gd hv24 (ht.1 _ rfl))) rfl ?_
                            refine rn 2 rfl ?_
                            refine COps.done [4, 5, 6, 7, 8, 9, 15, 16, 17, 54] [] rfl ?_
                            refine CWp.cond h rfl (fun h => ?_) (fun h => ?_)
                            · refine CWp.skip ?_
                              refine CWp.block ?_
                              refine CWp.region ?_
                              refine rn 3 rfl ?_
                              refine COps.done [4, 5, 6, 7, 8, 9, 15, 16, 17] [] rfl ?_
                              exact ⟨_, rfl, h⟩
                            · refine CWp.keep [4, 5, 6, 7, 8, 9, 15, 16, 17] [] rfl ?_
                              refine CWp.exit ?_
                              exact ⟨_, rfl, h⟩
                          · rintro _ ⟨_, _, h⟩
                            rw [g_lex_Lines_l9] at h; cases h
                        · rintro _ ⟨x19, rfl, h⟩
                          unfold g_lex_Lines_k8 at h
                          refine CWp.region ?_
                          obtain ⟨v20, hv20, h⟩ := bI h
                          refine rh 4 [] [57] rfl trivial ?_
                          refine rd (rSub hv20) ?_
                          obtain ⟨v21, hv21, h⟩ := bI h
                          refine rn 6 rfl ?_
                          refine cApp hv21 ?_
                          refine rh 1 [] [7] rfl trivial ?_
                          refine COps.done [4, 5, 6, 7, 8, 15, 16, 17] [] rfl ?_
                          exact ⟨_, _, rfl, h⟩
                  · rintro _ ⟨x12, x13, rfl, h⟩
                    unfold g_lex_Lines_k6 at h
                    refine CWp.region ?_
                    refine rn 3 rfl ?_
                    refine COps.done [4, 5, 6, 7, 8, 15, 16, 17] [] rfl ?_
                    exact ⟨_, _, rfl, h⟩
                · refine CWp.keep [4, 7, 15, 16, 17] [] rfl ?_
                  refine CWp.exit ?_
                  exact ⟨_, rfl, h⟩
              · rintro _ ⟨_, _, _, h⟩
                rw [g_lex_Lines_l5] at h; cases h
            · rintro _ ⟨x8, rfl, h⟩
              unfold g_lex_Lines_k4 at h
              refine CWp.seq ?_
              refine CWp.region ?_
              refine rh 3 [x8.length] [] rfl ⟨List.length_map .., trivial⟩ ?_
              refine COps.done [4, 7, 15, 16, 17, 71] [] rfl ?_
              refine CWp.cond h rfl (fun h => ?_) (fun h => ?_)
              · refine CWp.region ?_
                obtain ⟨v9, hv9, h⟩ := bI h
                refine rh 3 [] [72] rfl trivial ?_
                refine cApp hv9 ?_
                refine rh 1 [] [4] rfl trivial ?_
                refine COps.done [4, 15, 16, 17] [] rfl ?_
                exact ⟨_, rfl, h⟩
              · refine CWp.keep [4, 15, 16, 17] [] rfl ?_
                refine CWp.skip ?_
                exact ⟨_, rfl, h⟩
          · rintro _ ⟨x6, rfl, h⟩
            unfold g_lex_Lines_k3 at h
            refine CWp.region ?_
            refine rn 2 rfl ?_
            refine COps.done [4, 15, 16, 17] [] rfl ?_
            exact ⟨_, _, rfl, h⟩
        · refine CWp.keep [4] [] rfl ?_
          refine CWp.exit ?_
          exact ⟨_, rfl, h⟩
      · rintro _ ⟨_, _, _, h⟩
        rw [gq0] at h; cases h
    · rintro _ ⟨x2, rfl, h⟩
      unfold gq1 at h
      refine CWp.seq ?_
      refine CWp.region ?_
      refine rh 3 [] [77, 2] rfl trivial ?_
      refine COps.done [2, 3] [] rfl ?_
      refine CWp.ret ?_
      cases h
      exact ⟨.inl rfl, rfl, rfl⟩
theorem g_script_Read_wM {id : Nat} {pl sl : Slk 1} {a0 : List UInt8} {r : (List SAct) × Int × Int} (h : g_script_Read a0 = some r) : BCall Tryz.prog 20 [hdM id pl a0 sl] id (lob pl zU8 a0 sl) (.tuple [.list true 50 (r.1.map eSAct), zI r.2.1, zI r.2.2]) := by
  refine BCall.body Tryz.func20 rfl rfl rfl rfl fun base hb => ?_
  unfold g_script_Read at h
  refine CWp.seq ?_
  refine CWp.region ?_
  refine rn 3 rfl ?_
  refine COps.done [0] [] rfl ?_
  refine CWp.seq ?_
  refine CWp.region ?_
  refine rn 1 rfl ?_
  obtain ⟨v1, hv1, h⟩ := bI h
  refine bCall Tryz.call42 (g_lex_Lines_wM hv1) hb rfl ?_
  refine rn 5 rfl ?_
  refine COps.done [5, 6] [] rfl ?_
  refine CWp.seq ?_
  refine CWp.seq ?_
  refine CWp.region ?_
  refine rn 2 rfl ?_
  refine COps.done [5, 6, 18] [] rfl ?_
  refine CWp.cond h rfl (fun h => ?_) (fun h => ?_)
  · refine CWp.seq ?_
    refine CWp.region ?_
    refine rn 4 rfl ?_
    refine COps.done [2, 3, 4] [] rfl ?_
    refine CWp.ret ?_
    cases h
    exact ⟨.inl rfl, rfl, rfl⟩
  · refine CWp.skip ?_
    refine CWp.seq ?_
    refine CWp.region ?_
    refine rn 1 rfl ?_
    refine COps.done [5, 7] [] rfl ?_
    refine CWp.mid (fun e => ∃ x2, e = ⟨[(7, [], .list true 50 (x2.map eSAct))], [], [], [], base⟩ ∧ g_script_Read_k1 x2 = some r) ?_ ?_
    · refine CWp.seq ?_
      refine CWp.region ?_
      refine rh 3 [v1.1.length] [] rfl ⟨List.length_map .., trivial⟩ ?_
      refine COps.done [7, 20, 21, 22] [] rfl ?_
      refine CWp.block ?_
      refine CWp.loop (fun m2 e => ∃ x3 x4, e = ⟨[(7, [], .list true 50 (x4.map eSAct)), (20, [], .list false 75 (v1.1.map (fun x => .list false 81 (x.map eSField)))), (21, [], zI (v1.1.length : Int)), (22, [], zI x3)], [], [], [], base⟩ ∧ g_script_Read_l2 v1 (g_script_Read_k1) m2 x3 x4 = some r) FUEL ⟨_, _, rfl, h⟩ ?_ ?_
      · rintro m2 _ ⟨x3, x4, rfl, h⟩
        rw [g_script_Read_l2] at h
        refine CWp.seq ?_
        refine CWp.region ?_
        refine rn 1 rfl ?_
        refine COps.done [7, 20, 21, 22, 23] [] rfl ?_
        refine CWp.seq ?_
        refine CWp.cond h rfl (fun h => ?_) (fun h => ?_)
        · refine CWp.skip ?_
          refine CWp.seq ?_
          refine CWp.block ?_
          refine CWp.seq ?_
          refine CWp.region ?_
          obtain ⟨v5, hv5, h⟩ := bI h
          refine rd (rIx hv5) ?_
          refine rn 2 rfl ?_
          refine COps.done [7, 9, 20, 21, 22] [] rfl ?_
          refine CWp.seq ?_
          refine CWp.region ?_
          refine rn 2 rfl ?_
          refine cBox ?_
          rintro o6 -
          refine rn 1 rfl ?_
          refine COps.done [7, 9, 10, 20, 21, 22] [] rfl ?_
          refine CWp.seq ?_
          refine CWp.region ?_
          refine rn 1 rfl ?_
          obtain ⟨v7, hv7, h⟩ := bI h
          refine cCall [0] Tryz.call43 (g_script_line_act_w hv7) rfl rfl ?_
          rintro _ _ ⟨rfl, rfl⟩
          refine rn 2 rfl ?_
          refine COps.done [7, 9, 10, 11, 20, 21, 22] [11] rfl ?_
          refine CWp.seq ?_
          refine CWp.seq ?_
          refine CWp.region ?_
          refine rh 12 [0, 0, v7.2.l.length] [] rfl ⟨List.length_map .., rfl, rfl, trivial⟩ ?_
          refine COps.objs [] rfl ?_
          refine COps.done [7, 9, 11, 20, 21, 22, 42] [11] rfl ?_
          refine CWp.cond h rfl (fun h => ?_) (fun h => ?_)
          · refine CWp.seq ?_
            refine CWp.drawn 7 (by kernel_rfl) ?_
            obtain ⟨v8, hv8, h⟩ := bI h
            refine pn 1 rfl ?_
            refine pd (rIx hv8) ?_
            refine pn 5 rfl ?_
            refine COpsE.nil ?_
            refine COps.done [2, 3, 4] [] rfl ?_
            refine CWp.ret ?_
            cases h
            exact ⟨.inl rfl, rfl, rfl⟩
          · refine CWp.skip ?_
            refine CWp.region ?_
            obtain ⟨v9, hv9, h⟩ := bI h
            refine rh 3 [] [47] rfl trivial ?_
            refine cApp hv9 ?_
            refine rh 1 [] [7] rfl trivial ?_
            refine COps.done [7, 20, 21, 22] [] rfl ?_
            refine CWp.region ?_
            refine rn 2 rfl ?_
            refine COps.done [7, 20, 21, 22] [] rfl ?_
            exact ⟨_, _, rfl, h⟩
        · refine CWp.keep [7] [] rfl ?_
          refine CWp.exit ?_
          exact ⟨_, rfl, h⟩
      · rintro _ ⟨_, _, _, h⟩
        rw [g_script_Read_l2] at h; cases h
    · rintro _ ⟨x2, rfl, h⟩
      unfold g_script_Read_k1 at h
      refine CWp.seq ?_
      refine CWp.region ?_
      refine rh 4 [] [52, 2] rfl trivial ?_
      refine COps.done [2, 3, 4] [] rfl ?_
      refine CWp.ret ?_
      cases h
      exact ⟨.inl rfl, rfl, rfl⟩

/-- A law's loop: each byte is written. -/
def kpL (k : Option Bool) (n : Nat) : Nat → Int → List UInt8 → Option Bool
  | 0, _, _ => none
  | m + 1, i, xs =>
    bif decide (i < (n : Int)) then
      bO (idx xs i) fun _ =>
      kpL k n m (w64 (i + 1)) (xs.set i.toNat 33)
    else
      k
def kpK (a0 : List UInt8) (v4 : (List SAct) × Int × Int) : Option Bool :=
  bO (g_ref26_Read a0) fun v5 =>
  bif v4.2.2 != 0 then
    some true
  else
    bO (g_script_Print v4.1) fun v6 =>
    bO (g_ref26_Same v4.1 v5.1) fun v7 =>
    some ((v7 && (v6.2 == 0)) && (decide ((v6.1.length : Int) ≥ (v5.1.length : Int))))
def kpG (a0 : List UInt8) : Option Bool :=
  bO (g_law26_awake) fun v1 =>
  bif (!v1) || (decide ((a0.length : Int) > 3000)) then
    bO (g_law26_awake) fun v2 =>
    some v2
  else
    bO (appO ([] : List UInt8) a0) fun v3 =>
    bO (g_script_Read v3) fun v4 =>
    bif !(v3 == a0) then
      some false
    else
      kpL (kpK a0 v4) v3.length FUEL 0 v3
theorem kpG_w {a0 : List UInt8} {r : Bool} (h : kpG a0 = some r) : PCall Tryz.prog 10 [.list false 5 (a0.map zU8)] (zB r) := by
  refine PCall.body Tryz.func10 rfl rfl rfl rfl fun base => ?_
  unfold kpG at h
  refine CWp.seq ?_
  refine CWp.region ?_
  refine rn 1 rfl ?_
  refine COps.done [0] [] rfl ?_
  refine CWp.seq ?_
  refine CWp.seq ?_
  refine CWp.region ?_
  obtain ⟨v1, hv1, h⟩ := bI h
  refine pCall Tryz.call11 (g_law26_awake_w hv1) rfl ?_
  refine rh 6 [a0.length] [] rfl ⟨List.length_map .., trivial⟩ ?_
  refine COps.done [0, 19] [] rfl ?_
  refine CWp.cond h rfl (fun h => ?_) (fun h => ?_)
  · refine CWp.seq ?_
    refine CWp.region ?_
    obtain ⟨v2, hv2, h⟩ := bI h
    refine pCall Tryz.call11 (g_law26_awake_w hv2) rfl ?_
    refine rn 1 rfl ?_
    refine COps.done [2] [] rfl ?_
    refine CWp.ret ?_
    cases h
    exact ⟨.inl rfl, rfl, rfl⟩
  · refine CWp.skip ?_
    refine CWp.seq ?_
    refine CWp.region ?_
    refine cEmptyM ?_
    obtain ⟨v3, hv3, h⟩ := bI h
    refine rn 1 rfl ?_
    refine cAppM u8OK hv3 (fun id sl hid => ?_)
    refine rn 1 rfl ?_
    refine COps.done [0, 3] [] rfl ?_
    refine CWp.seq ?_
    refine CWp.region ?_
    refine rn 1 rfl ?_
    obtain ⟨v4, hv4, h⟩ := bI h
    refine kCall [0] Tryz.call20 (BCall.all (g_script_Read_wM hv4)) rfl rfl ?_
    refine rn 7 rfl ?_
    refine COps.done [0, 3, 4, 6] [] rfl ?_
    refine CWp.seq ?_
    refine CWp.seq ?_
    refine CWp.region ?_
    refine rn 1 rfl ?_
    refine cStrM 0 ?_
    refine rn 1 rfl ?_
    refine rd (rStr (l := a0)) ?_
    refine rn 1 rfl ?_
    refine COps.done [0, 3, 4, 6, 34] [] rfl ?_
    refine CWp.cond h rfl (fun h => ?_) (fun h => ?_)
    · refine CWp.seq ?_
      refine CWp.region ?_
      refine rn 1 rfl ?_
      refine COps.done [2] [] rfl ?_
      refine CWp.ret ?_
      cases h
      exact ⟨.inl rfl, rfl, rfl⟩
    · refine CWp.skip ?_
      refine CWp.mid (fun e => ∃ ob, e = ⟨[(0, [], .list false 5 (a0.map zU8)), (4, [], .list false 50 (v4.1.map eSAct)), (6, [], zI v4.2.2)], [], [], ob, base⟩ ∧ kpK a0 v4 = some r) ?_ ?_
      · refine CWp.seq ?_
        refine CWp.region ?_
        refine rn 1 rfl ?_
        refine COps.done [0, 3, 4, 6, 7] [] rfl ?_
        refine CWp.block ?_
        refine CWp.loop (fun m2 e => ∃ x8 xs, xs.length = v3.length ∧ e = ⟨[(0, [], .list false 5 (a0.map zU8)), (3, [], .gsl id (Slk.nil.n * 1) v3.length (v3.length + sl.n)), (4, [], .list false 50 (v4.1.map eSAct)), (6, [], zI v4.2.2), (7, [], zI x8)], [], [], [(id, lob Slk.nil zU8 xs sl)], base⟩ ∧ kpL (kpK a0 v4) v3.length m2 x8 xs = some r) FUEL ⟨_, _, rfl, rfl, h⟩ ?_ ?_
        · rintro m2 _ ⟨x8, xs, hl, rfl, h⟩
          rw [kpL] at h
          refine CWp.seq ?_
          refine CWp.seq ?_
          refine CWp.region ?_
          refine rn 2 rfl ?_
          refine rd rLenM ?_
          refine rn 1 rfl ?_
          refine COps.done [0, 3, 4, 6, 7, 38] [] rfl ?_
          refine CWp.cond h rfl (fun h => ?_) (fun h => ?_)
          · refine CWp.skip ?_
            refine CWp.seq ?_
            refine CWp.block ?_
            refine CWp.region ?_
            obtain ⟨v9, hv9, h⟩ := bI h
            refine rn 2 rfl ?_
            refine rd (rIxM hv9 (hx := by rw [hl]; rfl)) ?_
            refine cStM (off := 0) 0 u8OK hv9 33 ?_
            refine COps.done [0, 3, 4, 6, 7] [] rfl ?_
            refine CWp.region ?_
            refine rn 3 rfl ?_
            refine COps.done [0, 3, 4, 6, 7] [] rfl ?_
            exact ⟨_, _, by rw [List.length_set]; exact hl, rfl, h⟩
          · refine CWp.keep [0, 4, 6] [] rfl ?_
            refine CWp.exit ?_
            exact ⟨_, rfl, h⟩
        · rintro _ ⟨_, _, _, _, h⟩
          rw [kpL] at h; cases h
      · rintro _ ⟨ob, rfl, h⟩
        unfold kpK at h
        refine CWp.seq ?_
        refine CWp.region ?_
        refine rn 1 rfl ?_
        obtain ⟨v5, hv5, h⟩ := bI h
        refine pCall Tryz.call21 (g_ref26_Read_w hv5) rfl ?_
        refine rn 7 rfl ?_
        refine COps.done [4, 6, 8] [] rfl ?_
        refine CWp.seq ?_
        refine CWp.seq ?_
        refine CWp.region ?_
        refine rn 2 rfl ?_
        refine COps.done [4, 8, 51] [] rfl ?_
        refine CWp.cond h rfl (fun h => ?_) (fun h => ?_)
        · refine CWp.seq ?_
          refine CWp.region ?_
          refine rn 1 rfl ?_
          refine COps.done [2] [] rfl ?_
          refine CWp.ret ?_
          cases h
          exact ⟨.inl rfl, rfl, rfl⟩
        · refine CWp.skip ?_
          refine CWp.seq ?_
          refine CWp.region ?_
          refine rn 1 rfl ?_
          obtain ⟨v6, hv6, h⟩ := bI h
          refine pCall Tryz.call25 (g_script_Print_w hv6) rfl ?_
          refine rn 5 rfl ?_
          refine COps.done [4, 8, 11, 12] [] rfl ?_
          refine CWp.seq ?_
          refine CWp.region ?_
          refine rn 2 rfl ?_
          obtain ⟨v7, hv7, h⟩ := bI h
          refine pCall Tryz.call22 (g_ref26_Same_w hv7) rfl ?_
          refine rh 12 [v5.1.length] [] rfl ⟨List.length_map .., trivial⟩ ?_
          refine COps.done [2] [] rfl ?_
          refine CWp.ret ?_
          cases h
          exact ⟨.inl rfl, rfl, rfl⟩
end
section
def blankB (c : Int) : Bool := bif c == 32 then true else bif c == 9 then true else c == 13
def okB (c : Int) : Bool := blankB c || c == 10 || (decide (32 ≤ c) && decide (c ≤ 126))
def readableB (l : List UInt8) : Bool := (l.all fun b => okB b.toNat) && decide (l.length ≤ 65536)

structure Field where
  text : List UInt8
  line : Nat
  col : Nat
  deriving DecidableEq

/-- The fields of a line's rest: n the line's number, i the place of the rest in the line. -/
def scan (n i : Nat) (s : List UInt8) : List Field :=
  match s with
  | [] => []
  | c :: r =>
    if blankB c.toNat then scan n (i + 1) r
    else if c.toNat = 35 then []
    else ⟨c :: r.takeWhile (fun c => !blankB c.toNat), n, i + 1⟩ :: scan n (i + 1 + (r.takeWhile (fun c => !blankB c.toNat)).length) (r.dropWhile (fun c => !blankB c.toNat))
termination_by s.length
decreasing_by
  all_goals simp_wf
  · have := (List.dropWhile_sublist (l := r) (fun c => !blankB c.toNat)).length_le
    omega

theorem scan_nil (n i : Nat) : scan n i [] = [] := by unfold scan; rfl
theorem scan_blank {n i : Nat} {c : UInt8} {r : List UInt8} (h : blankB c.toNat = true) : scan n i (c :: r) = scan n (i + 1) r := by
  rw [scan]; simp [h]
theorem scan_hash {n i : Nat} {c : UInt8} {r : List UInt8} (h : blankB c.toNat = false) (h2 : c.toNat = 35) : scan n i (c :: r) = [] := by
  rw [scan, if_neg (by rw [h]; simp), if_pos h2]
theorem scan_word {n i : Nat} {c : UInt8} {r : List UInt8} (h : blankB c.toNat = false) (h2 : c.toNat ≠ 35) :
    scan n i (c :: r) = ⟨c :: r.takeWhile (fun c => !blankB c.toNat), n, i + 1⟩ :: scan n (i + 1 + (r.takeWhile (fun c => !blankB c.toNat)).length) (r.dropWhile (fun c => !blankB c.toNat)) := by
  rw [scan]; simp [h, h2]

theorem drop_at {l : List UInt8} {i : Nat} (h : i < l.length) : l.drop i = l.getD i 0 :: l.drop (i + 1) := by
  rw [List.drop_eq_getElem_cons h, List.getD_eq_getElem?_getD, List.getElem?_eq_getElem h]; rfl

theorem takeWhile_to (p : UInt8 → Bool) : ∀ (l : List UInt8) (m : Nat), m ≤ l.length → (∀ j, j < m → p (l.getD j 0) = true) → (m < l.length → p (l.getD m 0) = false) → l.takeWhile p = l.take m ∧ l.dropWhile p = l.drop m
  | [], m, hm, _, _ => by simp at hm; subst hm; simp
  | c :: r, 0, _, _, h => by
    have := h (by simp)
    simp at this
    simp [this]
  | c :: r, m + 1, hm, ha, h => by
    have h0 := ha 0 (by omega)
    simp at h0
    have ih := takeWhile_to p r m (by simpa using hm) (fun j hj => by simpa using ha (j + 1) (by omega)) (fun hlt => by simpa using h (by simpa using hlt))
    simp [h0, ih]

/-- A word from i to j. -/
theorem scan_step {l : List UInt8} {n i j : Nat} (hij : i < j) (hj : j ≤ l.length) (hw : ∀ m, i ≤ m → m < j → blankB ((l.getD m 0).toNat : Int) = false) (h35 : (l.getD i 0).toNat ≠ 35) (he : j < l.length → blankB ((l.getD j 0).toNat : Int) = true) :
    scan n i (l.drop i) = ⟨(l.take j).drop i, n, i + 1⟩ :: scan n j (l.drop j) := by
  have hg : ∀ (a b : Nat), (l.drop a).getD b 0 = l.getD (a + b) 0 := by
    intro a b; rw [List.getD_eq_getElem?_getD, List.getElem?_drop, ← List.getD_eq_getElem?_getD]
  rw [drop_at (by omega : i < l.length), scan_word (hw i (Nat.le_refl _) hij) h35]
  obtain ⟨h1, h2⟩ := takeWhile_to (fun c => !blankB c.toNat) (l.drop (i + 1)) (j - (i + 1)) (by simp; omega) (fun m hm => by
    show (!blankB (((l.drop (i + 1)).getD m 0).toNat : Int)) = true
    rw [hg, hw (i + 1 + m) (by omega) (by omega)]; rfl) (fun hm => by
    simp at hm
    show (!blankB (((l.drop (i + 1)).getD (j - (i + 1)) 0).toNat : Int)) = false
    rw [hg, show i + 1 + (j - (i + 1)) = j by omega, he (by omega)]; rfl)
  rw [h1, h2]
  have e1 : (l.drop (i + 1)).drop (j - (i + 1)) = l.drop j := by rw [List.drop_drop]; congr 1; omega
  have e2 : i + 1 + ((l.drop (i + 1)).take (j - (i + 1))).length = j := by simp; omega
  rw [e1, e2]
  congr 2
  rw [List.drop_take, drop_at (by omega : i < l.length), show j - i = (j - (i + 1)) + 1 by omega, List.take_succ_cons]

theorem scan_skip {l : List UInt8} {n i : Nat} (h : i < l.length → blankB ((l.getD i 0).toNat : Int) = true) : scan n i (l.drop i) = scan n (i + 1) (l.drop (i + 1)) := by
  rcases Nat.lt_or_ge i l.length with hi | hi
  · rw [drop_at hi, scan_blank (h hi)]
  · rw [List.drop_eq_nil_of_le hi, List.drop_eq_nil_of_le (by omega), scan_nil, scan_nil]

theorem scan_end {l : List UInt8} {n i : Nat} (h : l.length ≤ i) : scan n i (l.drop i) = [] := by rw [List.drop_eq_nil_of_le h, scan_nil]
theorem scan_remark {l : List UInt8} {n i : Nat} (hi : i < l.length) (h : blankB ((l.getD i 0).toNat : Int) = false) (h2 : (l.getD i 0).toNat = 35) : scan n i (l.drop i) = [] := by rw [drop_at hi, scan_hash h h2]

/-- The lines that have fields, from the n-th on. -/
def lexFrom (n : Nat) : List (List UInt8) → List (List Field)
  | [] => []
  | s :: r => if (scan n 0 s).length = 0 then lexFrom (n + 1) r else scan n 0 s :: lexFrom (n + 1) r

theorem lexFrom_at {ls : List (List UInt8)} {k n : Nat} {s : List UInt8} (h : ls[k]? = some s) : lexFrom n (ls.drop k) = (if (scan n 0 s).length = 0 then lexFrom (n + 1) (ls.drop (k + 1)) else scan n 0 s :: lexFrom (n + 1) (ls.drop (k + 1))) := by
  obtain ⟨hlt, he⟩ := List.getElem?_eq_some_iff.1 h
  rw [List.drop_eq_getElem_cons hlt, he]
  rfl

theorem readable_len {l : List UInt8} (h : readableB l = true) : l.length ≤ 65536 := by
  simp [readableB] at h; exact h.2
end
section
def errI (l : List UInt8) : Int := if readableB l then 0 else 2
def lexLines (l : List UInt8) : List (List Field) := if readableB l then lexFrom 1 (splitNl l) else []

/-- One line's fields, if there are any. -/
def emit (fl : List Field) : List (List Field) := if fl.length = 0 then [] else [fl]
theorem lexFrom_cons (n : Nat) (s : List UInt8) (r : List (List UInt8)) : lexFrom n (s :: r) = emit (scan n 0 s) ++ lexFrom (n + 1) r := by
  rw [lexFrom, emit]
  split <;> rfl

/-- What the reference still has to do at place i of the text: now the fields of the line so far, its place col. -/
def refRest (l : List UInt8) (i n col : Nat) (remark : Bool) (now : List Field) : List (List Field) :=
  match splitNl (l.drop i) with
  | [] => []
  | s :: r => emit (now ++ (if remark then [] else scan n col s)) ++ lexFrom (n + 1) r

theorem splitNl_ne_nil (l : List UInt8) : splitNl l ≠ [] := by
  intro h
  have := splitNl_len l
  rw [h] at this; simp at this

theorem ref_start (l : List UInt8) : refRest l 0 1 0 false [] = lexFrom 1 (splitNl l) := by
  unfold refRest
  rw [List.drop_zero]
  cases h : splitNl l with
  | nil => exact absurd h (splitNl_ne_nil l)
  | cons s r => simp [lexFrom_cons]

theorem ref_last {l : List UInt8} {i n col : Nat} {rk : Bool} {now : List Field} (h : l.length ≤ i) : refRest l i n col rk now = emit now := by
  unfold refRest
  rw [List.drop_eq_nil_of_le h, splitNl_nil]
  simp [scan_nil, lexFrom]

theorem ref_nl {l : List UInt8} {i n col : Nat} {rk : Bool} {now : List Field} (h : i < l.length) (h10 : (l.getD i 0).toNat = 10) : refRest l i n col rk now = emit now ++ refRest l (i + 1) (n + 1) 0 false [] := by
  unfold refRest
  have hc : l.getD i 0 = 10 := by
    apply UInt8.toNat_inj.1; exact h10
  rw [drop_at h, hc, splitNl_10]
  cases hs : splitNl (l.drop (i + 1)) with
  | nil => exact absurd hs (splitNl_ne_nil _)
  | cons s r => simp [scan_nil, lexFrom_cons]

theorem ref_skip {l : List UInt8} {i n col : Nat} {rk : Bool} {now : List Field} (h : i < l.length) (h10 : ¬ ((l.getD i 0).toNat = 10)) (hb : rk = true ∨ blankB ((l.getD i 0).toNat : Int) = true) : refRest l i n col rk now = refRest l (i + 1) n (col + 1) rk now := by
  unfold refRest
  have hc : l.getD i 0 ≠ 10 := fun e => h10 (by rw [e]; rfl)
  obtain ⟨hd, tl, e1, e2⟩ := splitNl_ne hc (l.drop (i + 1))
  rw [drop_at h, e1, e2]
  rcases hb with rfl | hb
  · simp
  · simp only [scan_blank hb]

theorem ref_hash {l : List UInt8} {i n col : Nat} {now : List Field} (h : i < l.length) (hb : blankB ((l.getD i 0).toNat : Int) = false) (h35 : (l.getD i 0).toNat = 35) : refRest l i n col false now = refRest l i n col true now := by
  unfold refRest
  have hc : l.getD i 0 ≠ 10 := fun e => by rw [e] at h35; cases h35
  obtain ⟨hd, tl, e1, e2⟩ := splitNl_ne hc (l.drop (i + 1))
  rw [drop_at h, e2]
  simp only [scan_hash hb h35, if_true, if_neg (show ¬ (false = true) by simp)]

/-- A word's letters stand in one line. -/
theorem splitNl_word {l : List UInt8} {j : Nat} (hj : j ≤ l.length) : ∀ (d i : Nat), i + d = j → (∀ m, i ≤ m → m < j → (l.getD m 0).toNat ≠ 10) → ∃ s r, splitNl (l.drop j) = s :: r ∧ splitNl (l.drop i) = ((l.take j).drop i ++ s) :: r
  | 0, i, h, _ => by
    have : i = j := by omega
    subst this
    cases hs : splitNl (l.drop i) with
    | nil => exact absurd hs (splitNl_ne_nil _)
    | cons s r => exact ⟨s, r, rfl, by rw [List.drop_take]; simp⟩
  | d + 1, i, h, hw => by
    obtain ⟨s, r, e1, e2⟩ := splitNl_word hj d (i + 1) (by omega) (fun m h1 h2 => hw m (by omega) h2)
    refine ⟨s, r, e1, ?_⟩
    have hlt : i < l.length := by omega
    have hc : l.getD i 0 ≠ 10 := fun e => hw i (Nat.le_refl _) (by omega) (by rw [e]; rfl)
    obtain ⟨hd, tl, f1, f2⟩ := splitNl_ne hc (l.drop (i + 1))
    rw [e2] at f1
    cases f1
    rw [drop_at hlt, f2]
    congr 1
    rw [List.drop_take, List.drop_take, drop_at hlt, show j - i = (j - (i + 1)) + 1 by omega, List.take_succ_cons, List.cons_append]

theorem takeWhile_app (p : UInt8 → Bool) : ∀ (w s : List UInt8), (∀ c ∈ w, p c = true) → (∀ c r, s = c :: r → p c = false) → (w ++ s).takeWhile p = w ∧ (w ++ s).dropWhile p = s
  | [], [], _, _ => by simp
  | [], c :: r, _, h => by simp [h c r rfl]
  | c :: w, s, hw, h => by
    have h0 := hw c (List.mem_cons_self ..)
    have ih := takeWhile_app p w s (fun c hc => hw c (List.mem_cons_of_mem _ hc)) h
    simp [h0, ih]

theorem scan_wordS {n col : Nat} {w s : List UInt8} (hw0 : w ≠ []) (hw : ∀ c ∈ w, blankB (c.toNat : Int) = false) (h35 : ∀ c r, w = c :: r → c.toNat ≠ 35) (hs : ∀ c r, s = c :: r → blankB (c.toNat : Int) = true) :
    scan n col (w ++ s) = ⟨w, n, col + 1⟩ :: scan n (col + w.length) s := by
  cases w with
  | nil => exact absurd rfl hw0
  | cons c w =>
    obtain ⟨h1, h2⟩ := takeWhile_app (fun c => !blankB c.toNat) w s (fun c hc => by show (!blankB (c.toNat : Int)) = true; rw [hw c (List.mem_cons_of_mem _ hc)]; rfl) (fun c r e => by show (!blankB (c.toNat : Int)) = false; rw [hs c r e]; rfl)
    rw [List.cons_append, scan_word (hw c (List.mem_cons_self ..)) (h35 c w rfl), h1, h2]
    congr 2
    simp; omega

theorem take_drop_mem {l : List UInt8} {i j : Nat} {c : UInt8} (h : c ∈ (l.take j).drop i) : ∃ m, i ≤ m ∧ m < j ∧ m < l.length ∧ c = l.getD m 0 := by
  obtain ⟨k, hk, rfl⟩ := List.mem_iff_getElem.1 h
  simp at hk
  refine ⟨i + k, by omega, by omega, by omega, ?_⟩
  rw [List.getD_eq_getElem?_getD, List.getElem?_eq_getElem (by omega)]
  simp

/-- In a text that may be read, what is above a blank is no blank, and no line's end; what isn't is one of both. -/
theorem ok_above {c : Int} (_hok : okB c = true) (h : c > 32) : blankB c = false ∧ c ≠ 10 := by
  unfold blankB
  have h1 : c ≠ 32 := by omega
  have h2 : c ≠ 9 := by omega
  have h3 : c ≠ 13 := by omega
  simp [h1, h2, h3]; omega
theorem ok_below {c : Int} (hok : okB c = true) (h : ¬ (c > 32)) : blankB c = true ∨ c = 10 := by
  unfold okB at hok
  cases hb : blankB c with
  | true => exact .inl rfl
  | false =>
    rw [hb] at hok
    by_cases h10 : c = 10
    · exact .inr h10
    · simp [h10] at hok
      have : c = 32 := by omega
      subst this
      simp [blankB] at hb

theorem readable_at {l : List UInt8} (h : readableB l = true) {j : Nat} (hj : j < l.length) : okB ((l.getD j 0).toNat : Int) = true := by
  simp only [readableB, Bool.and_eq_true] at h
  have := List.all_eq_true.1 h.1 (l.getD j 0) (by rw [List.getD_eq_getElem?_getD, List.getElem?_eq_getElem hj]; exact List.getElem_mem _)
  exact this

theorem ref_word {l : List UInt8} {i j n col : Nat} {now : List Field} (hrd : readableB l = true) (hi : i < l.length) (h10 : ¬ ((l.getD i 0).toNat = 10)) (hb : blankB ((l.getD i 0).toNat : Int) = false) (h35 : ¬ ((l.getD i 0).toNat = 35)) (hij : i ≤ j) (hj : j ≤ l.length)
    (hw : ∀ m, i ≤ m → m < j → ((l.getD m 0).toNat : Int) > 32) (he : (j : Int) < (l.length : Int) → ¬ (((l.getD j 0).toNat : Int) > 32)) :
    refRest l i n col false now = refRest l j n (col + (j - i)) false (now ++ [⟨(l.take j).drop i, n, col + 1⟩]) ∧ i < j := by
  have hlt : i < j := by
    rcases Nat.lt_or_ge i j with h | h
    · exact h
    · have e : i = j := by omega
      subst e
      have := ok_below (readable_at hrd hi) (he (by omega))
      rcases this with h | h
      · rw [hb] at h; cases h
      · exact absurd (by omega) h10
  refine ⟨?_, hlt⟩
  have hab : ∀ m, i ≤ m → m < j → blankB ((l.getD m 0).toNat : Int) = false ∧ ((l.getD m 0).toNat : Int) ≠ 10 := fun m h1 h2 => ok_above (readable_at hrd (by omega)) (hw m h1 h2)
  obtain ⟨s, r, e1, e2⟩ := splitNl_word hj (j - i) i (by omega) (fun m h1 h2 e => (hab m h1 h2).2 (by omega))
  unfold refRest
  rw [e1, e2]
  have hwl : ((l.take j).drop i).length = j - i := by simp; omega
  have hs : ∀ c t, s = c :: t → blankB (c.toNat : Int) = true := by
    intro c t ec
    subst ec
    rcases Nat.lt_or_ge j l.length with hjl | hjl
    · by_cases hc : l.getD j 0 = 10
      · rw [drop_at hjl, hc, splitNl_10] at e1
        cases e1
      · obtain ⟨hd, tl, f1, f2⟩ := splitNl_ne hc (l.drop (j + 1))
        rw [drop_at hjl, f2] at e1
        cases e1
        rcases ok_below (readable_at hrd hjl) (he (by omega)) with h | h
        · exact h
        · exact absurd (UInt8.toNat_inj.1 (show (l.getD j 0).toNat = 10 by omega)) hc
    · rw [List.drop_eq_nil_of_le hjl, splitNl_nil] at e1
      cases e1
  have hsc := scan_wordS (n := n) (col := col) (w := (l.take j).drop i) (s := s) (fun e => by rw [e] at hwl; simp at hwl; omega)
    (fun c hc => by obtain ⟨m, h1, h2, _, rfl⟩ := take_drop_mem hc; exact (hab m h1 h2).1)
    (fun c t ec e => by
      have e0 : (l.take j).drop i = l.getD i 0 :: ((l.take j).drop i).tail := by
        rw [List.drop_take, drop_at hi, show j - i = (j - i - 1) + 1 by omega, List.take_succ_cons]; rfl
      rw [e0] at ec
      cases ec
      exact h35 e) hs
  simp only [Bool.false_eq_true, if_false, hsc, hwl]
  simp

/-- What holds at the reference's loop's head. -/
def RInv (l : List UInt8) (i n bg : Nat) (rk : Bool) (now : List Field) (out : List (List Field)) : Prop :=
  (i ≤ l.length ∧ out ++ refRest l i n (i - bg) rk now = lexFrom 1 (splitNl l)) ∨ (i = l.length + 1 ∧ out = lexFrom 1 (splitNl l))

theorem RInv.start (l : List UInt8) : RInv l 0 1 0 false [] [] := .inl ⟨Nat.zero_le _, by rw [List.nil_append]; exact ref_start l⟩
theorem RInv.done {l : List UInt8} {i n bg : Nat} {rk : Bool} {now : List Field} {out : List (List Field)} (h : RInv l i n bg rk now out) (hi : ¬ (i ≤ l.length)) : out = lexFrom 1 (splitNl l) := by
  rcases h with ⟨h1, _⟩ | ⟨_, h2⟩
  · exact absurd h1 hi
  · exact h2
theorem RInv.nl {l : List UInt8} {i n bg : Nat} {rk : Bool} {now : List Field} {out out' : List (List Field)} (h : RInv l i n bg rk now out) (hi : i ≤ l.length) (hc : i = l.length ∨ (l.getD i 0).toNat = 10) (ho : out ++ emit now = out') : RInv l (i + 1) (n + 1) (i + 1) false [] out' := by
  rcases h with ⟨h1, h2⟩ | ⟨h1, _⟩
  · subst ho
    by_cases e : i = l.length
    · right
      rw [ref_last (by omega)] at h2
      exact ⟨by omega, h2⟩
    · left
      rw [ref_nl (by omega) (hc.resolve_left e)] at h2
      refine ⟨by omega, ?_⟩
      rw [List.append_assoc, Nat.sub_self]
      exact h2
  · omega
theorem RInv.skip {l : List UInt8} {i n bg : Nat} {rk : Bool} {now : List Field} {out : List (List Field)} (h : RInv l i n bg rk now out) (hbg : bg ≤ i) (hi : i ≤ l.length) (hc : i ≠ l.length ∧ (l.getD i 0).toNat ≠ 10) (hb : rk = true ∨ blankB ((l.getD i 0).toNat : Int) = true) : RInv l (i + 1) n bg rk now out := by
  rcases h with ⟨h1, h2⟩ | ⟨h1, _⟩
  · left
    rw [ref_skip (by omega) hc.2 hb] at h2
    exact ⟨by omega, by rw [show i + 1 - bg = i - bg + 1 by omega]; exact h2⟩
  · omega
theorem RInv.hash {l : List UInt8} {i n bg : Nat} {rk : Bool} {now : List Field} {out : List (List Field)} (h : RInv l i n bg rk now out) (hi : i ≤ l.length) (hc : i ≠ l.length ∧ (l.getD i 0).toNat ≠ 10) (hb : rk = false ∧ blankB ((l.getD i 0).toNat : Int) = false) (h35 : (l.getD i 0).toNat = 35) : RInv l i n bg true now out := by
  rcases h with ⟨h1, h2⟩ | ⟨h1, _⟩
  · left
    rw [hb.1, ref_hash (by omega) hb.2 h35] at h2
    exact ⟨h1, h2⟩
  · omega
theorem RInv.word {l : List UInt8} {i j n bg : Nat} {rk : Bool} {now : List Field} {out : List (List Field)} (h : RInv l i n bg rk now out) (hrd : readableB l = true) (hbg : bg ≤ i) (hi : i ≤ l.length) (hc : i ≠ l.length ∧ (l.getD i 0).toNat ≠ 10) (hb : rk = false ∧ blankB ((l.getD i 0).toNat : Int) = false) (h35 : ¬ ((l.getD i 0).toNat = 35))
    (hij : i ≤ j) (hj : j ≤ l.length) (hw : ∀ m, i ≤ m → m < j → decide (((l.getD m 0).toNat : Int) > 32) = true) (he : (j : Int) < (l.length : Int) → decide (((l.getD j 0).toNat : Int) > 32) = false) :
    RInv l j n bg rk (now ++ [Field.mk ((l.take j).drop i) n (i - bg + 1)]) out ∧ i < j := by
  rcases h with ⟨h1, h2⟩ | ⟨h1, _⟩
  · rw [hb.1] at h2 ⊢
    obtain ⟨h3, h4⟩ := ref_word (n := n) (col := i - bg) (now := now) hrd (by omega) hc.2 hb.2 h35 hij hj (fun m h1 h2 => of_decide_eq_true (hw m h1 h2)) (fun h => of_decide_eq_false (he h))
    refine ⟨.inl ⟨hj, ?_⟩, h4⟩
    rw [h3, show i - bg + (j - i) = j - bg by omega] at h2
    exact h2
  · omega
end
section
open Go.RowKit

def toSF (f : Field) : SField := ⟨f.text, f.line, f.col⟩
theorem blank_ok (c : Int) : g_lex_blank c = some (blankB c) := by
  unfold g_lex_blank blankB
  cases c == 32 <;> cases c == 9 <;> rfl
theorem readable_loop (a : List UInt8) : ∀ (r pre : List UInt8) (m : Nat), a = pre ++ r → r.length < m → a.length ≤ lim →
    g_lex_readable_l2 a (g_lex_readable_k1 a) m (pre.length : Int) = some ((r.all fun b => okB b.toNat) && decide (a.length ≤ 65536))
  | _, _, 0, _, h, _ => by omega
  | [], pre, m + 1, he, _, _ => by
    rw [g_lex_readable_l2, he, List.append_nil, dec_f (by omega)]
    unfold g_lex_readable_k1
    rw [cond_false, List.all_nil, Bool.true_and]
    congr 1
    by_cases h : pre.length ≤ 65536
    · rw [dec_t h, dec_t (by omega)]
    · rw [dec_f h, dec_f (by omega)]
  | c :: r, pre, m + 1, he, h, hl => by
    have h1 : (c :: r).length = r.length + 1 := rfl
    have h2 := hl
    rw [he, List.length_append, h1] at h2
    unfold lim at h2
    have ih := readable_loop a r (pre ++ [c]) m (by rw [he]; simp) (by omega) hl
    rw [List.length_append, List.length_singleton] at ih
    have hi : idx a (pre.length : Int) = some c := idx_nat (by rw [he]; exact app_get pre c r)
    rw [g_lex_readable_l2, dec_t (by rw [he, List.length_append, h1]; omega), hi]
    simp only [cond_true, bO_some, blank_ok]
    have e : (((!blankB (c.toNat : Int)) && ((c.toNat : Int) != 10)) && (decide ((c.toNat : Int) < 32) || decide ((c.toNat : Int) > 126))) = !okB (c.toNat : Int) := by
      unfold okB
      have e1 : decide (32 ≤ (c.toNat : Int)) = !decide ((c.toNat : Int) < 32) := by
        by_cases h : (c.toNat : Int) < 32
        · rw [dec_t h, dec_f (by omega)]; rfl
        · rw [dec_f h, dec_t (by omega)]; rfl
      have e2 : decide ((c.toNat : Int) ≤ 126) = !decide ((c.toNat : Int) > 126) := by
        by_cases h : (c.toNat : Int) > 126
        · rw [dec_t h, dec_f (by omega)]; rfl
        · rw [dec_f h, dec_t (by omega)]; rfl
      rw [e1, e2, bne]
      generalize blankB (c.toNat : Int) = p
      generalize ((c.toNat : Int) == 10) = q
      generalize decide ((c.toNat : Int) < 32) = s
      generalize decide ((c.toNat : Int) > 126) = t
      revert p q s t; decide
    rw [e, List.all_cons]
    cases okB (c.toNat : Int) with
    | false => rfl
    | true =>
      rw [Bool.not_true, cond_false, w64_succ (by omega), ih, Bool.true_and]
theorem readable_ok {a : List UInt8} (h : a.length ≤ lim) : g_lex_readable a = some (readableB a) := by
  unfold g_lex_readable readableB
  exact readable_loop a a [] FUEL rfl (by unfold FUEL; unfold lim at h; omega) h
end
section
open Go.RowKit

theorem word_end (v : List UInt8) (k : Int → Option (List (List SField) × Int)) : ∀ (d i m : Nat), i + d = v.length → d < m → v.length ≤ lim →
    ∃ j : Nat, g_lex_Lines_l9 v k m (i : Int) = k (j : Int) ∧ i ≤ j ∧ j ≤ v.length ∧ (∀ x, i ≤ x → x < j → blankB ((v.getD x 0).toNat : Int) = false) ∧ (j < v.length → blankB ((v.getD j 0).toNat : Int) = true)
  | _, _, 0, _, h, _ => by omega
  | 0, i, m + 1, hi, _, _ => by
    refine ⟨i, ?_, by omega, by omega, fun x h1 h2 => by omega, fun h => by omega⟩
    rw [g_lex_Lines_l9, dec_f (by omega)]; rfl
  | d + 1, i, m + 1, hi, hm, hl => by
    have hlt : i < v.length := by omega
    unfold lim at hl
    cases hb : blankB ((v.getD i 0).toNat : Int) with
    | true =>
      refine ⟨i, ?_, by omega, by omega, fun x h1 h2 => by omega, fun _ => hb⟩
      rw [g_lex_Lines_l9, dec_t (by omega), idx_lt 0 hlt]
      simp only [cond_true, bO_some, blank_ok, hb]; rfl
    | false =>
      obtain ⟨j, h1, h2, h3, h4, h5⟩ := word_end v k d (i + 1) m (by omega) (by omega) hl
      refine ⟨j, ?_, by omega, h3, fun x x1 x2 => ?_, h5⟩
      · rw [g_lex_Lines_l9, dec_t (by omega), idx_lt 0 hlt]
        simp only [cond_true, bO_some, blank_ok, hb]
        rw [← h1, w64_succ (by omega)]; rfl
      · by_cases e : x = i
        · rw [e]; exact hb
        · exact h4 x (by omega) x2
def emitS (fl : List SField) : List (List SField) := if fl.length > 0 then [fl] else []
/-- One line. -/
theorem line_loop (n : Nat) (out : List (List SField)) (v : List UInt8) (q : Int → List (List SField) → Option (List (List SField) × Int)) (hn : n < 9000000000000000000) (hv : v.length < lim) (ho : out.length < lim) : ∀ (d i m : Nat) (fl : List SField), v.length ≤ i + d → d < m → i ≤ v.length + 1 → fl.length ≤ i →
    g_lex_Lines_l5 (n : Int) out v (g_lex_Lines_k4 (n : Int) out q) (g_lex_Lines_k3 (n : Int) q) m fl (i : Int) = q ((n + 1 : Nat) : Int) (out ++ emitS (fl ++ (scan (n + 1) i (v.drop i)).map toSF))
  | _, _, 0, _, _, h, _, _ => by omega
  | d, i, m + 1, fl, hd, hm, hi, hf => by
    have hend : ∀ x : List SField, g_lex_Lines_k4 (n : Int) out q x = q ((n + 1 : Nat) : Int) (out ++ emitS x) := by
      intro x
      unfold g_lex_Lines_k4 emitS
      by_cases h : x.length > 0
      · rw [dec_t (by omega), if_pos h, cond_true, appO_eq (by rw [List.length_singleton]; omega)]
        simp only [bO_some]
        unfold g_lex_Lines_k3
        rw [w64_succ (by omega)]
      · rw [dec_f (by omega), if_neg h, cond_false, List.append_nil]
        unfold g_lex_Lines_k3
        rw [w64_succ (by omega)]
    rw [g_lex_Lines_l5]
    by_cases hlt : i < v.length
    · rw [dec_t (by omega), cond_true, idx_lt 0 hlt]
      simp only [bO_some, blank_ok]
      unfold lim at hv
      cases hb : blankB ((v.getD i 0).toNat : Int) with
      | true =>
        rw [cond_true]
        unfold g_lex_Lines_k6
        rw [w64_succ (by omega), line_loop n out v q hn (by unfold lim; exact hv) ho (d - 1) (i + 1) m fl (by omega) (by omega) (by omega) (by omega), ← scan_skip (fun _ => hb)]
      | false =>
        rw [cond_false]
        by_cases h35 : (v.getD i 0).toNat = 35
        · rw [h35, scan_remark hlt hb h35]
          show (bif decide ((fl.length : Int) > 0) then _ else _) = _
          have := hend fl
          unfold g_lex_Lines_k4 at this
          unfold g_lex_Lines_k7
          rw [this, List.map_nil, List.append_nil]
        · rw [show (((v.getD i 0).toNat : Int) == 35) = false from beq_eq_false_iff_ne.2 (by omega), cond_false]
          obtain ⟨j, e1, e2, e3, e4, e5⟩ := word_end v (g_lex_Lines_k8 (n : Int) v fl (i : Int) (g_lex_Lines_l5 (n : Int) out v (g_lex_Lines_k4 (n : Int) out q) (g_lex_Lines_k3 (n : Int) q) m)) (v.length - i) i FUEL (by omega) (by unfold FUEL; omega) (by unfold lim; omega)
          have hij : i < j := by
            rcases Nat.lt_or_ge i j with h | h
            · exact h
            · have : j = i := by omega
              subst this
              rw [e5 hlt] at hb; cases hb
          rw [e1]
          unfold g_lex_Lines_k8
          rw [show slO v (i : Int) (j : Int) = some ((v.take j).drop i) by unfold slO; rw [if_pos ⟨by omega, by omega, by omega⟩, Int.toNat_natCast, Int.toNat_natCast]]
          simp only [bO_some]
          rw [appO_eq (by rw [List.length_singleton]; unfold lim; omega)]
          simp only [bO_some]
          unfold g_lex_Lines_k6
          rw [w64_succ (by omega), w64_succ (by omega), w64_succ (by omega), line_loop n out v q hn (by unfold lim; exact hv) ho (d - 1) (j + 1) m _ (by omega) (by omega) (by omega) (by rw [List.length_append, List.length_singleton]; omega)]
          have hs := scan_step (l := v) (n := n + 1) hij e3 e4 h35 e5
          rw [hs, ← scan_skip (i := j) e5]
          simp [toSF]
    · rw [dec_f (by omega), cond_false, hend, scan_end (by omega), List.map_nil, List.append_nil]
def toLL (l : List (List Field)) : List (List SField) := l.map fun x => x.map toSF
theorem lines_loop (ls : List (List UInt8)) (hb : ∀ (k : Nat) (s : List UInt8), ls[k]? = some s → s.length < lim) (hl : ls.length < lim) : ∀ (d n m : Nat) (out : List (List SField)), n + d = ls.length → d < m → out.length ≤ n →
    gq0 ls gq1 m (n : Int) out = some (out ++ toLL (lexFrom (n + 1) (ls.drop n)), 0)
  | _, _, 0, _, _, h, _ => by omega
  | 0, n, m + 1, out, hn, _, _ => by
    rw [gq0, dec_f (by omega), List.drop_eq_nil_of_le (by omega)]
    unfold gq1
    simp [lexFrom, toLL]
  | d + 1, n, m + 1, out, hn, hm, ho => by
    have hlt : n < ls.length := by omega
    have hs : ls[n]? = some ls[n] := by simp
    generalize ls[n] = s at hs
    have hsl := hb n s hs
    rw [gq0, dec_t (by omega), cond_true, idx_nat hs]
    simp only [bO_some]
    have h0 := line_loop n out s (gq0 ls gq1 m) (by unfold lim at hl; omega) hsl (by unfold lim at hl ⊢; omega) s.length 0 FUEL [] (by omega) (by unfold FUEL; unfold lim at hsl; omega) (by omega) (by simp)
    rw [List.drop_zero, List.nil_append] at h0
    refine (show _ = _ from h0).trans ?_
    rw [lines_loop ls hb hl d (n + 1) m _ (by omega) (by omega) (by
      rw [List.length_append]
      unfold emitS
      split <;> simp <;> omega)]
    rw [lexFrom_at hs]
    unfold emitS
    by_cases he : (scan (n + 1) 0 s).length = 0
    · rw [if_pos he, if_neg (by simp; exact List.eq_nil_of_length_eq_zero he), List.append_nil]
    · rw [if_neg he, if_pos (by rw [List.length_map]; omega)]
      simp [toLL]
theorem lines_ok {a : List UInt8} (h : a.length ≤ lim) : g_lex_Lines a = some (toLL (lexLines a), errI a) := by
  unfold g_lex_Lines lexLines errI
  rw [readable_ok h]
  simp only [bO_some]
  cases hr : readableB a with
  | false => rfl
  | true =>
    have hl := readable_len hr
    rw [Bool.not_true, cond_false, if_pos rfl, if_pos rfl, show splitO a [10] = some (splitNl a) from if_pos (by omega)]
    simp only [bO_some]
    have hsl := splitNl_le a
    have := lines_loop (splitNl a) (fun k s hs => by have := splitNl_mem a k s hs; unfold lim; omega) (by unfold lim; omega) (splitNl a).length 0 FUEL [] (by omega) (by unfold FUEL; omega) (by simp)
    rw [List.nil_append, List.drop_zero] at this
    exact this
end
section
open Go.RowKit

theorem rread_step (c : UInt8) : (((((c.toNat : Int) == 9) || ((c.toNat : Int) == 10)) || ((c.toNat : Int) == 13)) || ((decide ((c.toNat : Int) ≥ 32)) && (decide ((c.toNat : Int) ≤ 126)))) = okB (c.toNat : Int) := by
  unfold okB blankB
  by_cases h : (c.toNat : Int) = 32
  · rw [h]; rfl
  · rw [show ((c.toNat : Int) == 32) = false from beq_eq_false_iff_ne.2 h, cond_false]
    have e1 : decide (32 ≤ (c.toNat : Int)) = decide ((c.toNat : Int) ≥ 32) := rfl
    rw [e1]
    generalize ((c.toNat : Int) == 9) = p
    generalize ((c.toNat : Int) == 10) = q
    generalize ((c.toNat : Int) == 13) = s
    generalize decide ((c.toNat : Int) ≥ 32) = t
    generalize decide ((c.toNat : Int) ≤ 126) = u
    revert p q s t u; decide
theorem rreadable_loop (a : List UInt8) : ∀ (r pre : List UInt8) (m : Nat), a = pre ++ r → r.length < m → a.length ≤ lim →
    g_ref04_Readable_l2 a (g_ref04_Readable_k1 a) m (pre.length : Int) = some ((r.all fun b => okB b.toNat) && decide (a.length ≤ 65536))
  | _, _, 0, _, h, _ => by omega
  | [], pre, m + 1, he, _, _ => by
    rw [g_ref04_Readable_l2, he, List.append_nil, dec_f (by omega)]
    unfold g_ref04_Readable_k1
    rw [cond_false, List.all_nil, Bool.true_and]
    congr 1
    by_cases h : pre.length ≤ 65536
    · rw [dec_t h, dec_t (by omega)]
    · rw [dec_f h, dec_f (by omega)]
  | c :: r, pre, m + 1, he, h, hl => by
    have h1 : (c :: r).length = r.length + 1 := rfl
    have h2 := hl
    rw [he, List.length_append, h1] at h2
    unfold lim at h2
    have ih := rreadable_loop a r (pre ++ [c]) m (by rw [he]; simp) (by omega) hl
    rw [List.length_append, List.length_singleton] at ih
    have hi : idx a (pre.length : Int) = some c := idx_nat (by rw [he]; exact app_get pre c r)
    rw [g_ref04_Readable_l2, dec_t (by rw [he, List.length_append, h1]; omega), hi]
    simp only [cond_true, bO_some]
    rw [rread_step, List.all_cons]
    cases okB (c.toNat : Int) with
    | false => rfl
    | true => rw [Bool.not_true, cond_false, w64_succ (by omega), ih, Bool.true_and]
theorem rreadable_ok {a : List UInt8} (h : a.length ≤ lim) : g_ref04_Readable a = some (readableB a) := by
  unfold g_ref04_Readable readableB
  exact rreadable_loop a a [] FUEL rfl (by unfold FUEL; unfold lim at h; omega) h
theorem nat_beqD (a b : Nat) : ((a : Int) == (b : Int)) = decide (a = b) := by
  by_cases h : a = b
  · subst h; simp
  · rw [beq_eq_false_iff_ne.2 (by omega), dec_f h]
theorem rword_end (v : List UInt8) (k : Int → Option (List (List SField))) : ∀ (d i m : Nat), i + d = v.length → d < m → v.length ≤ lim →
    ∃ j : Nat, g_ref04_Lines_l5 v k m (i : Int) = k (j : Int) ∧ i ≤ j ∧ j ≤ v.length ∧ (∀ x, i ≤ x → x < j → decide (((v.getD x 0).toNat : Int) > 32) = true) ∧ ((j : Int) < (v.length : Int) → decide (((v.getD j 0).toNat : Int) > 32) = false)
  | _, _, 0, _, h, _ => by omega
  | 0, i, m + 1, hi, _, _ => by
    refine ⟨i, ?_, by omega, by omega, fun x h1 h2 => by omega, fun h => by omega⟩
    rw [g_ref04_Lines_l5, dec_f (by omega)]; rfl
  | d + 1, i, m + 1, hi, hm, hl => by
    have hlt : i < v.length := by omega
    unfold lim at hl
    cases hb : decide (((v.getD i 0).toNat : Int) > 32) with
    | false =>
      refine ⟨i, ?_, by omega, by omega, fun x h1 h2 => by omega, fun _ => hb⟩
      rw [g_ref04_Lines_l5, dec_t (by omega), idx_lt 0 hlt]
      simp only [cond_true, bO_some, hb]; rfl
    | true =>
      obtain ⟨j, h1, h2, h3, h4, h5⟩ := rword_end v k d (i + 1) m (by omega) (by omega) hl
      refine ⟨j, ?_, by omega, h3, fun x x1 x2 => ?_, h5⟩
      · rw [g_ref04_Lines_l5, dec_t (by omega), idx_lt 0 hlt]
        simp only [cond_true, bO_some, hb]
        rw [← h1, w64_succ (by omega)]; rfl
      · by_cases e : x = i
        · rw [e]; exact hb
        · exact h4 x (by omega) x2
theorem toLL_emit (out : List (List Field)) (now : List Field) : toLL (out ++ emit now) = toLL out ++ emitS (now.map toSF) := by
  unfold emit emitS toLL
  by_cases h : now.length = 0
  · rw [if_pos h, if_neg (by rw [List.length_map]; omega)]; simp
  · rw [if_neg h, if_pos (by rw [List.length_map]; omega)]; simp
theorem rlines_loop (a : List UInt8) (hrd : readableB a = true) : ∀ (m i n bg : Nat) (rk : Bool) (now : List Field) (out : List (List Field)), RInv a i n bg rk now out → bg ≤ i → i ≤ a.length + 1 → 2 * (a.length + 1 - i) + (if rk then 0 else 1) < m → n ≤ i + 1 → now.length ≤ i → out.length ≤ i →
    g_ref04_Lines_l2 a g_ref04_Lines_k1 m (toLL out) (now.map toSF) (n : Int) (bg : Int) rk (i : Int) = some (toLL (lexFrom 1 (splitNl a)))
  | 0, _, _, _, _, _, _, _, _, _, h, _, _, _ => by omega
  | m + 1, i, n, bg, rk, now, out, hI, hbg, hi, hm, hn, hnow, hout => by
    have hlen := readable_len hrd
    rw [g_ref04_Lines_l2]
    by_cases hle : i ≤ a.length
    · rw [dec_t (by omega), cond_true, nat_beqD i a.length]
      have hnl : ∀ hc : i = a.length ∨ (a.getD i 0).toNat = 10, (bif decide (((now.map toSF).length : Int) > 0) then bO (appO (toLL out) [now.map toSF]) fun v10 => g_ref04_Lines_k3 (n : Int) (i : Int) (g_ref04_Lines_l2 a g_ref04_Lines_k1 m) v10 else g_ref04_Lines_k3 (n : Int) (i : Int) (g_ref04_Lines_l2 a g_ref04_Lines_k1 m) (toLL out)) = some (toLL (lexFrom 1 (splitNl a))) := by
        intro hc
        have h1 := hI.nl hle hc rfl
        have h2 := rlines_loop a hrd m (i + 1) (n + 1) (i + 1) false [] _ h1 (by omega) (by omega) (by
          simp only [Bool.false_eq_true, if_false]
          split at hm <;> omega) (by omega) (by simp) (by
          rw [List.length_append]
          unfold emit
          split <;> simp <;> omega)
        have h3 : ∀ x, x = toLL (out ++ emit now) → g_ref04_Lines_k3 (n : Int) (i : Int) (g_ref04_Lines_l2 a g_ref04_Lines_k1 m) x = some (toLL (lexFrom 1 (splitNl a))) := by
          intro x hx
          unfold g_ref04_Lines_k3
          rw [w64_succ (by omega), w64_succ (by omega), hx]
          exact h2
        by_cases hp : now.length > 0
        · rw [dec_t (by rw [List.length_map]; omega), cond_true, appO_eq (by unfold toLL; rw [List.length_map, List.length_singleton]; unfold lim; omega)]
          exact h3 _ (by rw [toLL_emit]; unfold emitS; rw [if_pos (by rw [List.length_map]; omega)])
        · rw [dec_f (by rw [List.length_map]; omega), cond_false]
          exact h3 _ (by rw [toLL_emit]; unfold emitS; rw [if_neg (by rw [List.length_map]; omega), List.append_nil])
      by_cases he : i = a.length
      · rw [dec_t he]
        simp only [cond_true, bO_some, Bool.true_or]
        exact hnl (.inl he)
      · have hlt : i < a.length := by omega
        rw [dec_f he]
        simp only [cond_false, Bool.false_or]
        rw [idx_lt 0 hlt]
        simp only [bO_some]
        by_cases h10 : (a.getD i 0).toNat = 10
        · rw [h10]
          exact hnl (.inr h10)
        · rw [show (((a.getD i 0).toNat : Int) == 10) = false from beq_eq_false_iff_ne.2 (by omega), cond_false]
          have hskip : ∀ hb : rk = true ∨ blankB ((a.getD i 0).toNat : Int) = true, g_ref04_Lines_l2 a g_ref04_Lines_k1 m (toLL out) (now.map toSF) (n : Int) (bg : Int) rk (w64 ((i : Int) + 1)) = some (toLL (lexFrom 1 (splitNl a))) := by
            intro hb
            rw [w64_succ (by omega)]
            exact rlines_loop a hrd m (i + 1) n bg rk now out (hI.skip hbg hle ⟨he, h10⟩ hb) (by omega) (by omega) (by split at hm <;> simp_all <;> omega) (by omega) (by omega) (by omega)
          cases hrk : rk with
          | true =>
            subst hrk
            simp only [cond_true, bO_some, Bool.true_or]
            exact hskip (.inl rfl)
          | false =>
            subst hrk
            simp only [cond_false, bO_some, Bool.false_or]
            have hbl : blankB ((a.getD i 0).toNat : Int) = ((((a.getD i 0).toNat : Int) == 9) || (((a.getD i 0).toNat : Int) == 13) || (((a.getD i 0).toNat : Int) == 32)) := by
              unfold blankB
              cases ((a.getD i 0).toNat : Int) == 32 <;> cases ((a.getD i 0).toNat : Int) == 9 <;> cases ((a.getD i 0).toNat : Int) == 13 <;> rfl
            cases h9 : ((a.getD i 0).toNat : Int) == 9 with
            | true =>
              simp only [cond_true, bO_some, Bool.true_or]
              exact hskip (.inr (by rw [hbl, h9]; rfl))
            | false =>
              simp only [cond_false, bO_some, Bool.false_or]
              cases h13 : ((a.getD i 0).toNat : Int) == 13 with
              | true =>
                simp only [cond_true, bO_some, Bool.true_or]
                exact hskip (.inr (by rw [hbl, h9, h13]; rfl))
              | false =>
                simp only [cond_false, bO_some, Bool.false_or]
                cases h32 : ((a.getD i 0).toNat : Int) == 32 with
                | true =>
                  simp only [cond_true]
                  exact hskip (.inr (by rw [hbl, h9, h13, h32]; rfl))
                | false =>
                  have hb : blankB ((a.getD i 0).toNat : Int) = false := by rw [hbl, h9, h13, h32]; rfl
                  simp only [cond_false]
                  by_cases h35 : (a.getD i 0).toNat = 35
                  · rw [h35]
                    simp only [if_neg (show ¬ (false = true) by simp)] at hm
                    exact rlines_loop a hrd m i n bg true now out (hI.hash hle ⟨he, h10⟩ ⟨rfl, hb⟩ h35) hbg hi (by simp; omega) hn hnow hout
                  · rw [show (((a.getD i 0).toNat : Int) == 35) = false from beq_eq_false_iff_ne.2 (by omega), cond_false]
                    obtain ⟨j, e1, e2, e3, e4, e5⟩ := rword_end a (g_ref04_Lines_k4 a (toLL out) (now.map toSF) (n : Int) (bg : Int) false (i : Int) (g_ref04_Lines_l2 a g_ref04_Lines_k1 m)) (a.length - i) i FUEL (by omega) (by unfold FUEL; omega) (by unfold lim; omega)
                    obtain ⟨hI2, hij⟩ := hI.word hrd hbg hle ⟨he, h10⟩ ⟨rfl, hb⟩ h35 e2 e3 e4 e5
                    rw [e1]
                    unfold g_ref04_Lines_k4
                    rw [show slO a (i : Int) (j : Int) = some ((a.take j).drop i) by unfold slO; rw [if_pos ⟨by omega, by omega, by omega⟩, Int.toNat_natCast, Int.toNat_natCast]]
                    simp only [bO_some]
                    rw [appO_eq (by rw [List.length_map, List.length_singleton]; unfold lim; omega)]
                    simp only [bO_some]
                    have h3 := rlines_loop a hrd m j n bg false _ out hI2 (by omega) (by omega) (by simp only [Bool.false_eq_true, if_false] at hm ⊢; omega) (by omega) (by rw [List.length_append, List.length_singleton]; omega) (by omega)
                    rw [← h3]
                    congr 1
                    rw [List.map_append]
                    congr 1
                    show [(⟨_, _, _⟩ : SField)] = [⟨_, _, _⟩]
                    congr 2
                    rw [w64_id (x := (i : Int) - (bg : Int)) (by omega) (by omega), w64_id (by omega) (by omega)]
                    show (i : Int) - (bg : Int) + 1 = ((i - bg + 1 : Nat) : Int)
                    omega
    · rw [dec_f (by omega), cond_false]
      unfold g_ref04_Lines_k1
      rw [hI.done hle]
theorem rlines_ok {a : List UInt8} (h : readableB a = true) : g_ref04_Lines a = some (toLL (lexLines a)) := by
  have hl := readable_len h
  unfold g_ref04_Lines lexLines
  rw [if_pos h]
  exact rlines_loop a h FUEL 0 1 0 false [] [] (RInv.start a) (by omega) (by omega) (by unfold FUEL; simp; omega) (by omega) (by simp) (by simp)
end
section
open Go.RowKit

/-! What a text is. -/
def wordB (s : List UInt8) : Bool := (g_script_Word s).getD false
theorem wordB_ok {s : List UInt8} (h : s.length ≤ lim) : g_script_Word s = some (wordB s) ∧ g_ref26_Word s = some (wordB s) := by
  obtain ⟨b, h1, h2⟩ := word_ok h
  unfold wordB
  rw [h1, h2]; exact ⟨rfl, rfl⟩
def qnV (s : List UInt8) : Option Int := (quantV s).map fun n => (n : Int)
def amV (s : List UInt8) : Option Nat := match gq4 s with
  | some (y, true) => some y
  | _ => none
def oneV (y n s : List UInt8) : Option Bool := if s = y then some true else if s = n then some false else none
def wdV (s : List UInt8) : Option (List UInt8) := if wordB s then some s else none

/-! Readers of a line's texts. -/
def fieldR {α : Type} (f : List UInt8 → Option α) : List (List UInt8) → Option (α × List (List UInt8))
  | [] => none
  | t :: r => (f t).map fun a => (a, r)
def threeR {α : Type} (f : List UInt8 → Option α) (ts : List (List UInt8)) : Option (V3 α × List (List UInt8)) :=
  (fieldR f ts).bind fun p => (fieldR f p.2).bind fun q => (fieldR f q.2).bind fun r => some (⟨p.1, q.1, r.1⟩, r.2)
def BB : Nat := 70000
def OKL (l : List SField) : Prop := l.length ≤ BB ∧ ∀ f ∈ l, f.text.length ≤ BB
def txs (l : List SField) : List (List UInt8) := l.map (·.text)
def After {α : Type} (a : α) (x' : Sline) : Option (α × List (List UInt8)) → Prop
  | some (b, ts) => x'.bad = false ∧ txs x'.l = ts ∧ a = b
  | none => x'.bad = true
def Sim {α : Type} (g : Sline → Option (α × Sline)) (R : List (List UInt8) → Option (α × List (List UInt8))) : Prop :=
  ∀ x, OKL x.l → ∃ a x', g x = some (a, x') ∧ OKL x'.l ∧ x'.l.length ≤ x.l.length ∧ (x.bad = true → x'.bad = true) ∧
    (x.bad = false → After a x' (R (txs x.l)))
theorem Sim.bind {α β : Type} {g1 : Sline → Option (α × Sline)} {R1 : List (List UInt8) → Option (α × List (List UInt8))} {g2 : α → Sline → Option (β × Sline)} {R2 : α → List (List UInt8) → Option (β × List (List UInt8))}
    (h1 : Sim g1 R1) (h2 : ∀ a, Sim (g2 a) (R2 a)) : Sim (fun x => bO (g1 x) fun v => g2 v.1 v.2) (fun ts => (R1 ts).bind fun p => R2 p.1 p.2) := by
  intro x hx
  obtain ⟨a, x1, e1, o1, l1, b1, c1⟩ := h1 x hx
  obtain ⟨b, x2, e2, o2, l2, b2, c2⟩ := h2 a x1 o1
  refine ⟨b, x2, ?_, o2, by omega, fun h => b2 (b1 h), fun h => ?_⟩
  · show bO (g1 x) _ = _
    rw [e1]; exact e2
  · have c1 := c1 h
    show After b x2 ((R1 (txs x.l)).bind (fun p => R2 p.1 p.2))
    cases hr : R1 (txs x.l) with
    | none => rw [hr] at c1; exact b2 c1
    | some p =>
      rw [hr] at c1
      obtain ⟨p1, p2⟩ := p
      obtain ⟨d1, d2, d3⟩ := c1
      subst d3
      have c2 := c2 d1
      rw [d2] at c2
      exact c2
theorem Sim.pure {α : Type} (a : α) : Sim (fun x => some (a, x)) (fun ts => some (a, ts)) := by
  intro x hx
  exact ⟨a, x, rfl, hx, Nat.le_refl _, id, fun h => ⟨h, rfl, rfl⟩⟩
theorem Sim.congr {α : Type} {g g' : Sline → Option (α × Sline)} {R R' : List (List UInt8) → Option (α × List (List UInt8))} (h : Sim g R) (hg : ∀ x, g' x = g x) (hR : ∀ ts, R' ts = R ts) : Sim g' R' := by
  intro x hx
  obtain ⟨a, x', h1, h2, h3, h4, h5⟩ := h x hx
  exact ⟨a, x', by rw [hg]; exact h1, h2, h3, h4, fun hb => by rw [hR]; exact h5 hb⟩
def fieldG {α : Type} (k : List UInt8 → Bool → Option (α × Bool)) (x : Sline) : Option (α × Sline) :=
  bO (gq2 x) fun v => bO (k v.1 v.2.bad) fun w => some (w.1, ⟨v.2.l, w.2⟩)
theorem Sim.field {α : Type} {k : List UInt8 → Bool → Option (α × Bool)} {f : List UInt8 → Option α} (hb : ∀ s, s.length ≤ BB → ∃ a, k s true = some (a, true))
    (hg : ∀ s, s.length ≤ BB → ∃ a, k s false = some (a, (f s).isNone) ∧ ∀ b, f s = some b → a = b) : Sim (fieldG k) (fieldR f) := by
  intro x hx
  obtain ⟨l, b⟩ := x
  cases l with
  | nil =>
    obtain ⟨a, ha⟩ := hb [] (by simp)
    refine ⟨a, ⟨[], true⟩, ?_, hx, Nat.le_refl _, fun _ => rfl, fun _ => rfl⟩
    have e : fieldG k ⟨[], b⟩ = bO (k [] true) fun w => some (w.1, ⟨[], w.2⟩) := rfl
    rw [e, ha]; rfl
  | cons fd r =>
    have hl : (fd :: r).length = r.length + 1 := rfl
    have hxl := hx.1
    have ht : gq2 ⟨fd :: r, b⟩ = some (fd.text, ⟨r, b⟩) := by
      unfold gq2
      rw [show (((fd :: r).length : Int) == 0) = false from beq_eq_false_iff_ne.2 (by omega)]
      simp only [cond_false]
      rw [show idx (fd :: r) 0 = some fd from rfl]
      simp only [bO_some]
      have : slO (fd :: r) 1 ((fd :: r).length : Int) = some r := by
        unfold slO
        rw [if_pos ⟨by omega, by omega, by omega⟩, Int.toNat_natCast, List.take_length]; rfl
      rw [this]; rfl
    have hs : fd.text.length ≤ BB := hx.2 fd (List.mem_cons_self ..)
    have hr : OKL r := ⟨by have := hx.1; rw [hl] at this; unfold BB at *; omega, fun f hf => hx.2 f (List.mem_cons_of_mem _ hf)⟩
    unfold fieldG
    rw [ht]
    simp only [bO_some]
    cases b with
    | true =>
      obtain ⟨a, ha⟩ := hb fd.text hs
      rw [ha]
      exact ⟨a, ⟨r, true⟩, rfl, hr, Nat.le_succ _, fun _ => rfl, fun h => by cases h⟩
    | false =>
      obtain ⟨a, ha, hf⟩ := hg fd.text hs
      rw [ha]
      refine ⟨a, ⟨r, (f fd.text).isNone⟩, rfl, hr, Nat.le_succ _, (fun h => by cases h), fun _ => ?_⟩
      show After a _ ((f fd.text).map (fun a => (a, txs r)))
      cases h : f fd.text with
      | none => rfl
      | some c => exact ⟨rfl, rfl, hf c h⟩

theorem word_sim : Sim g_script_line_word (fieldR wdV) := by
  refine (Sim.field (k := fun s b => bO (bif b then some default else (g_script_Word s)) fun v => some (s, b || (!v))) (fun s _ => ⟨s, rfl⟩) (fun s hs => ?_)).congr (fun x => ?_) (fun _ => rfl)
  · refine ⟨s, ?_, fun b hb => ?_⟩
    · rw [cond_false, (wordB_ok (by unfold BB at hs; unfold lim; omega)).1]
      unfold wdV
      cases wordB s <;> rfl
    · unfold wdV at hb
      split at hb
      · cases hb; rfl
      · cases hb
  · unfold g_script_line_word fieldG
    cases gq2 x with
    | none => rfl
    | some v =>
      simp only [bO_some]
      cases (bif v.2.bad then some default else g_script_Word v.1) <;> rfl
theorem quant_sim : Sim g_script_line_quantity (fieldR qnV) := by
  refine (Sim.field (k := fun s b => bO (g_quant_Read s) fun v => some (v.1, b || (v.2 != 0))) (fun s hs => ?_) (fun s hs => ?_)).congr (fun x => ?_) (fun _ => rfl)
  · rw [read_ok (by unfold BB at hs; unfold lim; omega)]
    exact ⟨(qv s : Int), rfl⟩
  · rw [read_ok (by unfold BB at hs; unfold lim; omega)]
    simp only [bO_some, Bool.false_or]
    refine ⟨(qv s : Int), ?_, ?_⟩
    · unfold qnV qe
      cases h : quantV s <;> rfl
    · unfold qnV qv
      cases h : quantV s with
      | none => intro b hb; cases hb
      | some n => intro b hb; cases hb; rfl
  · unfold g_script_line_quantity fieldG
    cases gq2 x with
    | none => rfl
    | some v =>
      simp only [bO_some]
      cases g_quant_Read v.1 <;> rfl
theorem one_sim (y n : List UInt8) : Sim (fun x => g_script_line_one x y n) (fieldR (oneV y n)) := by
  refine (Sim.field (k := fun s b => some (s == y, b || ((!(s == y)) && (!(s == n))))) (fun s hs => ⟨_, rfl⟩) (fun s hs => ?_)).congr (fun x => ?_) (fun _ => rfl)
  · refine ⟨s == y, ?_, ?_⟩
    · unfold oneV
      by_cases h1 : s = y
      · subst h1; simp
      · by_cases h2 : s = n
        · subst h2; simp [h1]
        · simp [h1, h2]
    · unfold oneV
      by_cases h1 : s = y
      · subst h1; simp
      · by_cases h2 : s = n
        · subst h2; simp [h1]
        · simp [h1, h2]
  · unfold g_script_line_one fieldG
    cases gq2 x <;> rfl
theorem atoi_total {s : List UInt8} (hs : s.length ≤ BB) : ∃ z b, atoiO s = some (z, b) ∧ (b = true → Lib.atoiAll s = .ok z) ∧ (b = false → ∀ z, Lib.atoiAll s ≠ .ok z) := by
  unfold atoiO
  rw [if_pos (by unfold BB at hs; omega)]
  cases h : Lib.atoiAll s with
  | ok z => exact ⟨z, true, rfl, fun _ => rfl, fun h => by cases h⟩
  | «syntax» => exact ⟨_, false, rfl, fun h => (by cases h), fun _ z h => by cases h⟩
  | range => exact ⟨_, false, rfl, fun h => (by cases h), fun _ z h => by cases h⟩
theorem whole_sim : Sim g_script_line_whole (fieldR whV) := by
  refine (Sim.field (k := fun s b => bO (atoiO s) fun v2 => bO (bif (b || (!v2.2)) then some default else (itoaO v2.1)) fun v3 => bO (bif ((b || (!v2.2)) || (!(v3 == s))) then some default else (g_script_in v2.1)) fun v4 => some (v2.1, ((b || (!v2.2)) || (!(v3 == s))) || (!v4))) (fun s hs => ?_) (fun s hs => ?_)).congr (fun x => ?_) (fun _ => rfl)
  · obtain ⟨z, b, h1, _, _⟩ := atoi_total hs
    rw [h1]
    exact ⟨z, rfl⟩
  · obtain ⟨z, b, h1, h2, h3⟩ := atoi_total hs
    rw [h1]
    simp only [bO_some, Bool.false_or]
    refine ⟨z, ?_, ?_⟩
    · unfold whV
      cases b with
      | false =>
        have := h3 rfl
        cases h : Lib.atoiAll s with
        | ok z' => exact absurd h (this z')
        | «syntax» => rfl
        | range => rfl
      | true =>
        have h2 := h2 rfl
        have hb := Lib.atoiAll_bounds h2
        rw [h2]
        simp only [Bool.not_true, cond_false, Bool.false_or]
        rw [show itoaO z = some (Lib.itoa z) from if_pos hb]
        simp only [bO_some]
        by_cases he : Lib.itoa z = s
        · rw [he]
          simp only [beq_self_eq_true, Bool.not_true, cond_false, Bool.false_or, true_and]
          unfold g_script_in
          simp only [bO_some]
          by_cases hr : -1099511627776 ≤ z ∧ z ≤ 1099511627776
          · rw [if_pos hr, dec_t (show z ≥ -1099511627776 from hr.1), dec_t hr.2]; rfl
          · rw [if_neg hr]
            by_cases h0 : z ≥ -1099511627776
            · rw [dec_t h0, dec_f (fun h => hr ⟨h0, h⟩)]; rfl
            · rw [dec_f h0]; rfl
        · rw [show (Lib.itoa z == s) = false from beq_eq_false_iff_ne.2 he, if_neg (fun h => he h.1)]; rfl
    · intro n hn
      rw [whV] at hn
      split at hn
      · rename_i m hm
        split at hn
        · cases hn
          cases b with
          | true => have := h2 rfl; rw [hm] at this; cases this; rfl
          | false => exact absurd hm (h3 rfl _)
        · cases hn
      · cases hn
  · unfold g_script_line_whole fieldG
    cases gq2 x with
    | none => rfl
    | some v =>
      simp only [bO_some]
      cases atoiO v.1 with
      | none => rfl
      | some w =>
        simp only [bO_some]
        cases (bif (v.2.bad || !w.2) then some default else itoaO w.1) with
        | none => rfl
        | some u =>
          simp only [bO_some]
          cases (bif ((v.2.bad || !w.2) || !(u == v.1)) then some default else g_script_in w.1) <;> rfl
/-- An amount of a line. -/
def am1 : Sline → Option (Nat × Sline) := fieldG fun s b => bO (gq4 s) fun w => some (w.1, b || !w.2)
theorem am1_sim : Sim am1 (fieldR amV) := by
  refine Sim.field (fun s hs => ?_) (fun s hs => ?_)
  · obtain ⟨y, b, h1, _⟩ := amount_some (s := s) (by unfold BB at hs; unfold lim; omega)
    rw [h1]; exact ⟨y, rfl⟩
  · obtain ⟨y, b, h1, _⟩ := amount_some (s := s) (by unfold BB at hs; unfold lim; omega)
    unfold amV
    rw [h1]
    refine ⟨y, ?_, ?_⟩
    · cases b <;> rfl
    · cases b with
      | true => intro z hz; cases hz; rfl
      | false => intro z hz; cases hz
theorem amounts_eq (x : Sline) : g_script_line_amounts x = bO (am1 x) fun p => bO (am1 p.2) fun q => bO (am1 q.2) fun r => some (⟨p.1, q.1, r.1⟩, r.2) := by
  unfold g_script_line_amounts am1 fieldG g_script_line_amounts_k1
  cases gq2 x with
  | none => rfl
  | some v =>
    simp only [bO_some]
    cases gq4 v.1 with
    | none => rfl
    | some w =>
      simp only [bO_some]
      cases gq2 ⟨v.2.l, v.2.bad || !w.2⟩ with
      | none => rfl
      | some v8 =>
        simp only [bO_some]
        cases gq4 v8.1 with
        | none => rfl
        | some w9 =>
          simp only [bO_some]
          cases gq2 ⟨v8.2.l, v8.2.bad || !w9.2⟩ with
          | none => rfl
          | some v10 =>
            simp only [bO_some]
            cases gq4 v10.1 <;> rfl
theorem three_sim {α : Type} {g : Sline → Option (α × Sline)} {f : List UInt8 → Option α} (h : Sim g (fieldR f)) : Sim (fun x => bO (g x) fun p => bO (g p.2) fun q => bO (g q.2) fun r => some ((⟨p.1, q.1, r.1⟩ : V3 α), r.2)) (threeR f) :=
  (h.bind fun a => h.bind fun b => h.bind fun c => Sim.pure (⟨a, b, c⟩ : V3 α)).congr (fun _ => rfl) (fun _ => rfl)
theorem amounts_sim : Sim g_script_line_amounts (threeR amV) := (three_sim am1_sim).congr amounts_eq (fun _ => rfl)
theorem quants_sim : Sim g_script_line_quantities (threeR qnV) := (three_sim quant_sim).congr (fun _ => rfl) (fun _ => rfl)
def critW : List UInt8 := [99, 114, 105, 116, 105, 99, 97, 108]
def plainW : List UInt8 := [112, 108, 97, 105, 110]
def podR (ts : List (List UInt8)) : Option (SPod × List (List UInt8)) :=
  (fieldR wdV ts).bind fun a => (fieldR wdV a.2).bind fun b => (fieldR qnV b.2).bind fun c => (fieldR whV c.2).bind fun d => (fieldR (oneV critW plainW) d.2).bind fun e => (threeR qnV e.2).bind fun f =>
    if f.2 = [] then some (⟨a.1, d.1, e.1, f.1, ⟨0, 0, 0⟩, b.1, c.1⟩, []) else (threeR qnV f.2).bind fun g => some (⟨a.1, d.1, e.1, f.1, g.1, b.1, c.1⟩, g.2)
/-- Where there may be more. -/
theorem Sim.more {α : Type} {g : Sline → Option (α × Sline)} {R : List (List UInt8) → Option (α × List (List UInt8))} (a : α) (h : Sim g R) : Sim (fun x => bO (g_script_line_more x) fun v => bif v then g x else some (a, x)) (fun ts => if ts = [] then some (a, []) else R ts) := by
  intro x hx
  obtain ⟨l, b⟩ := x
  show ∃ a' x', (bif ((!b) && decide ((l.length : Int) > 0)) then g ⟨l, b⟩ else some (a, ⟨l, b⟩)) = _ ∧ _
  cases b with
  | true => exact ⟨a, _, rfl, hx, Nat.le_refl _, id, fun h => by cases h⟩
  | false =>
    cases l with
    | nil => exact ⟨a, _, rfl, hx, Nat.le_refl _, id, fun _ => ⟨rfl, rfl, rfl⟩⟩
    | cons f r =>
      obtain ⟨a', x', h1, h2, h3, h4, h5⟩ := h ⟨f :: r, false⟩ hx
      rw [dec_t (show ((f :: r).length : Int) > 0 by simp only [List.length_cons]; omega)]
      refine ⟨a', x', h1, h2, h3, h4, fun h => ?_⟩
      have e : (fun ts => if ts = [] then some (a, []) else R ts) (txs (f :: r)) = R (txs (f :: r)) := if_neg (by simp [txs])
      have h5 := h5 h
      rw [← e] at h5
      exact h5
theorem pod_sim : Sim g_script_line_pod podR :=
  (word_sim.bind fun a => word_sim.bind fun b => quant_sim.bind fun c => whole_sim.bind fun d => (one_sim critW plainW).bind fun e => quants_sim.bind fun f =>
    Sim.more (⟨a, d, e, f, ⟨0, 0, 0⟩, b, c⟩ : SPod) (quants_sim.bind fun g => Sim.pure (⟨a, d, e, f, g, b, c⟩ : SPod))).congr (fun _ => rfl) (fun _ => rfl)
/-! Lists of things, to a line's end. -/
def AfterL {α : Type} (us acc : List α) (x' : Sline) : Option (List α) → Prop
  | some u => x'.bad = false ∧ x'.l = [] ∧ us = acc ++ u
  | none => x'.bad = true
theorem many_ok {α β : Type} {g : Sline → Option (α × Sline)} {R1 : List (List UInt8) → Option (α × List (List UInt8))} (h : Sim g R1) (hd : ∀ ts p, R1 ts = some p → p.2.length < ts.length) {S : List (List UInt8) → Option (List α)} (s0 : S [] = some [])
    (s1 : ∀ t r, S (t :: r) = (R1 (t :: r)).bind fun p => (S p.2).map (p.1 :: ·)) {k : List SField → Bool → List α → Option β} {L : Nat → List SField → Bool → List α → Option β}
    (hL : ∀ m l b acc, L (m + 1) l b acc = bO (g_script_line_more ⟨l, b⟩) fun v => bif v then bO (g ⟨l, b⟩) fun p => bO (appO acc [p.1]) fun q => L m p.2.l p.2.bad q else k l b acc) :
    ∀ (m : Nat) (x : Sline) (acc : List α), OKL x.l → 0 < m → (x.bad = false → x.l.length < m) → (x.bad = false → acc.length + x.l.length ≤ BB) →
      ∃ (us : List α) (x' : Sline), L m x.l x.bad acc = k x'.l x'.bad us ∧ (x.bad = true → x'.bad = true) ∧ (x.bad = false → AfterL us acc x' (S (txs x.l)))
  | 0, _, _, _, h0, _, _ => by omega
  | m + 1, ⟨l, b⟩, acc, ho, _, hm, ha => by
    rw [hL]
    show ∃ (us : List α) (x' : Sline), (bif ((!b) && decide ((l.length : Int) > 0)) then _ else _) = _ ∧ _
    cases b with
    | true => exact ⟨acc, ⟨l, true⟩, rfl, id, fun h => by cases h⟩
    | false =>
      cases l with
      | nil =>
        refine ⟨acc, ⟨[], false⟩, rfl, id, fun _ => ?_⟩
        show AfterL _ _ _ (S [])
        rw [s0]
        exact ⟨rfl, rfl, (List.append_nil _).symm⟩
      | cons f r =>
        rw [dec_t (show ((f :: r).length : Int) > 0 by simp only [List.length_cons]; omega)]
        obtain ⟨a, x1, e1, o1, l1, b1, c1⟩ := h ⟨f :: r, false⟩ ho
        have c1 := c1 rfl
        have ha' : acc.length + (r.length + 1) ≤ BB := ha rfl
        have hm' : r.length + 1 < m + 1 := hm rfl
        simp only [Bool.not_false, Bool.and_self, cond_true]
        rw [e1]
        simp only [bO_some]
        rw [appO_eq (show acc.length + [a].length ≤ lim by unfold lim; unfold BB at ha'; rw [List.length_singleton]; omega)]
        simp only [bO_some]
        have hs1 := s1 f.text (txs r)
        have ht : txs (f :: r) = f.text :: txs r := rfl
        have hlt : ∀ p, R1 (txs (f :: r)) = some p → txs x1.l = p.2 → x1.l.length < r.length + 1 := by
          intro p hp e
          have h9 := hd _ _ hp
          rw [← e] at h9
          simpa [txs] using h9
        have hb : x1.bad = false → x1.l.length < r.length + 1 := by
          intro hb
          cases hr : R1 (txs (f :: r)) with
          | none => rw [hr] at c1; have : x1.bad = true := c1; rw [hb] at this; cases this
          | some p =>
            rw [hr] at c1
            exact hlt p hr c1.2.1
        have l1' : x1.l.length ≤ r.length + 1 := l1
        obtain ⟨us, x', e2, b2, c2⟩ := many_ok h hd s0 s1 hL m x1 (acc ++ [a]) o1 (by omega) (fun h => by have := hb h; omega) (fun hx => by
          rw [List.length_append, List.length_singleton]
          have := hb hx; omega)
        refine ⟨us, x', e2, (fun h => by cases h), fun _ => ?_⟩
        show AfterL _ _ _ (S (txs (f :: r)))
        rw [ht, hs1, ← ht]
        cases hr : R1 (txs (f :: r)) with
        | none => rw [hr] at c1; exact b2 c1
        | some p =>
          rw [hr] at c1
          obtain ⟨d1, d2, d3⟩ := c1
          have c2 := c2 d1
          rw [d2] at c2
          show AfterL _ _ _ ((S p.2).map (p.1 :: ·))
          cases hS : S p.2 with
          | none => rw [hS] at c2; exact c2
          | some u =>
            rw [hS] at c2
            exact ⟨c2.1, c2.2.1, by rw [c2.2.2, d3]; simp⟩
def allV {α : Type} (f : List UInt8 → Option α) : List (List UInt8) → Option (List α)
  | [] => some []
  | t :: r => (f t).bind fun a => (allV f r).map (a :: ·)
def usesR : List (List UInt8) → Option (List SUsage)
  | [] => some []
  | w :: a :: b :: c :: r => (wdV w).bind fun w => (amV a).bind fun a => (amV b).bind fun b => (amV c).bind fun c => (usesR r).map (⟨w, a, b, c⟩ :: ·)
  | _ => none
theorem fieldR_dec {α : Type} {f : List UInt8 → Option α} (ts : List (List UInt8)) (p : α × List (List UInt8)) (h : fieldR f ts = some p) : p.2.length < ts.length := by
  cases ts with
  | nil => cases h
  | cons t r =>
    have h : (f t).map (fun a => (a, r)) = some p := h
    cases hf : f t with
    | none => rw [hf] at h; cases h
    | some a => rw [hf] at h; cases h; simp
def useR (ts : List (List UInt8)) : Option (SUsage × List (List UInt8)) := (fieldR wdV ts).bind fun p => (threeR amV p.2).bind fun q => some (⟨p.1, q.1⟩, q.2)
theorem useR_eq (ts : List (List UInt8)) : useR ts = match ts with
    | w :: a :: b :: c :: r => (wdV w).bind fun w => (amV a).bind fun a => (amV b).bind fun b => (amV c).bind fun c => some (⟨w, a, b, c⟩, r)
    | _ => none := by
  unfold useR threeR
  cases ts with
  | nil => rfl
  | cons w r =>
    cases r with
    | nil => cases h : wdV w <;> simp [fieldR, h]
    | cons a r =>
      cases r with
      | nil => cases h : wdV w <;> cases h2 : amV a <;> simp [fieldR, h, h2]
      | cons b r =>
        cases r with
        | nil => cases h : wdV w <;> cases h2 : amV a <;> cases h3 : amV b <;> simp [fieldR, h, h2, h3]
        | cons c r => cases h : wdV w <;> cases h2 : amV a <;> cases h3 : amV b <;> cases h4 : amV c <;> simp [fieldR, h, h2, h3, h4]
theorem use_sim : Sim (fun x => bO (g_script_line_word x) fun v => bO (g_script_line_amounts v.2) fun w => some ((⟨v.1, w.1⟩ : SUsage), w.2)) useR :=
  (word_sim.bind fun a => amounts_sim.bind fun b => Sim.pure (⟨a, b⟩ : SUsage)).congr (fun _ => rfl) (fun _ => rfl)
theorem useR_dec (ts : List (List UInt8)) (p : SUsage × List (List UInt8)) (h : useR ts = some p) : p.2.length < ts.length := by
  rw [useR_eq] at h
  split at h
  · rename_i w a b c r
    cases h1 : wdV w <;> cases h2 : amV a <;> cases h3 : amV b <;> cases h4 : amV c <;> rw [h1, h2, h3, h4] at h <;> simp at h
    subst h
    simp; omega
  · cases h
theorem usesR_step (t : List UInt8) (r : List (List UInt8)) : usesR (t :: r) = (useR (t :: r)).bind fun p => (usesR p.2).map (p.1 :: ·) := by
  rw [useR_eq]
  cases r with
  | nil => rfl
  | cons a r =>
    cases r with
    | nil => rfl
    | cons b r =>
      cases r with
      | nil => rfl
      | cons c r =>
        rw [usesR]
        show _ = Option.bind ((wdV t).bind fun w => (amV a).bind fun a => (amV b).bind fun b => (amV c).bind fun c => some ((⟨w, a, b, c⟩ : SUsage), r)) fun p => (usesR p.2).map (p.1 :: ·)
        cases h : wdV t <;> cases h2 : amV a <;> cases h3 : amV b <;> cases h4 : amV c <;> rfl
/-! A line's act. -/
def pod0 : SPod := ⟨[], 0, false, ⟨0, 0, 0⟩, ⟨0, 0, 0⟩, [], 0⟩
def raw0 : SRaw := ⟨0, ⟨0, 0, 0⟩, []⟩
def aAdmit (p : SPod) : SAct := ⟨1, p, [], raw0, [], 0, []⟩
def aDelete (s : List UInt8) : SAct := ⟨2, pod0, s, raw0, [], 0, []⟩
def aTick : SAct := ⟨3, pod0, [], raw0, [], 0, []⟩
def aSample (r : SRaw) : SAct := ⟨4, pod0, [], r, [], 0, []⟩
def aFeed (w : List Bool) : SAct := ⟨5, pod0, [], raw0, w, 0, []⟩
def aCrash (n : Int) (k : List Int) : SAct := ⟨6, pod0, [], raw0, [], n, k⟩
def admitW : List UInt8 := [97, 100, 109, 105, 116]
def deleteW : List UInt8 := [100, 101, 108, 101, 116, 101]
def tickW : List UInt8 := [116, 105, 99, 107]
def sampleW : List UInt8 := [115, 97, 109, 112, 108, 101]
def feedW : List UInt8 := [102, 101, 101, 100]
def crashW : List UInt8 := [99, 114, 97, 115, 104]
def okW : List UInt8 := [111, 107]
def badW : List UInt8 := [98, 97, 100]
def rawV : List (List UInt8) → Option SRaw
  | n :: a :: b :: c :: us => (whV n).bind fun n => (amV a).bind fun a => (amV b).bind fun b => (amV c).bind fun c => (usesR us).map fun u => ⟨n, ⟨a, b, c⟩, u⟩
  | _ => none
def admV (ts : List (List UInt8)) : Option SAct := match podR ts with
  | some (p, []) => some (aAdmit p)
  | _ => none
def delV : List (List UInt8) → Option SAct
  | [w] => (wdV w).map aDelete
  | _ => none
def craV : List (List UInt8) → Option SAct
  | n :: ks => (whV n).bind fun n => (allV whV ks).map (aCrash n)
  | [] => none
def lineW (t : List UInt8) (ts : List (List UInt8)) : Option SAct :=
  if t = admitW then admV ts else if t = deleteW then delV ts else if t = tickW then (if ts = [] then some aTick else none)
  else if t = sampleW then (rawV ts).map aSample else if t = feedW then (allV (oneV okW badW) ts).map aFeed else if t = crashW then craV ts else none
def lineV : List (List UInt8) → Option SAct
  | [] => none
  | t :: ts => lineW t ts
/-- How a reader ends, of a line. -/
theorem sim_at {α : Type} {g : Sline → Option (α × Sline)} {R : List (List UInt8) → Option (α × List (List UInt8))} (h : Sim g R) (l : List SField) (ho : OKL l) : ∃ (a : α) (x' : Sline), g ⟨l, false⟩ = some (a, x') ∧ OKL x'.l ∧ (x'.bad = false → x'.l.length ≤ l.length) ∧ After a x' (R (txs l)) := by
  obtain ⟨a, x', h1, h2, h3, _, h5⟩ := h ⟨l, false⟩ ho
  exact ⟨a, x', h1, h2, fun _ => h3, h5 rfl⟩
theorem txs_nil {l : List SField} (h : txs l = []) : l = [] := by cases l with | nil => rfl | cons => cases h
def EndsAs (a : SAct) (x : Sline) : Option SAct → Prop
  | some b => x.bad = false ∧ x.l = [] ∧ a = b
  | none => x.bad = true ∨ x.l ≠ []
theorem ends_txs {a b : SAct} {x : Sline} {ts : List (List UInt8)} (h1 : x.bad = false) (h2 : txs x.l = ts) (h3 : a = b) : EndsAs a x (if ts = [] then some b else none) := by
  cases ts with
  | nil => exact ⟨h1, txs_nil h2, h3⟩
  | cons t r => right; intro e; rw [e] at h2; cases h2
theorem act_ok (f : SField) (l : List SField) (ho : OKL (f :: l)) : ∃ a x', g_script_line_act ⟨f :: l, false⟩ = some (a, x') ∧ EndsAs a x' (lineV (txs (f :: l))) := by
  have hl : (f :: l).length = l.length + 1 := rfl
  have ho1 : l.length + 1 ≤ BB := ho.1
  have hol : OKL l := ⟨by omega, fun x hx => ho.2 x (List.mem_cons_of_mem _ hx)⟩
  have ht : gq2 ⟨f :: l, false⟩ = some (f.text, ⟨l, false⟩) := by
    unfold gq2
    rw [show (((f :: l).length : Int) == 0) = false from beq_eq_false_iff_ne.2 (by omega)]
    simp only [cond_false]
    rw [show idx (f :: l) 0 = some f from rfl]
    simp only [bO_some]
    have : slO (f :: l) 1 ((f :: l).length : Int) = some l := by
      unfold slO
      rw [if_pos ⟨by omega, by omega, by omega⟩, Int.toNat_natCast, List.take_length]; rfl
    rw [this]; rfl
  unfold g_script_line_act
  rw [ht]
  simp only [bO_some]
  show ∃ a x', _ ∧ EndsAs a x' (lineW f.text (txs l))
  unfold lineW
  by_cases h1 : f.text = admitW
  · rw [if_pos h1, show (f.text == [97, 100, 109, 105, 116]) = true from beq_iff_eq.2 h1]
    obtain ⟨p, x', e1, o1, l1, c1⟩ := sim_at pod_sim l hol
    simp only [cond_true]
    rw [e1]
    simp only [bO_some]
    refine ⟨_, _, rfl, ?_⟩
    unfold admV
    cases hr : podR (txs l) with
    | none => rw [hr] at c1; exact .inl c1
    | some q =>
      rw [hr] at c1
      obtain ⟨q1, q2⟩ := q
      have := ends_txs (a := aAdmit p) (b := aAdmit q1) c1.1 c1.2.1 (by rw [c1.2.2])
      cases q2 <;> exact this
  · rw [if_neg h1, show (f.text == [97, 100, 109, 105, 116]) = false from beq_eq_false_iff_ne.2 h1]
    simp only [cond_false]
    by_cases h2 : f.text = deleteW
    · rw [if_pos h2, show (f.text == [100, 101, 108, 101, 116, 101]) = true from beq_iff_eq.2 h2]
      obtain ⟨p, x', e1, o1, l1, c1⟩ := sim_at word_sim l hol
      simp only [cond_true]
      rw [e1]
      simp only [bO_some]
      refine ⟨_, _, rfl, ?_⟩
      cases hr : txs l with
      | nil => rw [hr] at c1; exact .inl c1
      | cons w r =>
        rw [hr] at c1
        have c1 : After p x' ((wdV w).map (fun a => (a, r))) := c1
        cases hw : wdV w with
        | none =>
          rw [hw] at c1
          have : EndsAs (aDelete p) ⟨x'.l, x'.bad⟩ none := .inl c1
          cases r with
          | nil => simp only [delV, hw]; exact this
          | cons => exact this
        | some v =>
          rw [hw] at c1
          have := ends_txs (a := aDelete p) (b := aDelete v) (x := ⟨x'.l, x'.bad⟩) c1.1 c1.2.1 (by rw [c1.2.2])
          cases r with
          | nil => simp only [delV, hw]; exact this
          | cons => exact this
    · rw [if_neg h2, show (f.text == [100, 101, 108, 101, 116, 101]) = false from beq_eq_false_iff_ne.2 h2]
      simp only [cond_false]
      by_cases h3 : f.text = tickW
      · rw [if_pos h3, show (f.text == [116, 105, 99, 107]) = true from beq_iff_eq.2 h3]
        refine ⟨aTick, ⟨l, false⟩, rfl, ?_⟩
        exact ends_txs (a := aTick) (b := aTick) (x := ⟨l, false⟩) (ts := txs l) rfl rfl rfl
      · rw [if_neg h3, show (f.text == [116, 105, 99, 107]) = false from beq_eq_false_iff_ne.2 h3]
        simp only [cond_false]
        by_cases h4 : f.text = sampleW
        · rw [if_pos h4, show (f.text == [115, 97, 109, 112, 108, 101]) = true from beq_iff_eq.2 h4]
          obtain ⟨n, x1, e1, o1, l1, c1⟩ := sim_at whole_sim l hol
          simp only [cond_true]
          rw [e1]
          simp only [bO_some]
          obtain ⟨am, x2, e2, o2, l2, b2, c2⟩ := amounts_sim x1 o1
          rw [e2]
          simp only [bO_some]
          have hlen : x2.bad = false → x2.l.length ≤ l.length := fun h => by
            cases hx : x1.bad with
            | true => rw [b2 hx] at h; cases h
            | false => have := l1 hx; omega
          obtain ⟨us, x3, e3, b3, c3⟩ := many_ok use_sim useR_dec (S := usesR) rfl usesR_step (k := fun l b acc => gq5 l b 4 [] 0 false 0 0 0 0 0 0 [] 0 [] n am.a am.b am.c acc [] 0 []) (L := g_script_line_act_l2 (n, x1) (am, x2) gq5) (fun m l b acc => by
            rw [g_script_line_act_l2]
            cases g_script_line_more ⟨l, b⟩ with
            | none => rfl
            | some v =>
              cases v with
              | false => rfl
              | true =>
                simp only [bO_some, cond_true]
                cases g_script_line_word ⟨l, b⟩ with
                | none => rfl
                | some w =>
                  simp only [bO_some]
                  cases g_script_line_amounts w.2 with
                  | none => rfl
                  | some u => rfl) FUEL x2 [] o2 (by unfold FUEL; omega) (fun h => by have := hlen h; unfold FUEL; unfold BB at ho1; omega) (fun h => by have := hlen h; simp; omega)
          rw [e3]
          refine ⟨_, _, rfl, ?_⟩
          unfold rawV
          cases hr : txs l with
          | nil => rw [hr] at c1; exact .inl (b3 (b2 c1))
          | cons t r =>
            rw [hr] at c1
            have c1 : After n x1 ((whV t).map (fun a => (a, r))) := c1
            cases hw : whV t with
            | none =>
              rw [hw] at c1
              cases r with
              | nil => exact .inl (b3 (b2 c1))
              | cons _ r => cases r with
                | nil => exact .inl (b3 (b2 c1))
                | cons _ r => cases r with
                  | nil => exact .inl (b3 (b2 c1))
                  | cons _ r => simp only [hw, Option.bind_none, Option.map_none]; exact .inl (b3 (b2 c1))
            | some k =>
              rw [hw] at c1
              obtain ⟨d1, d2, d3⟩ := c1
              have c2 := c2 d1
              rw [d2] at c2
              cases r with
              | nil => exact .inl (b3 c2)
              | cons a r =>
                cases r with
                | nil => cases h5 : amV a <;> simp [After, threeR, fieldR, h5] at c2 <;> exact .inl (b3 c2)
                | cons b r =>
                  cases r with
                  | nil => cases h5 : amV a <;> cases h6 : amV b <;> simp [After, threeR, fieldR, h5, h6] at c2 <;> exact .inl (b3 c2)
                  | cons c us' =>
                    cases h5 : amV a with
                    | none => simp [After, threeR, fieldR, h5] at c2; simp [hw, h5]; exact .inl (b3 c2)
                    | some va =>
                      cases h6 : amV b with
                      | none => simp [After, threeR, fieldR, h5, h6] at c2; simp [hw, h5, h6]; exact .inl (b3 c2)
                      | some vb =>
                        cases h7 : amV c with
                        | none => simp [After, threeR, fieldR, h5, h6, h7] at c2; simp [hw, h5, h6, h7]; exact .inl (b3 c2)
                        | some vc =>
                          simp [After, threeR, fieldR, h5, h6, h7] at c2
                          have c3 := c3 c2.1
                          rw [c2.2.1] at c3
                          simp only [hw, h5, h6, h7, Option.bind_some]
                          cases hu : usesR us' with
                          | none => rw [hu] at c3; exact .inl c3
                          | some u =>
                            rw [hu] at c3
                            refine ⟨c3.1, c3.2.1, ?_⟩
                            rw [c3.2.2, d3, c2.2.2]; rfl
        · rw [if_neg h4, show (f.text == [115, 97, 109, 112, 108, 101]) = false from beq_eq_false_iff_ne.2 h4]
          simp only [cond_false]
          by_cases h5 : f.text = feedW
          · rw [if_pos h5, show (f.text == [102, 101, 101, 100]) = true from beq_iff_eq.2 h5]
            simp only [cond_true]
            obtain ⟨us, x3, e3, b3, c3⟩ := many_ok (one_sim okW badW) fieldR_dec (S := allV (oneV okW badW)) rfl (fun t r => by
              show _ = ((oneV okW badW t).map _).bind _
              rw [allV]; cases oneV okW badW t <;> rfl) (k := fun l b acc => gq5 l b 5 [] 0 false 0 0 0 0 0 0 [] 0 [] 0 0 0 0 [] acc 0 []) (L := g_script_line_act_l3 gq5) (fun m l b acc => rfl) FUEL ⟨l, false⟩ [] hol (by unfold FUEL; omega) (fun h => by show l.length < _; unfold FUEL; unfold BB at ho1; omega) (fun h => by show 0 + l.length ≤ _; omega)
            rw [e3]
            refine ⟨_, _, rfl, ?_⟩
            have c3 := c3 rfl
            have c3 : AfterL us [] x3 (allV (oneV okW badW) (txs l)) := c3
            cases hu : allV (oneV okW badW) (txs l) with
            | none => rw [hu] at c3; exact .inl c3
            | some u => rw [hu] at c3; exact ⟨c3.1, c3.2.1, by rw [c3.2.2]; rfl⟩
          · rw [if_neg h5, show (f.text == [102, 101, 101, 100]) = false from beq_eq_false_iff_ne.2 h5]
            simp only [cond_false]
            by_cases h6 : f.text = crashW
            · rw [if_pos h6, show (f.text == [99, 114, 97, 115, 104]) = true from beq_iff_eq.2 h6]
              obtain ⟨n, x1, e1, o1, l1, c1⟩ := sim_at whole_sim l hol
              simp only [cond_true]
              rw [e1]
              simp only [bO_some]
              obtain ⟨us, x3, e3, b3, c3⟩ := many_ok whole_sim fieldR_dec (S := allV whV) rfl (fun t r => by
                show _ = ((whV t).map _).bind _
                rw [allV]; cases whV t <;> rfl) (k := fun l b acc => gq5 l b 6 [] 0 false 0 0 0 0 0 0 [] 0 [] 0 0 0 0 [] [] n acc) (L := g_script_line_act_l4 (n, x1) gq5) (fun m l b acc => rfl) FUEL x1 [] o1 (by unfold FUEL; omega) (fun h => by have := l1 h; unfold FUEL; unfold BB at ho1; omega) (fun h => by have := l1 h; simp; omega)
              rw [e3]
              refine ⟨_, _, rfl, ?_⟩
              cases hr : txs l with
              | nil => rw [hr] at c1; exact .inl (b3 c1)
              | cons t r =>
                rw [hr] at c1
                have c1 : After n x1 ((whV t).map (fun a => (a, r))) := c1
                show EndsAs _ _ ((whV t).bind fun n => (allV whV r).map (aCrash n))
                cases hw : whV t with
                | none => rw [hw] at c1; exact .inl (b3 c1)
                | some k =>
                  rw [hw] at c1
                  obtain ⟨d1, d2, d3⟩ := c1
                  have c3 := c3 d1
                  rw [d2] at c3
                  show EndsAs _ _ ((allV whV r).map (aCrash k))
                  cases hu : allV whV r with
                  | none => rw [hu] at c3; exact .inl c3
                  | some u => rw [hu] at c3; exact ⟨c3.1, c3.2.1, by rw [c3.2.2, d3]; rfl⟩
            · rw [if_neg h6, show (f.text == [99, 114, 97, 115, 104]) = false from beq_eq_false_iff_ne.2 h6]
              exact ⟨_, _, rfl, .inl rfl⟩
end
section
open Go.RowKit

def OKT (l : List (List UInt8)) : Prop := l.length ≤ BB ∧ ∀ f ∈ l, f.length ≤ BB
/-- What is told, and whether it is. -/
def Told {α : Type} (g : Option (α × Bool)) (o : Option α) : Prop := ∃ a b, g = some (a, b) ∧ match o with
  | some c => b = true ∧ a = c
  | none => b = false
def thr {α : Type} (f : List UInt8 → Option α) (x y z : List UInt8) : Option (V3 α) := (f x).bind fun a => (f y).bind fun b => (f z).bind fun c => some ⟨a, b, c⟩
theorem threeR_eq {α : Type} (f : List UInt8 → Option α) (x y z : List UInt8) (r : List (List UInt8)) : threeR f (x :: y :: z :: r) = (thr f x y z).map fun v => (v, r) := by
  unfold threeR thr fieldR
  cases h1 : f x <;> cases h2 : f y <;> cases h3 : f z <;> simp [h1, h2, h3]
theorem le_lim {s : List UInt8} (h : s.length ≤ BB) : s.length ≤ lim := by unfold BB at h; unfold lim; omega
theorem rq_ok {s : List UInt8} (h : s.length ≤ BB) : g_ref05_Read s = some ((qv s : Int), (qnV s).isSome) ∧ ∀ n, qnV s = some n → (qv s : Int) = n := by
  rw [rread_ok (le_lim h)]
  unfold qnV qv
  cases quantV s with
  | none => exact ⟨rfl, fun n h => by cases h⟩
  | some k => exact ⟨rfl, fun n h => by cases h; rfl⟩
theorem ra_ok {s : List UInt8} (h : s.length ≤ BB) : ∃ y, g_ref26_Amount s = some (y, (amV s).isSome) ∧ ∀ n, amV s = some n → y = n := by
  obtain ⟨y, b, h1, _⟩ := amount_some (le_lim h)
  rw [amount_eq (le_lim h)]
  unfold amV
  rw [h1]
  cases b with
  | true => exact ⟨y, rfl, fun n h => by cases h; rfl⟩
  | false => exact ⟨y, rfl, fun n h => by cases h⟩
theorem rthreeQ {l : List (List UInt8)} {i : Nat} {x y z : List UInt8} (hi : i ≤ BB) (hx : l[i]? = some x) (hy : l[i + 1]? = some y) (hz : l[i + 2]? = some z) (bx : x.length ≤ BB) (by_ : y.length ≤ BB) (bz : z.length ≤ BB) : Told (g_ref26_quantities l (i : Int)) (thr qnV x y z) := by
  unfold BB at hi
  unfold g_ref26_quantities thr
  rw [show w64 ((0 : Int) + 1) = 1 from rfl, show w64 ((1 : Int) + 1) = 2 from rfl, w64_id (x := (i : Int) + 0) (by omega) (by omega), w64_id (x := (i : Int) + 1) (by omega) (by omega), w64_id (x := (i : Int) + 2) (by omega) (by omega)]
  rw [show (i : Int) + 0 = (i : Nat) by omega, show (i : Int) + 1 = ((i + 1 : Nat) : Int) by omega, show (i : Int) + 2 = ((i + 2 : Nat) : Int) by omega, idx_nat hx, idx_nat hy, idx_nat hz]
  simp only [bO_some]
  obtain ⟨h1, k1⟩ := rq_ok bx
  obtain ⟨h2, k2⟩ := rq_ok by_
  obtain ⟨h3, k3⟩ := rq_ok bz
  rw [h1, h2, h3]
  simp only [bO_some]
  cases e1 : qnV x with
  | none => exact ⟨_, _, rfl, rfl⟩
  | some a =>
    cases e2 : qnV y with
    | none => exact ⟨_, _, rfl, rfl⟩
    | some b =>
      cases e3 : qnV z with
      | none => exact ⟨_, _, rfl, rfl⟩
      | some c => exact ⟨_, _, rfl, rfl, by rw [k1 a e1, k2 b e2, k3 c e3]⟩
theorem rthreeA {l : List (List UInt8)} {i : Nat} {x y z : List UInt8} (hi : i ≤ BB) (hx : l[i]? = some x) (hy : l[i + 1]? = some y) (hz : l[i + 2]? = some z) (bx : x.length ≤ BB) (by_ : y.length ≤ BB) (bz : z.length ≤ BB) : Told (g_ref26_amounts l (i : Int)) (thr amV x y z) := by
  unfold BB at hi
  unfold g_ref26_amounts thr
  rw [show w64 ((0 : Int) + 1) = 1 from rfl, show w64 ((1 : Int) + 1) = 2 from rfl, w64_id (x := (i : Int) + 0) (by omega) (by omega), w64_id (x := (i : Int) + 1) (by omega) (by omega), w64_id (x := (i : Int) + 2) (by omega) (by omega)]
  rw [show (i : Int) + 0 = (i : Nat) by omega, show (i : Int) + 1 = ((i + 1 : Nat) : Int) by omega, show (i : Int) + 2 = ((i + 2 : Nat) : Int) by omega, idx_nat hx, idx_nat hy, idx_nat hz]
  simp only [bO_some]
  obtain ⟨a1, h1, k1⟩ := ra_ok bx
  obtain ⟨a2, h2, k2⟩ := ra_ok by_
  obtain ⟨a3, h3, k3⟩ := ra_ok bz
  rw [h1, h2, h3]
  simp only [bO_some]
  cases e1 : amV x with
  | none => exact ⟨_, _, rfl, rfl⟩
  | some a =>
    cases e2 : amV y with
    | none => exact ⟨_, _, rfl, rfl⟩
    | some b =>
      cases e3 : amV z with
      | none => exact ⟨_, _, rfl, rfl⟩
      | some c => exact ⟨_, _, rfl, rfl, by rw [k1 a e1, k2 b e2, k3 c e3]⟩
theorem rwh_ok {s : List UInt8} (h : s.length ≤ BB) : Told (g_ref26_Whole s) (whV s) := by
  obtain ⟨z, h1, h2⟩ := rwhole_ok (le_lim h)
  refine ⟨z, _, h1, ?_⟩
  cases e : whV s with
  | none => rfl
  | some n => exact ⟨rfl, h2 n e⟩

/-! A pod. -/
theorem fieldR_len {α : Type} {f : List UInt8 → Option α} {ts : List (List UInt8)} {p : α × List (List UInt8)} (h : fieldR f ts = some p) : ts.length = p.2.length + 1 := by
  cases ts with
  | nil => cases h
  | cons t r =>
    have h : (f t).map (fun a => (a, r)) = some p := h
    cases hf : f t with
    | none => rw [hf] at h; cases h
    | some a => rw [hf] at h; cases h; rfl
theorem threeR_len {α : Type} {f : List UInt8 → Option α} {ts : List (List UInt8)} {p : V3 α × List (List UInt8)} (h : threeR f ts = some p) : ts.length = p.2.length + 3 := by
  unfold threeR at h
  rw [Option.bind_eq_some_iff] at h
  obtain ⟨a, h1, h⟩ := h
  rw [Option.bind_eq_some_iff] at h
  obtain ⟨b, h2, h⟩ := h
  rw [Option.bind_eq_some_iff] at h
  obtain ⟨c, h3, h⟩ := h
  cases h
  have := fieldR_len h1
  have := fieldR_len h2
  have := fieldR_len h3
  simp only at *
  omega
theorem podR_len {ts : List (List UInt8)} {p : SPod} (h : podR ts = some (p, [])) : ts.length = 8 ∨ ts.length = 11 := by
  unfold podR at h
  rw [Option.bind_eq_some_iff] at h
  obtain ⟨a, h1, h⟩ := h
  rw [Option.bind_eq_some_iff] at h
  obtain ⟨b, h2, h⟩ := h
  rw [Option.bind_eq_some_iff] at h
  obtain ⟨c, h3, h⟩ := h
  rw [Option.bind_eq_some_iff] at h
  obtain ⟨d, h4, h⟩ := h
  rw [Option.bind_eq_some_iff] at h
  obtain ⟨e, h5, h⟩ := h
  rw [Option.bind_eq_some_iff] at h
  obtain ⟨f, h6, h⟩ := h
  have := fieldR_len h1
  have := fieldR_len h2
  have := fieldR_len h3
  have := fieldR_len h4
  have := fieldR_len h5
  have := threeR_len h6
  split at h
  · rename_i hf
    have hf' : f.2.length = 0 := by rw [hf]; rfl
    omega
  · rw [Option.bind_eq_some_iff] at h
    obtain ⟨g, h7, h⟩ := h
    simp only [Option.some.injEq, Prod.mk.injEq] at h
    have h8 := threeR_len h7
    have : g.2.length = 0 := by rw [h.2]; rfl
    omega
theorem admV_none {ts : List (List UInt8)} (h : ¬ (ts.length = 8 ∨ ts.length = 11)) : admV ts = none := by
  unfold admV
  split
  · rename_i p hp; exact absurd (podR_len hp) h
  · rfl
theorem one_isSome {s : List UInt8} : (oneV critW plainW s = none → ((!(s == [99, 114, 105, 116, 105, 99, 97, 108])) && (!(s == [112, 108, 97, 105, 110]))) = true) ∧ ∀ b, oneV critW plainW s = some b → ((!(s == [99, 114, 105, 116, 105, 99, 97, 108])) && (!(s == [112, 108, 97, 105, 110]))) = false ∧ (s == [99, 114, 105, 116, 105, 99, 97, 108]) = b := by
  unfold oneV
  by_cases h1 : s = critW
  · rw [if_pos h1]
    refine ⟨(fun h => by cases h), fun b h => ?_⟩
    cases h
    rw [h1]; exact ⟨rfl, rfl⟩
  · rw [if_neg h1, show (s == [99, 114, 105, 116, 105, 99, 97, 108]) = false from beq_eq_false_iff_ne.2 h1]
    by_cases h2 : s = plainW
    · rw [if_pos h2]
      refine ⟨(fun h => by cases h), fun b h => ?_⟩
      cases h
      rw [h2]; exact ⟨rfl, rfl⟩
    · rw [if_neg h2, show (s == [112, 108, 97, 105, 110]) = false from beq_eq_false_iff_ne.2 h2]
      exact ⟨fun _ => rfl, (fun b h => by cases h)⟩
theorem rpod_ok (t : List UInt8) (ts : List (List UInt8)) (ho : OKT (t :: ts)) : ∃ p b, g_ref26_pod (t :: ts) = some (p, b) ∧ match admV ts with
    | some a => b = true ∧ a = aAdmit p
    | none => b = false := by
  have hl : (t :: ts).length = ts.length + 1 := rfl
  by_cases hlen : ts.length = 8 ∨ ts.length = 11
  · have fin : ∀ (a b c d e x y z : List UInt8) (r : List (List UInt8)), ts = a :: b :: c :: d :: e :: x :: y :: z :: r → (r = [] ∨ ∃ u v w, r = [u, v, w]) → ∃ p b, g_ref26_pod (t :: ts) = some (p, b) ∧ match admV ts with
      | some a => b = true ∧ a = aAdmit p
      | none => b = false := by
      intro a b c d e x y z r hts hr
      have bd : ∀ s ∈ ts, s.length ≤ BB := fun s hs => ho.2 s (List.mem_cons_of_mem _ hs)
      have ba := bd a (by rw [hts]; simp)
      have bb := bd b (by rw [hts]; simp)
      have bc := bd c (by rw [hts]; simp)
      have bd' := bd d (by rw [hts]; simp)
      have bx := bd x (by rw [hts]; simp)
      have by' := bd y (by rw [hts]; simp)
      have bz := bd z (by rw [hts]; simp)
      have hok : ((((t :: ts).length : Int) != 9) && (((t :: ts).length : Int) != 12)) = false := by
        rcases hlen with h | h <;> rw [hl, h] <;> rfl
      unfold g_ref26_pod
      rw [hok]
      simp only [cond_false, Bool.false_or]
      rw [hts]
      rw [show idx (t :: a :: b :: c :: d :: e :: x :: y :: z :: r) 1 = some a from rfl, show idx (t :: a :: b :: c :: d :: e :: x :: y :: z :: r) 2 = some b from rfl, show idx (t :: a :: b :: c :: d :: e :: x :: y :: z :: r) 5 = some e from rfl, show idx (t :: a :: b :: c :: d :: e :: x :: y :: z :: r) 3 = some c from rfl, show idx (t :: a :: b :: c :: d :: e :: x :: y :: z :: r) 4 = some d from rfl]
      simp only [bO_some]
      rw [(wordB_ok (le_lim ba)).2]
      simp only [bO_some]
      unfold admV podR
      simp only [fieldR, wdV]
      cases h1 : wordB a with
      | false => exact ⟨_, _, rfl, rfl⟩
      | true =>
        simp only [Bool.not_true, cond_false, bO_some, (wordB_ok (le_lim bb)).2]
        cases h2 : wordB b with
        | false => exact ⟨_, _, rfl, by simp [h2]⟩
        | true =>
          simp only [h2, Bool.not_true, cond_false, Bool.false_or, bO_some, if_true, Option.map_some, Option.bind_some]
          cases h5 : oneV critW plainW e with
          | none =>
            rw [one_isSome.1 h5]
            refine ⟨_, _, rfl, ?_⟩
            cases hq : qnV c <;> cases hw : whV d <;> simp [h5, hw]
          | some kd =>
            obtain ⟨k1, k2⟩ := one_isSome.2 kd h5
            rw [k1]
            simp only [cond_false]
            obtain ⟨q1, q2⟩ := rq_ok bc
            obtain ⟨n, bn, w1, w2⟩ := rwh_ok bd'
            obtain ⟨v, bv, v1, v2⟩ := rthreeQ (l := t :: a :: b :: c :: d :: e :: x :: y :: z :: r) (i := 6) (by unfold BB; omega) rfl rfl rfl bx by' bz
            have v1 : g_ref26_quantities (t :: a :: b :: c :: d :: e :: x :: y :: z :: r) 6 = some (v, bv) := v1
            rw [q1, w1, v1]
            simp only [bO_some]
            rcases hr with rfl | ⟨u', v', w', rfl⟩
            · rw [show (((t :: a :: b :: c :: d :: e :: x :: y :: z :: []).length : Int) == 12) = false from rfl]
              unfold g_ref26_pod_k1
              rw [show idx (t :: a :: b :: c :: d :: e :: x :: y :: z :: []) 1 = some a from rfl, show idx (t :: a :: b :: c :: d :: e :: x :: y :: z :: []) 2 = some b from rfl, show idx (t :: a :: b :: c :: d :: e :: x :: y :: z :: []) 5 = some e from rfl]
              simp only [cond_false, bO_some]
              refine ⟨_, _, rfl, ?_⟩
              cases hq : qnV c with
              | none => rfl
              | some qc =>
                cases hw : whV d with
                | none => rw [hw] at w2; simp only at w2; subst w2; simp [hw]
                | some wd =>
                  rw [hw] at w2
                  cases ht : thr qnV x y z with
                  | none => rw [ht] at v2; simp only at v2; subst v2; simp [hw, h5, threeR_eq, ht]
                  | some tv =>
                    rw [ht] at v2
                    simp only [hw, h5, threeR_eq, ht, Option.map_some, Option.bind_some, if_true]
                    refine ⟨by rw [w2.1, v2.1]; rfl, ?_⟩
                    rw [w2.2, v2.2, q2 qc hq, k2]
            · rw [show (((t :: a :: b :: c :: d :: e :: x :: y :: z :: [u', v', w']).length : Int) == 12) = true from rfl]
              obtain ⟨v9, bv9, v91, v92⟩ := rthreeQ (l := t :: a :: b :: c :: d :: e :: x :: y :: z :: [u', v', w']) (i := 9) (by unfold BB; omega) rfl rfl rfl (bd u' (by rw [hts]; simp)) (bd v' (by rw [hts]; simp)) (bd w' (by rw [hts]; simp))
              have v91 : g_ref26_quantities (t :: a :: b :: c :: d :: e :: x :: y :: z :: [u', v', w']) 9 = some (v9, bv9) := v91
              rw [v91]
              simp only [cond_true, bO_some]
              unfold g_ref26_pod_k1
              rw [show idx (t :: a :: b :: c :: d :: e :: x :: y :: z :: [u', v', w']) 1 = some a from rfl, show idx (t :: a :: b :: c :: d :: e :: x :: y :: z :: [u', v', w']) 2 = some b from rfl, show idx (t :: a :: b :: c :: d :: e :: x :: y :: z :: [u', v', w']) 5 = some e from rfl]
              simp only [bO_some]
              refine ⟨_, _, rfl, ?_⟩
              cases hq : qnV c with
              | none => rfl
              | some qc =>
                cases hw : whV d with
                | none => rw [hw] at w2; simp only at w2; subst w2; simp [hw]
                | some wd =>
                  rw [hw] at w2
                  cases ht : thr qnV x y z with
                  | none => rw [ht] at v2; simp only at v2; subst v2; simp [hw, h5, threeR_eq, ht]
                  | some tv =>
                    rw [ht] at v2
                    simp only [hw, h5, threeR_eq, ht, Option.map_some, Option.bind_some, if_neg (show ¬ ([u', v', w'] : List (List UInt8)) = [] by simp)]
                    cases ht9 : thr qnV u' v' w' with
                    | none => rw [ht9] at v92; simp only at v92; subst v92; simp []
                    | some t9 =>
                      rw [ht9] at v92
                      simp only [Option.map_some, Option.bind_some]
                      refine ⟨by rw [w2.1, v2.1, v92.1]; rfl, ?_⟩
                      rw [w2.2, v2.2, v92.2, q2 qc hq, k2]
    rcases hlen with h | h
    · rcases ts with _ | ⟨a, _ | ⟨b, _ | ⟨c, _ | ⟨d, _ | ⟨e, _ | ⟨x, _ | ⟨y, _ | ⟨z, r⟩⟩⟩⟩⟩⟩⟩⟩ <;> simp at h
      exact fin a b c d e x y z r rfl (.inl h)
    · rcases ts with _ | ⟨a, _ | ⟨b, _ | ⟨c, _ | ⟨d, _ | ⟨e, _ | ⟨x, _ | ⟨y, _ | ⟨z, r⟩⟩⟩⟩⟩⟩⟩⟩ <;> simp at h
      rcases r with _ | ⟨u, _ | ⟨v, _ | ⟨w, r⟩⟩⟩ <;> simp at h
      exact fin a b c d e x y z [u, v, w] (by rw [h]) (.inr ⟨u, v, w, rfl⟩)
  · rw [admV_none hlen]
    have hok : ((((t :: ts).length : Int) != 9) && (((t :: ts).length : Int) != 12)) = true := by
      rw [hl, Bool.and_eq_true, bne_iff_ne, bne_iff_ne]; omega
    unfold g_ref26_pod
    rw [hok]
    exact ⟨_, _, rfl, rfl⟩
/-! A sample. -/
theorem app_at {α : Type} (pre us : List α) (j : Nat) : (pre ++ us)[pre.length + j]? = us[j]? := by
  rw [List.getElem?_append_right (by omega), Nat.add_sub_cancel_left]
theorem Told.of {α : Type} {a : α} {b : Bool} {o : Option α} (h1 : b = o.isSome) (h2 : ∀ c, o = some c → a = c) : Told (some (a, b)) o := by
  refine ⟨a, b, rfl, ?_⟩
  subst h1
  cases o with
  | none => rfl
  | some c => exact ⟨rfl, h2 c rfl⟩
theorem usesR_len : ∀ (us : List (List UInt8)) (u : List SUsage), usesR us = some u → us.length % 4 = 0
  | [], _, _ => rfl
  | [_], _, h => by cases h
  | [_, _], _, h => by cases h
  | [_, _, _], _, h => by cases h
  | w :: a :: b :: c :: r, u, h => by
    rw [usesR] at h
    rw [Option.bind_eq_some_iff] at h
    obtain ⟨_, _, h⟩ := h
    rw [Option.bind_eq_some_iff] at h
    obtain ⟨_, _, h⟩ := h
    rw [Option.bind_eq_some_iff] at h
    obtain ⟨_, _, h⟩ := h
    rw [Option.bind_eq_some_iff] at h
    obtain ⟨_, _, h⟩ := h
    rw [Option.map_eq_some_iff] at h
    obtain ⟨v, h, _⟩ := h
    have := usesR_len r v h
    simp only [List.length_cons]
    omega
theorem raw_loop (l : List (List UInt8)) (ho : OKT l) (k : List SUsage → Option (SRaw × Bool)) : ∀ (m : Nat) (us pre : List (List UInt8)) (acc : List SUsage), l = pre ++ us → us.length < m → us.length % 4 = 0 → acc.length ≤ pre.length →
    g_ref26_raw_l2 l k m acc (pre.length : Int) = match usesR us with
      | some u => k (acc ++ u)
      | none => some (raw0, false)
  | 0, _, _, _, _, h, _, _ => by omega
  | m + 1, [], pre, acc, he, _, _, _ => by
    rw [g_ref26_raw_l2, he, List.append_nil, dec_f (by omega)]
    simp only [usesR, List.append_nil, cond_false]
  | m + 1, [_], _, _, _, _, h, _ => by simp at h
  | m + 1, [_, _], _, _, _, _, h, _ => by simp at h
  | m + 1, [_, _, _], _, _, _, _, h, _ => by simp at h
  | m + 1, w :: a :: b :: c :: r, pre, acc, he, hm, h4, hac => by
    have hl : l.length = pre.length + (r.length + 4) := by rw [he]; simp
    have hBB := ho.1
    have hB : pre.length ≤ BB := by omega
    have hB' := hB
    unfold BB at hB'
    have hin : ∀ s ∈ (w :: a :: b :: c :: r), s.length ≤ BB := fun s hs => ho.2 s (by rw [he]; exact List.mem_append_right _ hs)
    rw [g_ref26_raw_l2, dec_t (by omega)]
    simp only [cond_true]
    rw [w64_succ (by omega)]
    have g0 : l[pre.length]? = some w := by rw [he]; exact app_get pre w _
    obtain ⟨v, bv, v1, v2⟩ := rthreeA (l := l) (i := pre.length + 1) (x := a) (y := b) (z := c) (by rw [hl] at hBB; omega) (by rw [he]; exact app_at pre _ 1) (by rw [he]; exact app_at pre _ 2) (by rw [he]; exact app_at pre _ 3) (hin a (by simp)) (hin b (by simp)) (hin c (by simp))
    rw [v1, idx_nat g0]
    simp only [bO_some]
    have hth : usesR (w :: a :: b :: c :: r) = (wdV w).bind fun w => (thr amV a b c).bind fun q => (usesR r).map (⟨w, q⟩ :: ·) := by
      rw [usesR]
      unfold thr
      cases wdV w <;> cases amV a <;> cases amV b <;> cases amV c <;> rfl
    rw [hth]
    cases ht : thr amV a b c with
    | none =>
      rw [ht] at v2; simp only at v2; subst v2
      simp only [Bool.not_false, cond_true, bO_some, Bool.true_or]
      cases wdV w <;> rfl
    | some q =>
      rw [ht] at v2
      obtain ⟨rfl, rfl⟩ := v2
      simp only [Bool.not_true, cond_false, bO_some, Bool.false_or]
      rw [(wordB_ok (le_lim (hin w (by simp)))).2]
      simp only [bO_some]
      unfold wdV
      cases hw : wordB w with
      | false => rfl
      | true =>
        simp only [Bool.not_true, cond_false, if_true, Option.bind_some]
        rw [appO_eq (by rw [List.length_singleton]; unfold lim; omega)]
        simp only [bO_some]
        rw [w64_id (by omega) (by omega)]
        have ih := raw_loop l ho k m r (pre ++ [w, a, b, c]) (acc ++ [⟨w, v⟩]) (by rw [he]; simp) (by simp only [List.length_cons] at hm; omega) (by simp only [List.length_cons] at h4; omega) (by simp; omega)
        rw [show ((pre ++ [w, a, b, c]).length : Int) = (pre.length : Int) + 4 by simp] at ih
        rw [ih]
        cases usesR r with
        | none => rfl
        | some u => simp
theorem rraw_ok (t : List UInt8) (ts : List (List UInt8)) (ho : OKT (t :: ts)) : Told (g_ref26_raw (t :: ts)) (rawV ts) := by
  have hl : (t :: ts).length = ts.length + 1 := rfl
  have hB := ho.1
  unfold BB at hB
  rw [hl] at hB
  unfold g_ref26_raw
  rcases ts with _ | ⟨n, _ | ⟨a, _ | ⟨b, _ | ⟨c, us⟩⟩⟩⟩
  · exact ⟨_, _, rfl, rfl⟩
  · exact ⟨_, _, rfl, rfl⟩
  · exact ⟨_, _, rfl, rfl⟩
  · exact ⟨_, _, rfl, rfl⟩
  · have hl2 : (t :: n :: a :: b :: c :: us).length = us.length + 5 := rfl
    have hin : ∀ s ∈ (t :: n :: a :: b :: c :: us), s.length ≤ BB := ho.2
    simp only [List.length_cons] at hB
    rw [hl2, dec_f (by omega)]
    rw [w64_id (by omega) (by omega), show ((us.length + 5 : Nat) : Int) - 5 = (us.length : Nat) by omega]
    rw [show ((us.length : Int).tmod 4) = ((us.length % 4 : Nat) : Int) from (Int.ofNat_tmod us.length 4).symm]
    by_cases h4 : us.length % 4 = 0
    · rw [h4]
      simp only [Bool.false_or]
      rw [show (((0 : Nat) : Int) != 0) = false from rfl]
      simp only [cond_false]
      rw [show idx (t :: n :: a :: b :: c :: us) 1 = some n from rfl]
      simp only [bO_some]
      obtain ⟨w, bw, w1, w2⟩ := rwh_ok (hin n (by simp))
      obtain ⟨v, bv, v1, v2⟩ := rthreeA (l := t :: n :: a :: b :: c :: us) (i := 2) (by unfold BB; omega) rfl rfl rfl (hin a (by simp)) (hin b (by simp)) (hin c (by simp))
      have v1 : g_ref26_amounts (t :: n :: a :: b :: c :: us) 2 = some (v, bv) := v1
      rw [w1, v1]
      simp only [bO_some]
      have hloop := raw_loop (t :: n :: a :: b :: c :: us) ho (g_ref26_raw_k1 (w, bw) (v, bv)) FUEL us [t, n, a, b, c] [] rfl (by unfold FUEL; omega) h4 (by simp)
      have hloop : g_ref26_raw_l2 (t :: n :: a :: b :: c :: us) (g_ref26_raw_k1 (w, bw) (v, bv)) FUEL [] 5 = _ := hloop
      rw [hloop]
      have hrw : rawV (n :: a :: b :: c :: us) = (whV n).bind fun n => (thr amV a b c).bind fun q => (usesR us).map fun u => ⟨n, q, u⟩ := by
        show (whV n).bind _ = _
        unfold thr
        cases whV n <;> cases amV a <;> cases amV b <;> cases amV c <;> rfl
      rw [hrw]
      cases hu : usesR us with
      | none =>
        refine ⟨_, _, rfl, ?_⟩
        cases whV n <;> cases thr amV a b c <;> rfl
      | some u =>
        refine ⟨_, _, rfl, ?_⟩
        cases h1 : whV n with
        | none => rw [h1] at w2; simp only at w2; subst w2; rfl
        | some x =>
          rw [h1] at w2
          cases h2 : thr amV a b c with
          | none => rw [h2] at v2; simp only at v2; subst v2; simp
          | some q =>
            rw [h2] at v2
            exact ⟨by rw [w2.1, v2.1]; rfl, by rw [w2.2, v2.2]; rfl⟩
    · rw [show (((us.length % 4 : Nat) : Int) != 0) = true from bne_iff_ne.2 (by omega)]
      refine ⟨_, _, rfl, ?_⟩
      have : rawV (n :: a :: b :: c :: us) = none := by
        show (whV n).bind _ = _
        cases hu : usesR us with
        | none => cases whV n <;> cases amV a <;> cases amV b <;> cases amV c <;> rfl
        | some u => exact absurd (usesR_len us u hu) h4
      rw [this]
/-! Outcomes, and numbers. -/
theorem feed_loop (l : List (List UInt8)) (ho : OKT l) (k : List Bool → Option (SAct × Bool)) : ∀ (m : Nat) (us pre : List (List UInt8)) (acc : List Bool), l = pre ++ us → us.length < m → acc.length ≤ pre.length →
    g_ref26_Line_l7 l k m acc (pre.length : Int) = match allV (oneV okW badW) us with
      | some u => k (acc ++ u)
      | none => g_ref26_Line_k2
  | 0, _, _, _, _, h, _ => by omega
  | m + 1, [], pre, acc, he, _, _ => by
    rw [g_ref26_Line_l7, he, List.append_nil, dec_f (by omega)]
    simp only [allV, List.append_nil, cond_false]
  | m + 1, w :: r, pre, acc, he, hm, hac => by
    have hl : l.length = pre.length + (r.length + 1) := by rw [he]; simp
    have hBB := ho.1
    unfold BB at hBB
    rw [g_ref26_Line_l7, dec_t (by omega)]
    simp only [cond_true]
    rw [idx_nat (show l[pre.length]? = some w by rw [he]; exact app_get pre w _)]
    simp only [bO_some]
    rw [allV]
    unfold oneV
    have ih := fun x : Bool => feed_loop l ho k m r (pre ++ [w]) (acc ++ [x]) (by rw [he]; simp) (by simp only [List.length_cons] at hm; omega) (by simp; omega)
    rw [List.length_append, List.length_singleton] at ih
    have happ : ∀ x : Bool, appO acc [x] = some (acc ++ [x]) := fun x => appO_eq (by rw [List.length_singleton]; unfold lim; omega)
    by_cases h1 : w = okW
    · rw [if_pos h1, show (w == [111, 107]) = true from beq_iff_eq.2 h1]
      simp only [Bool.not_true, Bool.false_and, cond_false, happ, bO_some, Option.bind_some]
      rw [w64_succ (by omega), ih true]
      unfold oneV
      cases allV (fun s => if s = okW then some true else if s = badW then some false else none) r with
      | none => rfl
      | some u => simp
    · rw [if_neg h1, show (w == [111, 107]) = false from beq_eq_false_iff_ne.2 h1]
      by_cases h2 : w = badW
      · rw [if_pos h2, show (w == [98, 97, 100]) = true from beq_iff_eq.2 h2]
        simp only [Bool.not_true, Bool.and_false, cond_false, happ, bO_some, Option.bind_some]
        rw [w64_succ (by omega), ih false]
        unfold oneV
        cases allV (fun s => if s = okW then some true else if s = badW then some false else none) r with
        | none => rfl
        | some u => simp
      · rw [if_neg h2, show (w == [98, 97, 100]) = false from beq_eq_false_iff_ne.2 h2]
        rfl
theorem crash_loop (l : List (List UInt8)) (ho : OKT l) (k : Int → List Int → Option (SAct × Bool)) (n : Int) : ∀ (m : Nat) (us pre : List (List UInt8)) (acc : List Int), l = pre ++ us → us.length < m → acc.length ≤ pre.length → 2 ≤ pre.length →
    g_ref26_Line_l4 l k m n acc (pre.length : Int) = match allV whV us with
      | some u => k n (acc ++ u)
      | none => g_ref26_Line_k2
  | 0, _, _, _, _, h, _, _ => by omega
  | m + 1, [], pre, acc, he, _, _, _ => by
    rw [g_ref26_Line_l4, he, List.append_nil, dec_f (by omega)]
    simp only [allV, List.append_nil, cond_false]
  | m + 1, w :: r, pre, acc, he, hm, hac, hp => by
    have hl : l.length = pre.length + (r.length + 1) := by rw [he]; simp
    have hBB := ho.1
    unfold BB at hBB
    rw [g_ref26_Line_l4, dec_t (by omega)]
    simp only [cond_true]
    rw [idx_nat (show l[pre.length]? = some w by rw [he]; exact app_get pre w _)]
    simp only [bO_some]
    obtain ⟨z, b, z1, z2⟩ := rwh_ok (s := w) (ho.2 w (by rw [he]; simp))
    rw [z1, allV]
    simp only [bO_some]
    cases hw : whV w with
    | none => rw [hw] at z2; simp only at z2; subst z2; rfl
    | some x =>
      rw [hw] at z2
      obtain ⟨rfl, rfl⟩ := z2
      simp only [Bool.not_true, cond_false, Option.bind_some]
      rw [show ((pre.length : Int) == 1) = false from beq_eq_false_iff_ne.2 (by omega), cond_false, appO_eq (by rw [List.length_singleton]; unfold lim; omega)]
      simp only [bO_some]
      unfold g_ref26_Line_k5
      rw [w64_succ (by omega)]
      have ih := crash_loop l ho k n m r (pre ++ [w]) (acc ++ [z]) (by rw [he]; simp) (by simp only [List.length_cons] at hm; omega) (by simp; omega) (by simp; omega)
      rw [List.length_append, List.length_singleton] at ih
      rw [ih]
      cases allV whV r with
      | none => rfl
      | some u => simp
theorem rline_ok (t : List UInt8) (ts : List (List UInt8)) (ho : OKT (t :: ts)) : Told (g_ref26_Line (t :: ts)) (lineW t ts) := by
  have hl : (t :: ts).length = ts.length + 1 := rfl
  have hB := ho.1
  unfold BB at hB
  rw [hl] at hB
  unfold g_ref26_Line
  rw [show idx (t :: ts) 0 = some t from rfl]
  simp only [bO_some]
  unfold lineW
  by_cases h1 : t = admitW
  · rw [if_pos h1, show (t == [97, 100, 109, 105, 116]) = true from beq_iff_eq.2 h1]
    simp only [cond_true]
    obtain ⟨p, b, e1, e2⟩ := rpod_ok t ts ho
    rw [e1]
    refine ⟨_, _, rfl, ?_⟩
    cases h : admV ts with
    | none => rw [h] at e2; exact e2
    | some a => rw [h] at e2; exact ⟨e2.1, e2.2.symm⟩
  · rw [if_neg h1, show (t == [97, 100, 109, 105, 116]) = false from beq_eq_false_iff_ne.2 h1]
    simp only [cond_false]
    by_cases h2 : t = deleteW
    · rw [if_pos h2, show (t == [100, 101, 108, 101, 116, 101]) = true from beq_iff_eq.2 h2]
      simp only [cond_true]
      rcases ts with _ | ⟨w, _ | ⟨x, r⟩⟩
      · exact ⟨_, _, rfl, rfl⟩
      · rw [show (((t :: [w]).length : Int) != 2) = false from rfl, show idx (t :: [w]) 1 = some w from rfl]
        simp only [cond_false, bO_some]
        rw [(wordB_ok (le_lim (ho.2 w (by simp)))).2]
        refine ⟨_, _, rfl, ?_⟩
        unfold delV wdV
        cases hw : wordB w with
        | false => simp [hw]
        | true => simp [hw, aDelete, pod0, raw0]
      · have hl2 : (t :: w :: x :: r).length = r.length + 3 := rfl
        rw [hl2, show (((r.length + 3 : Nat) : Int) != 2) = true from bne_iff_ne.2 (by omega)]
        exact ⟨_, _, rfl, rfl⟩
    · rw [if_neg h2, show (t == [100, 101, 108, 101, 116, 101]) = false from beq_eq_false_iff_ne.2 h2]
      simp only [cond_false]
      by_cases h3 : t = tickW
      · rw [if_pos h3, show (t == [116, 105, 99, 107]) = true from beq_iff_eq.2 h3]
        simp only [cond_true]
        cases ts with
        | nil => exact ⟨_, _, rfl, rfl, rfl⟩
        | cons x r =>
          have hl2 : (t :: x :: r).length = r.length + 2 := rfl
          rw [hl2, show (((r.length + 2 : Nat) : Int) == 1) = false from beq_eq_false_iff_ne.2 (by omega)]
          exact ⟨_, _, rfl, rfl⟩
      · rw [if_neg h3, show (t == [116, 105, 99, 107]) = false from beq_eq_false_iff_ne.2 h3]
        simp only [cond_false]
        by_cases h4 : t = sampleW
        · rw [if_pos h4, show (t == [115, 97, 109, 112, 108, 101]) = true from beq_iff_eq.2 h4]
          simp only [cond_true]
          obtain ⟨r, b, e1, e2⟩ := rraw_ok t ts ho
          rw [e1]
          refine ⟨_, _, rfl, ?_⟩
          cases h : rawV ts with
          | none => rw [h] at e2; exact e2
          | some a => rw [h] at e2; exact ⟨e2.1, by rw [e2.2]; rfl⟩
        · rw [if_neg h4, show (t == [115, 97, 109, 112, 108, 101]) = false from beq_eq_false_iff_ne.2 h4]
          simp only [cond_false]
          by_cases h5 : t = feedW
          · rw [if_pos h5, show (t == [102, 101, 101, 100]) = true from beq_iff_eq.2 h5]
            simp only [cond_true]
            have h := feed_loop (t :: ts) ho g_ref26_Line_k6 FUEL ts [t] [] rfl (by unfold FUEL; omega) (by simp)
            have h : g_ref26_Line_l7 (t :: ts) g_ref26_Line_k6 FUEL [] 1 = _ := h
            rw [h]
            cases allV (oneV okW badW) ts with
            | none => exact ⟨_, _, rfl, rfl⟩
            | some u => exact ⟨_, _, rfl, rfl, rfl⟩
          · rw [if_neg h5, show (t == [102, 101, 101, 100]) = false from beq_eq_false_iff_ne.2 h5]
            simp only [cond_false]
            unfold g_ref26_Line_k1
            rw [show idx (t :: ts) 0 = some t from rfl]
            simp only [bO_some]
            by_cases h6 : t = crashW
            · rw [if_pos h6, show (t == [99, 114, 97, 115, 104]) = true from beq_iff_eq.2 h6]
              simp only [Bool.true_and]
              cases ts with
              | nil => exact ⟨_, _, rfl, rfl⟩
              | cons n ks =>
                have hl2 : (t :: n :: ks).length = ks.length + 2 := rfl
                rw [hl2, dec_t (by omega)]
                simp only [cond_true]
                obtain ⟨z, b, z1, z2⟩ := rwh_ok (s := n) (ho.2 n (by simp))
                rw [show FUEL = 18446744073709551615 + 1 from rfl, g_ref26_Line_l4, hl2, dec_t (by omega), show idx (t :: n :: ks) 1 = some n from rfl]
                simp only [cond_true, bO_some]
                rw [z1]
                simp only [bO_some]
                show Told _ ((whV n).bind fun n => (allV whV ks).map (aCrash n))
                cases hw : whV n with
                | none => rw [hw] at z2; simp only at z2; subst z2; exact ⟨_, _, rfl, rfl⟩
                | some x =>
                  rw [hw] at z2
                  obtain ⟨rfl, rfl⟩ := z2
                  simp only [List.length_cons] at hB
                  have h := crash_loop (t :: n :: ks) ho g_ref26_Line_k3 z 18446744073709551615 ks [t, n] [] rfl (by omega) (by simp) (by simp)
                  have h : g_ref26_Line_l4 (t :: n :: ks) g_ref26_Line_k3 18446744073709551615 z [] (w64 (1 + 1)) = _ := h
                  simp only [Bool.not_true, cond_false, beq_self_eq_true, cond_true, Option.bind_some]
                  unfold g_ref26_Line_k5
                  rw [h]
                  cases allV whV ks with
                  | none => exact ⟨_, _, rfl, rfl⟩
                  | some u => exact ⟨_, _, rfl, rfl, rfl⟩
            · rw [if_neg h6, show (t == [99, 114, 97, 115, 104]) = false from beq_eq_false_iff_ne.2 h6]
              exact ⟨_, _, rfl, rfl⟩
end
section
def f0 : Field := ⟨[], 0, 0⟩
/-- A line's words, with blanks between. -/
def wordsT : List Field → List UInt8
  | [] => []
  | f :: r => f.text ++ r.flatMap fun g => 32 :: g.text
/-- Lines, joined. -/
def joinT (x : List (List Field)) : List UInt8 := x.flatMap fun fs => wordsT fs ++ [10]
end
section
theorem scan_ind {P : Nat → Nat → List UInt8 → Prop} (h0 : ∀ n i, P n i []) (hb : ∀ n i c r, blankB c.toNat = true → P n (i + 1) r → P n i (c :: r)) (hh : ∀ n i c r, blankB c.toNat = false → c.toNat = 35 → P n i (c :: r))
    (hw : ∀ n i c r, blankB c.toNat = false → c.toNat ≠ 35 → P n (i + 1 + (r.takeWhile (fun c => !blankB c.toNat)).length) (r.dropWhile (fun c => !blankB c.toNat)) → P n i (c :: r)) : ∀ s n i, P n i s := by
  intro s
  induction h : s.length using Nat.strongRecOn generalizing s with
  | _ m ih =>
    intro n i
    cases s with
    | nil => exact h0 n i
    | cons c r =>
      subst h
      cases hbl : blankB c.toNat with
      | true => exact hb n i c r hbl (ih r.length (by simp) r rfl n (i + 1))
      | false =>
        by_cases h35 : c.toNat = 35
        · exact hh n i c r hbl h35
        · have hl := (List.dropWhile_sublist (l := r) (fun c => !blankB c.toNat)).length_le
          exact hw n i c r hbl h35 (ih _ (by simp; omega) _ rfl n _)

/-- A word: not empty; without blanks and lines' ends; no remark. -/
def GoodW (w : List UInt8) : Prop := w ≠ [] ∧ (∀ c ∈ w, blankB (c.toNat : Int) = false) ∧ (∀ c r, w = c :: r → c.toNat ≠ 35)
theorem scan_good : ∀ (s : List UInt8) (n i : Nat), ∀ f ∈ scan n i s, GoodW f.text ∧ f.line = n ∧ (∀ c ∈ f.text, c ∈ s) := by
  refine scan_ind (P := fun n i s => ∀ f ∈ scan n i s, GoodW f.text ∧ f.line = n ∧ (∀ c ∈ f.text, c ∈ s)) ?_ ?_ ?_ ?_
  · intro n i f hf; rw [scan_nil] at hf; cases hf
  · intro n i c r h ih f hf
    rw [scan_blank h] at hf
    obtain ⟨h1, h2, h3⟩ := ih f hf
    exact ⟨h1, h2, fun c hc => List.mem_cons_of_mem _ (h3 c hc)⟩
  · intro n i c r h h2 f hf; rw [scan_hash h h2] at hf; cases hf
  · intro n i c r h h2 ih f hf
    rw [scan_word h h2] at hf
    rcases List.mem_cons.1 hf with rfl | hf
    · refine ⟨⟨by simp, fun x hx => ?_, fun x t e => by cases e; exact h2⟩, rfl, fun x hx => ?_⟩
      · rcases List.mem_cons.1 hx with rfl | hx
        · exact h
        · have := List.all_eq_true.1 (List.all_takeWhile (p := fun (c : UInt8) => !blankB (c.toNat : Int)) (l := r)) x hx
          exact bnot_t this
      · rcases List.mem_cons.1 hx with rfl | hx
        · exact List.mem_cons_self ..
        · exact List.mem_cons_of_mem _ ((List.takeWhile_sublist _).mem hx)
    · obtain ⟨h3, h4, h5⟩ := ih f hf
      exact ⟨h3, h4, fun c hc => List.mem_cons_of_mem _ ((List.dropWhile_sublist _).mem (h5 c hc))⟩
/-- Lines' texts. -/
def textsOf (x : List (List Field)) : List (List (List UInt8)) := x.map fun fs => fs.map (·.text)
theorem textsOf_len (x : List (List Field)) : (textsOf x).length = x.length := by simp [textsOf]
def wT : List (List UInt8) → List UInt8
  | [] => []
  | w :: r => w ++ r.flatMap fun v => 32 :: v
def jT (x : List (List (List UInt8))) : List UInt8 := x.flatMap fun ws => wT ws ++ [10]
theorem wordsT_eq (fs : List Field) : wordsT fs = wT (fs.map (·.text)) := by
  cases fs with
  | nil => rfl
  | cons f r => simp [wordsT, wT, List.flatMap_map]
theorem joinT_eq (x : List (List Field)) : joinT x = jT (textsOf x) := by
  simp [joinT, jT, textsOf, List.flatMap_map, wordsT_eq]
/-! Texts one behind the other. -/
theorem splitNl_app (a b : List UInt8) : splitNl (a ++ 10 :: b) = splitNl a ++ splitNl b := by
  induction a with
  | nil => rw [List.nil_append, splitNl_10, splitNl_nil]; rfl
  | cons c r ih =>
    by_cases hc : c = 10
    · subst hc
      rw [List.cons_append, splitNl_10, splitNl_10, ih]; rfl
    · obtain ⟨hd, tl, e1, e2⟩ := splitNl_ne hc (r ++ 10 :: b)
      obtain ⟨hd', tl', e3, e4⟩ := splitNl_ne hc r
      rw [List.cons_append, e2, e4]
      rw [ih, e3, List.cons_append] at e1
      cases e1
      rfl
/-! The length of what is joined. -/
theorem wT_len (ws : List (List UInt8)) (h : ws ≠ []) : (wT ws).length + 1 = (ws.map fun w => w.length + 1).sum := by
  cases ws with
  | nil => exact absurd rfl h
  | cons w r =>
    simp only [wT, List.length_append, List.map_cons, List.sum_cons]
    have : ∀ (r : List (List UInt8)), (r.flatMap fun v => 32 :: v).length = (r.map fun w => w.length + 1).sum := by
      intro r; induction r with
      | nil => rfl
      | cons v t ih => simp only [List.flatMap_cons, List.length_append, List.length_cons, List.map_cons, List.sum_cons, ih]
    rw [this]; omega
theorem words_len2 : ∀ (s : List UInt8) (n i : Nat), ((scan n i s).map fun f => f.text.length + 1).sum ≤ s.length + 1 ∧ ((s = [] ∨ ∃ x t, s = x :: t ∧ blankB x.toNat = true) → ((scan n i s).map fun f => f.text.length + 1).sum ≤ s.length) := by
  refine scan_ind (P := fun n i s => ((scan n i s).map fun f => f.text.length + 1).sum ≤ s.length + 1 ∧ ((s = [] ∨ ∃ x t, s = x :: t ∧ blankB x.toNat = true) → ((scan n i s).map fun f => f.text.length + 1).sum ≤ s.length)) ?_ ?_ ?_ ?_
  · intro n i; rw [scan_nil]; simp
  · intro n i c r h ih
    rw [scan_blank h]
    have := ih.1
    simp only [List.length_cons]
    exact ⟨by omega, fun _ => by omega⟩
  · intro n i c r h h2; rw [scan_hash h h2]; simp
  · intro n i c r h h2 ih
    rw [scan_word h h2]
    simp only [List.map_cons, List.sum_cons, List.length_cons]
    have hl : (r.takeWhile (fun c => !blankB c.toNat)).length + (r.dropWhile (fun c => !blankB c.toNat)).length = r.length := by
      rw [← List.length_append, List.takeWhile_append_dropWhile]
    have hd : r.dropWhile (fun c => !blankB c.toNat) = [] ∨ ∃ x t, r.dropWhile (fun c => !blankB c.toNat) = x :: t ∧ blankB x.toNat = true := by
      cases hx : r.dropWhile (fun c => !blankB c.toNat) with
      | nil => exact .inl rfl
      | cons x t =>
        refine .inr ⟨x, t, rfl, ?_⟩
        have := List.head_dropWhile_not (fun (c : UInt8) => !blankB (c.toNat : Int)) (l := r) (by rw [hx]; simp)
        simp only [hx, List.head_cons] at this
        exact bnot_f this
    have := ih.2 hd
    refine ⟨by omega, fun h3 => ?_⟩
    rcases h3 with h3 | ⟨x, t, h3, h4⟩
    · cases h3
    · cases h3; rw [h] at h4; cases h4
theorem words_len (s : List UInt8) (n i : Nat) : ((scan n i s).map fun f => f.text.length + 1).sum ≤ s.length + 1 := (words_len2 s n i).1
theorem wordsT_len (s : List UInt8) (n i : Nat) : (wordsT (scan n i s)).length ≤ s.length := by
  have h := words_len s n i
  rw [wordsT_eq]
  by_cases h0 : (scan n i s).map (·.text) = []
  · rw [h0]; exact Nat.zero_le _
  · have := wT_len _ h0
    rw [List.map_map] at this
    have e : ((scan n i s).map ((fun (w : List UInt8) => w.length + 1) ∘ fun x => x.text)).sum = ((scan n i s).map fun f => f.text.length + 1).sum := rfl
    omega
/-- What is joined is no longer than the text, but for one line's end. -/
theorem joinT_from_len (ls : List (List UInt8)) : ∀ n, (joinT (lexFrom n ls)).length ≤ (ls.map fun s => s.length + 1).sum := by
  induction ls with
  | nil => intro n; exact Nat.zero_le _
  | cons s r ih =>
    intro n
    have h1 := ih (n + 1)
    have h2 := wordsT_len s n 0
    rw [lexFrom]
    simp only [List.map_cons, List.sum_cons]
    split
    · omega
    · simp only [joinT, List.flatMap_cons, List.length_append] at h1 ⊢
      have : ([10] : List UInt8).length = 1 := rfl
      omega
theorem splitNl_sum : ∀ (l : List UInt8), ((splitNl l).map fun s => s.length + 1).sum = l.length + 1
  | [] => rfl
  | c :: r => by
    have ih := splitNl_sum r
    by_cases hc : c = 10
    · subst hc; rw [splitNl_10]; simp only [List.map_cons, List.sum_cons, List.length_nil, List.length_cons]; omega
    · obtain ⟨hd, tl, e1, e2⟩ := splitNl_ne hc r
      rw [e1] at ih
      rw [e2]
      simp only [List.map_cons, List.sum_cons, List.length_cons] at ih ⊢
      omega
theorem joinT_len (l : List UInt8) : (joinT (lexLines l)).length ≤ l.length + 1 := by
  unfold lexLines
  split
  · rw [← splitNl_sum]; exact joinT_from_len _ _
  · exact Nat.zero_le _
theorem lexFrom_mem (ls : List (List UInt8)) : ∀ n, ∀ fs ∈ lexFrom n ls, ∃ s ∈ ls, ∃ m, fs = scan m 0 s ∧ fs ≠ [] := by
  induction ls with
  | nil => intro n fs h; cases h
  | cons s r ih =>
    intro n fs h
    rw [lexFrom] at h
    split at h
    · obtain ⟨s', h1, h2⟩ := ih _ fs h; exact ⟨s', List.mem_cons_of_mem _ h1, h2⟩
    · rename_i h0
      rcases List.mem_cons.1 h with rfl | h
      · exact ⟨s, List.mem_cons_self .., n, rfl, fun e => h0 (by rw [e]; rfl)⟩
      · obtain ⟨s', h1, h2⟩ := ih _ fs h; exact ⟨s', List.mem_cons_of_mem _ h1, h2⟩
/-- A line's end stands in no line. -/
theorem splitNl_no10 : ∀ (l : List UInt8), ∀ s ∈ splitNl l, (10 : UInt8) ∉ s
  | [], s, h => by rw [splitNl_nil] at h; simp at h; subst h; simp
  | c :: r, s, h => by
    have ih := splitNl_no10 r
    by_cases hc : c = 10
    · subst hc
      rw [splitNl_10] at h
      rcases List.mem_cons.1 h with rfl | h
      · simp
      · exact ih s h
    · obtain ⟨hd, tl, e1, e2⟩ := splitNl_ne hc r
      rw [e2] at h
      rw [e1] at ih
      rcases List.mem_cons.1 h with rfl | h
      · intro hm
        rcases List.mem_cons.1 hm with e | e
        · exact hc e.symm
        · exact ih hd (List.mem_cons_self ..) e
      · exact ih s (List.mem_cons_of_mem _ h)
theorem splitNl_sub : ∀ (l : List UInt8), ∀ s ∈ splitNl l, ∀ c ∈ s, c ∈ l
  | [], s, h, c, hc => by rw [splitNl_nil] at h; simp at h; subst h; cases hc
  | x :: r, s, h, c, hc => by
    have ih := splitNl_sub r
    by_cases hx : x = 10
    · subst hx
      rw [splitNl_10] at h
      rcases List.mem_cons.1 h with rfl | h
      · cases hc
      · exact List.mem_cons_of_mem _ (ih s h c hc)
    · obtain ⟨hd, tl, e1, e2⟩ := splitNl_ne hx r
      rw [e2] at h
      rw [e1] at ih
      rcases List.mem_cons.1 h with rfl | h
      · rcases List.mem_cons.1 hc with rfl | hc
        · exact List.mem_cons_self ..
        · exact List.mem_cons_of_mem _ (ih hd (List.mem_cons_self ..) c hc)
      · exact List.mem_cons_of_mem _ (ih s (List.mem_cons_of_mem _ h) c hc)
theorem lex_good (l : List UInt8) : ∀ fs ∈ lexLines l, fs ≠ [] ∧ ∀ f ∈ fs, GoodW f.text ∧ (∀ c ∈ f.text, c ≠ 10 ∧ okB (c.toNat : Int) = true) := by
  intro fs h
  unfold lexLines at h
  split at h
  · rename_i hr
    obtain ⟨s, hs, m, rfl, h0⟩ := lexFrom_mem _ _ fs h
    refine ⟨h0, fun f hf => ?_⟩
    obtain ⟨h1, _, h3⟩ := scan_good s m 0 f hf
    refine ⟨h1, fun c hc => ⟨fun e => ?_, ?_⟩⟩
    · subst e; exact splitNl_no10 l s hs (h3 _ hc)
    · simp only [readableB, Bool.and_eq_true] at hr
      exact List.all_eq_true.1 hr.1 c (splitNl_sub l s hs c (h3 c hc))
  · cases h
end
section
open Go.RowKit

/-! Acts that are alike. -/
def FB (x y : Nat) : Prop := x < 18446744073709551616 ∧ y < 18446744073709551616 ∧ rkV x = rkV y
def FB3 (x y : V3 Nat) : Prop := FB x.a y.a ∧ FB x.b y.b ∧ FB x.c y.c
inductive All2 {α : Type} (R : α → α → Prop) : List α → List α → Prop
  | nil : All2 R [] []
  | cons {a b : α} {l m : List α} (h : R a b) (t : All2 R l m) : All2 R (a :: l) (b :: m)
theorem All2.length {α : Type} {R : α → α → Prop} {l m : List α} (h : All2 R l m) : l.length = m.length := by
  induction h with
  | nil => rfl
  | cons _ _ ih => simp [ih]
theorem All2.get {α : Type} {R : α → α → Prop} {l m : List α} (h : All2 R l m) : ∀ (i : Nat) (x : α), l[i]? = some x → ∃ y, m[i]? = some y ∧ R x y := by
  induction h with
  | nil => intro i x h; simp at h
  | cons hr _ ih =>
    intro i x h
    cases i with
    | zero => simp at h; subst h; exact ⟨_, rfl, hr⟩
    | succ i => exact ih i x (by simpa using h)
theorem All2.refl {α : Type} {R : α → α → Prop} {l : List α} (h : ∀ x ∈ l, R x x) : All2 R l l := by
  induction l with
  | nil => exact .nil
  | cons a r ih => exact .cons (h a (List.mem_cons_self ..)) (ih fun x hx => h x (List.mem_cons_of_mem _ hx))
theorem All2.app {α : Type} {R : α → α → Prop} {l m l' m' : List α} (h : All2 R l m) (h' : All2 R l' m') : All2 R (l ++ l') (m ++ m') := by
  induction h with
  | nil => exact h'
  | cons hr _ ih => exact .cons hr ih
structure AlikeU (x y : SUsage) : Prop where
  id : x.id = y.id
  am : FB3 x.amount y.amount
structure AlikeA (x y : SAct) : Prop where
  do_ : x.do_ = y.do_
  pod : x.pod = y.pod
  id : x.id = y.id
  steps : x.steps = y.steps
  well : x.well = y.well
  keep : x.keep = y.keep
  time : x.raw.time = y.raw.time
  avail : FB3 x.raw.avail y.raw.avail
  use : All2 AlikeU x.raw.use y.raw.use
structure Szd (x : SAct) : Prop where
  well : x.well.length ≤ lim
  keep : x.keep.length ≤ lim
  use : x.raw.use.length ≤ lim
theorem q_refl (p : SPod) : qSPod p p = true := by simp [qSPod]
theorem alike_fb {x y : Nat} (h : FB x y) : g_ref03_Alike x y = some true := by rw [alike_ok h.1 h.2.1, dec_t h.2.2]
theorem fuel_lt {n : Nat} (h : n ≤ lim) : n < FUEL := by unfold FUEL; unfold lim at h; omega
theorem sameRaw_loop (a b : SRaw) (h : All2 AlikeU a.use b.use) (hl : a.use.length ≤ lim) : ∀ (d i m : Nat), i + d = a.use.length → d < m → g_ref26_sameRaw_l3 a b g_ref26_sameRaw_k2 m (i : Int) = some true
  | _, _, 0, _, h => by omega
  | 0, i, m + 1, hi, _ => by rw [g_ref26_sameRaw_l3, dec_f (by omega)]; rfl
  | d + 1, i, m + 1, hi, hm => by
    unfold lim at hl
    obtain ⟨y, hy, hr⟩ := h.get i a.use[i] (by simp)
    have hx : a.use[i]? = some a.use[i] := by simp
    rw [g_ref26_sameRaw_l3, dec_t (by omega)]
    simp only [cond_true]
    rw [idx_nat hx, idx_nat hy]
    simp only [bO_some]
    rw [hr.id, alike_fb hr.am.1, alike_fb hr.am.2.1, alike_fb hr.am.2.2]
    simp only [bO_some, beq_self_eq_true, Bool.not_true, cond_false]
    unfold g_ref26_sameRaw_k4
    rw [w64_succ (by omega)]
    exact sameRaw_loop a b h (by unfold lim; exact hl) d (i + 1) m (by omega) (by omega)
theorem same_raw {a b : SAct} (h : AlikeA a b) (hs : Szd a) : g_ref26_sameRaw a.raw b.raw = some true := by
  unfold g_ref26_sameRaw
  have hl := h.use.length
  rw [h.time, hl, alike_fb h.avail.1, alike_fb h.avail.2.1, alike_fb h.avail.2.2]
  simp only [bne_self_eq_false, Bool.or_self, cond_false, bO_some, Bool.not_true]
  exact sameRaw_loop _ _ h.use hs.use _ 0 FUEL (by simp) (fuel_lt hs.use)
theorem same_well (l m : List SAct) (x : Nat) (k : Option Bool) {a b : SAct} (ha : l[x]? = some a) (hb : m[x]? = some b) (e : a.well = b.well) (hl : a.well.length ≤ lim) : ∀ (d i f : Nat), i + d = a.well.length → d < f → g_ref26_Same_l6 l m (x : Int) k f (i : Int) = k
  | _, _, 0, _, h => by omega
  | 0, i, f + 1, hi, _ => by
    rw [g_ref26_Same_l6, idx_nat ha]
    simp only [bO_some]
    rw [dec_f (by omega)]; rfl
  | d + 1, i, f + 1, hi, hm => by
    have hl' := hl
    unfold lim at hl'
    have hx : a.well[i]? = some a.well[i] := by simp
    rw [g_ref26_Same_l6, idx_nat ha]
    simp only [bO_some]
    rw [dec_t (by omega), idx_nat hb]
    simp only [cond_true, bO_some]
    rw [← e, idx_nat hx]
    simp only [bO_some, beq_self_eq_true, Bool.not_true, cond_false]
    rw [w64_succ (by omega)]
    exact same_well l m x k ha hb e hl d (i + 1) f (by omega) (by omega)
theorem same_keep (l m : List SAct) (x : Nat) (k : Option Bool) {a b : SAct} (ha : l[x]? = some a) (hb : m[x]? = some b) (e : a.keep = b.keep) (hl : a.keep.length ≤ lim) : ∀ (d i f : Nat), i + d = a.keep.length → d < f → g_ref26_Same_l5 l m (x : Int) k f (i : Int) = k
  | _, _, 0, _, h => by omega
  | 0, i, f + 1, hi, _ => by
    rw [g_ref26_Same_l5, idx_nat ha]
    simp only [bO_some]
    rw [dec_f (by omega)]; rfl
  | d + 1, i, f + 1, hi, hm => by
    have hl' := hl
    unfold lim at hl'
    have hx : a.keep[i]? = some a.keep[i] := by simp
    rw [g_ref26_Same_l5, idx_nat ha]
    simp only [bO_some]
    rw [dec_t (by omega), idx_nat hb]
    simp only [cond_true, bO_some]
    rw [← e, idx_nat hx]
    simp only [bO_some, bne_self_eq_false, cond_false]
    rw [w64_succ (by omega)]
    exact same_keep l m x k ha hb e hl d (i + 1) f (by omega) (by omega)
theorem same_loop (l m : List SAct) (h : All2 AlikeA l m) (hs : ∀ a ∈ l, Szd a) (hl : l.length ≤ lim) : ∀ (d i f : Nat), i + d = l.length → d < f → g_ref26_Same_l2 l m g_ref26_Same_k1 f (i : Int) = some true
  | _, _, 0, _, h => by omega
  | 0, i, f + 1, hi, _ => by rw [g_ref26_Same_l2, dec_f (by omega)]; rfl
  | d + 1, i, f + 1, hi, hm => by
    have hl' := hl
    unfold lim at hl'
    have hx : l[i]? = some l[i] := by simp
    have hsz := hs l[i] (List.getElem_mem _)
    obtain ⟨y, hy, hr⟩ := h.get i _ hx
    rw [g_ref26_Same_l2, dec_t (by omega), idx_nat hx, idx_nat hy]
    simp only [cond_true, bO_some]
    rw [hr.do_, hr.pod, hr.id, hr.steps, hr.well, hr.keep, same_raw hr hsz]
    simp only [bne_self_eq_false, q_refl, beq_self_eq_true, Bool.not_true, Bool.or_self, cond_false, bO_some]
    rw [show FUEL = FUEL from rfl]
    have h1 := same_well l m i (g_ref26_Same_k4 l m (i : Int) (g_ref26_Same_l2 l m g_ref26_Same_k1 f)) hx hy hr.well hsz.well l[i].well.length 0 FUEL (by omega) (fuel_lt hsz.well)
    refine (show _ = _ from h1).trans ?_
    unfold g_ref26_Same_k4
    have h2 := same_keep l m i (g_ref26_Same_k3 (i : Int) (g_ref26_Same_l2 l m g_ref26_Same_k1 f)) hx hy hr.keep hsz.keep l[i].keep.length 0 FUEL (by omega) (fuel_lt hsz.keep)
    refine (show _ = _ from h2).trans ?_
    unfold g_ref26_Same_k3
    rw [w64_succ (by omega)]
    exact same_loop l m h hs hl d (i + 1) f (by omega) (by omega)
theorem same_ok {l m : List SAct} (h : All2 AlikeA l m) (hs : ∀ a ∈ l, Szd a) (hl : l.length ≤ lim) : g_ref26_Same l m = some true := by
  unfold g_ref26_Same
  rw [h.length]
  simp only [bne_self_eq_false, cond_false]
  exact same_loop l m h hs hl l.length 0 FUEL (by omega) (fuel_lt hl)
/-! What is read. -/
def SelfA (a : SAct) : Prop := AlikeA a a ∧ Szd a
theorem amV_lt {s : List UInt8} (h : s.length ≤ lim) {y : Nat} (hy : amV s = some y) : FB y y := by
  obtain ⟨z, b, h1, h2⟩ := amount_some h
  unfold amV at hy
  rw [h1] at hy
  cases b with
  | true => cases hy; exact ⟨h2, h2, rfl⟩
  | false => cases hy
theorem usesR_self : ∀ (us : List (List UInt8)) (u : List SUsage), (∀ s ∈ us, s.length ≤ BB) → usesR us = some u → All2 AlikeU u u ∧ u.length ≤ us.length
  | [], _, _, h => by cases h; exact ⟨.nil, Nat.le_refl _⟩
  | [_], _, _, h => by cases h
  | [_, _], _, _, h => by cases h
  | [_, _, _], _, _, h => by cases h
  | w :: a :: b :: c :: r, u, hb, h => by
    rw [usesR] at h
    rw [Option.bind_eq_some_iff] at h
    obtain ⟨w', h1, h⟩ := h
    rw [Option.bind_eq_some_iff] at h
    obtain ⟨a', h2, h⟩ := h
    rw [Option.bind_eq_some_iff] at h
    obtain ⟨b', h3, h⟩ := h
    rw [Option.bind_eq_some_iff] at h
    obtain ⟨c', h4, h⟩ := h
    rw [Option.map_eq_some_iff] at h
    obtain ⟨v, h, rfl⟩ := h
    have ih := usesR_self r v (fun s hs => hb s (by simp [hs])) h
    exact ⟨.cons ⟨rfl, amV_lt (le_lim (hb a (by simp))) h2, amV_lt (le_lim (hb b (by simp))) h3, amV_lt (le_lim (hb c (by simp))) h4⟩ ih.1, by simp only [List.length_cons]; omega⟩
theorem allV_len {α : Type} (f : List UInt8 → Option α) : ∀ (us : List (List UInt8)) (u : List α), allV f us = some u → u.length = us.length
  | [], _, h => by cases h; rfl
  | t :: r, u, h => by
    rw [allV, Option.bind_eq_some_iff] at h
    obtain ⟨a, _, h⟩ := h
    rw [Option.map_eq_some_iff] at h
    obtain ⟨v, h, rfl⟩ := h
    have := allV_len f r v h
    simp only [List.length_cons]; omega
theorem fb0 : FB3 raw0.avail raw0.avail := ⟨⟨by decide, by decide, rfl⟩, ⟨by decide, by decide, rfl⟩, ⟨by decide, by decide, rfl⟩⟩
theorem self_raw0 {d s : Int} {p : SPod} {i : List UInt8} {w : List Bool} {k : List Int} (hw : w.length ≤ lim) (hk : k.length ≤ lim) : SelfA ⟨d, p, i, raw0, w, s, k⟩ :=
  ⟨⟨rfl, rfl, rfl, rfl, rfl, rfl, rfl, fb0, .nil⟩, ⟨hw, hk, by show 0 ≤ lim; omega⟩⟩
theorem lineV_self {ts : List (List UInt8)} (ho : OKT ts) {a : SAct} (h : lineV ts = some a) : SelfA a := by
  cases ts with
  | nil => cases h
  | cons t ts =>
    have hB := ho.1
    unfold BB at hB
    simp only [List.length_cons] at hB
    replace h : lineW t ts = some a := h
    unfold lineW at h
    split at h
    · unfold admV at h
      split at h
      · cases h; exact self_raw0 (by simp) (by simp)
      · cases h
    · split at h
      · unfold delV at h
        split at h
        · rw [Option.map_eq_some_iff] at h
          obtain ⟨_, _, rfl⟩ := h
          exact self_raw0 (by simp) (by simp)
        · cases h
      · split at h
        · split at h
          · cases h; exact self_raw0 (by simp) (by simp)
          · cases h
        · split at h
          · rw [Option.map_eq_some_iff] at h
            obtain ⟨r, hq, rfl⟩ := h
            replace h := hq
            clear hq
            unfold rawV at h
            split at h
            · rename_i n x y z us
              rw [Option.bind_eq_some_iff] at h
              obtain ⟨n', h1, h⟩ := h
              rw [Option.bind_eq_some_iff] at h
              obtain ⟨a', h2, h⟩ := h
              rw [Option.bind_eq_some_iff] at h
              obtain ⟨b', h3, h⟩ := h
              rw [Option.bind_eq_some_iff] at h
              obtain ⟨c', h4, h⟩ := h
              rw [Option.map_eq_some_iff] at h
              obtain ⟨v, h, rfl⟩ := h
              have hin : ∀ s ∈ (t :: n :: x :: y :: z :: us), s.length ≤ BB := ho.2
              have hu := usesR_self us v (fun s hs => hin s (by simp [hs])) h
              simp only [List.length_cons] at hB
              exact ⟨⟨rfl, rfl, rfl, rfl, rfl, rfl, rfl, ⟨amV_lt (le_lim (hin x (by simp))) h2, amV_lt (le_lim (hin y (by simp))) h3, amV_lt (le_lim (hin z (by simp))) h4⟩, hu.1⟩, ⟨by show 0 ≤ lim; omega, by show 0 ≤ lim; omega, by show v.length ≤ lim; unfold lim; omega⟩⟩
            · cases h
          · split at h
            · rw [Option.map_eq_some_iff] at h
              obtain ⟨u, hq, rfl⟩ := h
              have := allV_len _ _ _ hq
              exact self_raw0 (by unfold lim; omega) (by simp)
            · split at h
              · unfold craV at h
                split at h
                · rename_i n ks
                  rw [Option.bind_eq_some_iff] at h
                  obtain ⟨n', h1, h⟩ := h
                  rw [Option.map_eq_some_iff] at h
                  obtain ⟨u, h, rfl⟩ := h
                  have := allV_len _ _ _ h
                  simp only [List.length_cons] at hB
                  exact self_raw0 (by simp) (by unfold lim; omega)
                · cases h
              · cases h
/-! Texts. -/
def lineOf : List SField → Int
  | [] => 0
  | f :: _ => f.line
def readGo : List (List SField) → List SAct → List SAct × Int × Int
  | [], acc => (acc, 0, 0)
  | fs :: r, acc => match lineV (txs fs) with
    | none => ([], lineOf fs, 2)
    | some a => readGo r (acc ++ [a])
def GoodLL (L : List (List SField)) : Prop := L.length ≤ BB ∧ ∀ fs ∈ L, OKL fs ∧ fs ≠ []
theorem okt_txs {l : List SField} (h : OKL l) : OKT (txs l) := ⟨by rw [txs, List.length_map]; exact h.1, fun s hs => by
  obtain ⟨f, hf, rfl⟩ := List.mem_map.1 hs
  exact h.2 f hf⟩
theorem sread_loop (L : List (List SField)) (e : Int) (hL : GoodLL L) : ∀ (m : Nat) (r pre : List (List SField)) (acc : List SAct), L = pre ++ r → r.length < m → acc.length ≤ pre.length →
    g_script_Read_l2 (L, e) g_script_Read_k1 m (pre.length : Int) acc = some (readGo r acc)
  | 0, _, _, _, _, h, _ => by omega
  | m + 1, [], pre, acc, he, _, _ => by
    rw [g_script_Read_l2, he, List.append_nil, dec_f (by show ¬ (pre.length : Int) < (pre.length : Int); omega)]; rfl
  | m + 1, fs :: r, pre, acc, he, hm, ha => by
    have hl : L.length = pre.length + (r.length + 1) := by rw [he]; simp
    have hBB := hL.1
    unfold BB at hBB
    obtain ⟨ho, hne⟩ := hL.2 fs (by rw [he]; simp)
    rw [g_script_Read_l2, dec_t (by show (pre.length : Int) < (L.length : Int); omega), idx_nat (show L[pre.length]? = some fs by rw [he]; exact app_get pre fs _)]
    simp only [cond_true, bO_some]
    cases fs with
    | nil => exact absurd rfl hne
    | cons f l =>
      obtain ⟨a, x', e1, e2⟩ := act_ok f l ho
      rw [e1, readGo]
      simp only [bO_some]
      cases h : lineV (txs (f :: l)) with
      | none =>
        rw [h] at e2
        have hb : (x'.bad || decide ((x'.l.length : Int) > 0)) = true := by
          rcases e2 with e | e
          · rw [e]; rfl
          · have : 0 < x'.l.length := List.length_pos_iff.2 e
            rw [dec_t (by omega), Bool.or_true]
        rw [hb]; rfl
      | some b =>
        rw [h] at e2
        obtain ⟨h1, h2, rfl⟩ := e2
        rw [h1, h2]
        simp only [List.length_nil, Bool.false_or]
        rw [dec_f (by simp)]
        simp only [cond_false]
        rw [appO_eq (by rw [List.length_singleton]; unfold lim; omega)]
        simp only [bO_some]
        rw [w64_succ (by omega)]
        have ih := sread_loop L e hL m r (pre ++ [f :: l]) (acc ++ [a]) (by rw [he]; simp) (by simp only [List.length_cons] at hm; omega) (by simp; omega)
        rw [List.length_append, List.length_singleton] at ih
        exact ih
theorem rtexts_loop (L : List (List SField)) (x : Nat) {fs : List SField} (hx : L[x]? = some fs) (hB : fs.length ≤ BB) (k : List (List UInt8) → Option (List SAct × Int × Int)) : ∀ (m : Nat) (r pre : List SField), fs = pre ++ r → r.length < m →
    g_ref26_Read_l5 L (x : Int) k m (txs pre) (pre.length : Int) = k (txs fs)
  | 0, _, _, _, h => by omega
  | m + 1, [], pre, he, _ => by
    rw [g_ref26_Read_l5, idx_nat hx]
    simp only [bO_some]
    rw [he, List.append_nil, dec_f (by omega)]; rfl
  | m + 1, f :: r, pre, he, hm => by
    have hl : fs.length = pre.length + (r.length + 1) := by rw [he]; simp
    unfold BB at hB
    rw [g_ref26_Read_l5, idx_nat hx]
    simp only [bO_some]
    rw [dec_t (by omega), idx_nat (show fs[pre.length]? = some f by rw [he]; exact app_get pre f _)]
    simp only [cond_true, bO_some]
    rw [appO_eq (by rw [txs, List.length_map, List.length_singleton]; unfold lim; omega)]
    simp only [bO_some]
    rw [w64_succ (by omega)]
    have ih := rtexts_loop L x hx (by unfold BB; exact hB) k m r (pre ++ [f]) (by rw [he]; simp) (by simp only [List.length_cons] at hm; omega)
    rw [List.length_append, List.length_singleton] at ih
    rw [show txs pre ++ [f.text] = txs (pre ++ [f]) by simp [txs]]
    exact ih
theorem rread_loop2 (L : List (List SField)) (hL : GoodLL L) : ∀ (m : Nat) (r pre : List (List SField)) (acc : List SAct), L = pre ++ r → r.length < m → acc.length ≤ pre.length →
    g_ref26_Read_l2 L g_ref26_Read_k1 m acc (pre.length : Int) = some (readGo r acc)
  | 0, _, _, _, _, h, _ => by omega
  | m + 1, [], pre, acc, he, _, _ => by
    rw [g_ref26_Read_l2, he, List.append_nil, dec_f (by omega)]; rfl
  | m + 1, fs :: r, pre, acc, he, hm, ha => by
    have hl : L.length = pre.length + (r.length + 1) := by rw [he]; simp
    have hBB := hL.1
    unfold BB at hBB
    obtain ⟨ho, hne⟩ := hL.2 fs (by rw [he]; simp)
    have hx : L[pre.length]? = some fs := by rw [he]; exact app_get pre fs _
    rw [g_ref26_Read_l2, dec_t (by omega)]
    simp only [cond_true]
    have hF : fs.length < FUEL := by have := ho.1; unfold BB at this; unfold FUEL; omega
    revert hF
    generalize FUEL = F
    intro hF
    have h5 := rtexts_loop L pre.length hx ho.1 (g_ref26_Read_k4 L acc (pre.length : Int) (g_ref26_Read_l2 L g_ref26_Read_k1 m)) F fs [] rfl hF
    rw [show txs [] = [] from rfl, show (([] : List SField).length : Int) = 0 from rfl] at h5
    rw [h5]
    unfold g_ref26_Read_k4
    cases fs with
    | nil => exact absurd rfl hne
    | cons f l =>
      obtain ⟨a, b, e1, e2⟩ := rline_ok f.text (txs l) (okt_txs ho)
      rw [show txs (f :: l) = f.text :: txs l from rfl, e1, readGo, show lineV (txs (f :: l)) = lineW f.text (txs l) from rfl]
      simp only [bO_some]
      cases h : lineW f.text (txs l) with
      | none =>
        rw [h] at e2
        simp only at e2
        subst e2
        simp only [Bool.not_false, cond_true]
        rw [idx_nat hx]
        rfl
      | some c =>
        rw [h] at e2
        obtain ⟨rfl, rfl⟩ := e2
        simp only [Bool.not_true, cond_false]
        rw [appO_eq (by rw [List.length_singleton]; unfold lim; omega)]
        simp only [bO_some]
        unfold g_ref26_Read_k3
        rw [w64_succ (by omega)]
        have ih := rread_loop2 L hL m r (pre ++ [f :: l]) (acc ++ [a]) (by rw [he]; simp) (by simp only [List.length_cons] at hm; omega) (by simp; omega)
        rw [List.length_append, List.length_singleton] at ih
        exact ih
theorem lexFrom_le (ls : List (List UInt8)) : ∀ n, (lexFrom n ls).length ≤ ls.length := by
  induction ls with
  | nil => intro n; simp [lexFrom]
  | cons s r ih =>
    intro n
    rw [lexFrom_cons, List.length_append]
    have := ih (n + 1)
    unfold emit
    split <;> simp <;> omega
theorem mem_sum (l : List Nat) (x : Nat) (h : x ∈ l) : x ≤ l.sum := by
  induction l with
  | nil => cases h
  | cons a r ih =>
    rw [List.sum_cons]
    rcases List.mem_cons.1 h with rfl | h
    · omega
    · have := ih h; omega
theorem len_sum (l : List Nat) (h : ∀ x ∈ l, 1 ≤ x) : l.length ≤ l.sum := by
  induction l with
  | nil => simp
  | cons a r ih =>
    rw [List.sum_cons, List.length_cons]
    have := h a (List.mem_cons_self ..)
    have := ih fun x hx => h x (List.mem_cons_of_mem _ hx)
    omega
theorem lines_good {b : List UInt8} (h : readableB b = true) : GoodLL (toLL (lexLines b)) := by
  have hb := readable_len h
  unfold lexLines
  rw [if_pos h]
  constructor
  · have := lexFrom_le (splitNl b) 1
    have := splitNl_le b
    unfold toLL BB
    rw [List.length_map]; omega
  · intro fs hfs
    unfold toLL at hfs
    obtain ⟨g, hg, rfl⟩ := List.mem_map.1 hfs
    obtain ⟨s, hs, m, rfl, hne⟩ := lexFrom_mem _ _ g hg
    have hw := words_len s m 0
    obtain ⟨k, hk⟩ := List.getElem?_of_mem hs
    have hsl := splitNl_mem b k s hk
    refine ⟨⟨?_, fun f hf => ?_⟩, fun e => hne (List.map_eq_nil_iff.1 e)⟩
    · have := len_sum ((scan m 0 s).map fun f => f.text.length + 1) (fun x hx => by
        obtain ⟨f, _, rfl⟩ := List.mem_map.1 hx; omega)
      rw [List.length_map] at this
      rw [List.length_map]; unfold BB; omega
    · obtain ⟨f, hf, rfl⟩ := List.mem_map.1 hf
      have := mem_sum _ _ (List.mem_map.2 ⟨f, ‹f ∈ scan m 0 s›, rfl⟩ : f.text.length + 1 ∈ (scan m 0 s).map fun f => f.text.length + 1)
      show f.text.length ≤ BB
      unfold BB; omega
def readV (b : List UInt8) : List SAct × Int × Int := if readableB b then readGo (toLL (lexLines b)) [] else ([], 0, 2)
theorem sread_ok {b : List UInt8} (h : b.length ≤ lim) : g_script_Read b = some (readV b) := by
  unfold g_script_Read readV
  rw [lines_ok h]
  simp only [bO_some]
  unfold errI
  cases hr : readableB b with
  | false => rfl
  | true =>
    simp only [if_true, bne_self_eq_false, cond_false]
    have hg := lines_good hr
    have hB := hg.1
    exact sread_loop _ 0 hg FUEL _ [] [] rfl (by unfold BB at hB; unfold FUEL; omega) (by simp)
theorem rread2_ok {b : List UInt8} (h : b.length ≤ lim) : g_ref26_Read b = some (readV b) := by
  unfold g_ref26_Read readV
  rw [rreadable_ok h]
  simp only [bO_some]
  cases hr : readableB b with
  | false => rfl
  | true =>
    simp only [Bool.not_true, cond_false, if_true]
    rw [rlines_ok hr]
    simp only [bO_some]
    have hg := lines_good hr
    have hB := hg.1
    exact rread_loop2 _ hg FUEL _ [] [] rfl (by unfold BB at hB; unfold FUEL; omega) (by simp)
theorem readGo_from : ∀ (L : List (List SField)) (acc l : List SAct) (at_ e : Int), readGo L acc = (l, at_, e) → (∀ a ∈ acc, ∃ ts, OKT ts ∧ lineV ts = some a) → (∀ fs ∈ L, OKL fs) → (∀ a ∈ l, ∃ ts, OKT ts ∧ lineV ts = some a) ∧ l.length ≤ acc.length + L.length
  | [], acc, l, _, _, h, ha, _ => by cases h; exact ⟨ha, by simp⟩
  | fs :: r, acc, l, at_, e, h, ha, hL => by
    rw [readGo] at h
    split at h
    · cases h; exact ⟨(fun a h => by cases h), by simp⟩
    · rename_i a hv
      have := readGo_from r (acc ++ [a]) l at_ e h (fun x hx => by
        rcases List.mem_append.1 hx with hx | hx
        · exact ha x hx
        · rw [List.mem_singleton.1 hx]; exact ⟨_, okt_txs (hL fs (List.mem_cons_self ..)), hv⟩) (fun x hx => hL x (List.mem_cons_of_mem _ hx))
      refine ⟨this.1, ?_⟩
      have := this.2
      rw [List.length_append, List.length_singleton] at this
      rw [List.length_cons]; omega
theorem readV_from {b : List UInt8} : (∀ a ∈ (readV b).1, ∃ ts, OKT ts ∧ lineV ts = some a) ∧ (readV b).1.length ≤ BB := by
  unfold readV
  cases hr : readableB b with
  | false => exact ⟨(fun a h => by cases h), by simp⟩
  | true =>
    simp only [if_true]
    have hg := lines_good hr
    have := readGo_from (toLL (lexLines b)) [] _ _ _ rfl (fun a h => by cases h) (fun fs h => (hg.2 fs h).1)
    exact ⟨this.1, by have h2 := this.2; have := hg.1; simp at h2; omega⟩
theorem read_same {b : List UInt8} : g_ref26_Same (readV b).1 (readV b).1 = some true := by
  obtain ⟨h1, h2⟩ := readV_from (b := b)
  have hself : ∀ a ∈ (readV b).1, SelfA a := fun a ha => by
    obtain ⟨ts, ho, h⟩ := h1 a ha
    exact lineV_self ho h
  exact same_ok (All2.refl fun a ha => (hself a ha).1) (fun a ha => (hself a ha).2) (by unfold BB at h2; unfold lim; omega)
end
end Go.Proofs.YtgphopeclplahaaGreatDoor
