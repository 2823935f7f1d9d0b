/- Cf6, Cf7, Cf8. -/
import Derived.Test.YtmmfkpbkacfegaaGreatDoorM9
import Derived.Test.YtmmfkpbkacfegaaGreatDoorM3
namespace Go.Proofs.YtmmfkpbkacfegaaGreatDoor
section
open Go.RowKit
theorem PrintZ (n : Int) (hn : n.toNat ≤ 9223372036854775807) (M : Nat → Option (List AV)) : ACall Tryz.prog 29 [.lit (.int .i64 n)] M (fun r M' => r = .str (zW n) ∧ M = M') := Print_any n hn M
theorem rPrintZ (n : Int) (h0 : 0 ≤ n) (hn : n ≤ 9223372036854775807) (M : Nat → Option (List AV)) : ACall Tryz.prog 39 [.lit (.int .i64 n)] M (fun r M' => r = .str (zW n) ∧ M = M') := rPrint_int n h0 hn M
theorem joinZ {c : Cfg} (hr : PrC c) (hca : InR c) (M : Nat → Option (List AV)) : ACall Tryz.prog 32 [.list false 46 (((linesC c).map fldsOf).map encL)] M (fun r M' => r = .str (textC c) ∧ M = M') :=
  (join_any ((linesC c).map fldsOf) (lc_small hr) (lc_ne c) (by have := lc_len hr hca; omega) M).mono fun r M' ⟨h1, h2⟩ => ⟨h1.trans (congrArg AV.str (joint_fo _)), h2⟩

set_option maxRecDepth 20000 in
theorem fields_any (w : List UInt8) (ws : List (List UInt8)) (hws : ws.length ≤ 4294967296) (M : Nat → Option (List AV)) : ACall Tryz.prog 30 [.str w, .list false 9 (ws.map AV.str)] M (fun r M' => r = .list true 50 ((fldsOf (w :: ws)).map encF) ∧ M = M') := by
  refine ACall.of Tryz.func30 rfl (n := 24) rfl rfl rfl ?_
  refine zg ?_
  refine AOps.nilList 50 trivial rfl (by decide) (.inl rfl) ?_
  refine zN ?_
  refine zg ?_
  refine zM (.str w) ?_
  refine zr (Reader.build (xs := [(0, .str w)]) (Es := []) (places := places_50) rfl Tryz.underlying50 (by refine ⟨rfl, fun j p x hp hx => ?_⟩; match j, hp, hx with | 0, hp, hx => cases hp; cases hx; exact ⟨rfl, .inl ⟨rfl, rfl⟩, rfl, rfl⟩ | _ + 1, hp, hx => cases hp) zero_50 rfl places_50_ok (cs := [.str w, zI 0, zI 0]) rfl) ?_
  refine zbS [] [.agg [.str w, zI 0, zI 0]] Tryz.underlying46 Tryz.i50 ?_
  refine zT (v := .list true 50 [.agg [.str w, zI 0, zI 0]]) rfl ?_
  refine zN ?_
  refine AWp.seq ?_
  refine zg ?_
  refine zM (.list false 9 (ws.map AV.str)) ?_
  refine zr (zL (ws.map AV.str) ws.length Tryz.underlying38 (by simp)) ?_
  refine zM (zI 0) ?_
  refine zN ?_
  refine AWp.block ?_
  refine AWp.loopE [5, 11, 12, 13] [] (fun m s => ∃ (i : Nat), m = ws.length - i ∧ s = ⟨[(5, .list true 50 ((fldsOf (w :: ws.take i)).map encF)), (11, .list false 9 (ws.map AV.str)), (12, zI (ws.length : Int)), (13, zI (i : Int))], [], M⟩ ∧ (i ≤ ws.length)) ?_ ?_
  · exact ⟨_, 0, rfl, rfl, Nat.zero_le _⟩
  · rintro _ _ ⟨i, rfl, rfl, hi⟩
    refine zg ?_
    refine zr (zi (decide ((i : Int) < (ws.length : Int)))) ?_
    refine zN ?_
    refine AWp.seq ?_
    refine zC (b := decide ((i : Int) < (ws.length : Int))) rfl (fun h1 => ?_) (fun h1 => ?_)
    · skip
      have h1' : i < ws.length := (by have hh := of_decide_eq_true h1; omega)
      clear h1
      refine AWp.skip ?_
      refine AWp.seq ?_
      refine AWp.block ?_
      refine zg ?_
      refine zr (zel i (.str (ws.getD i [])) Tryz.underlying38 sizeOf_9 (strs_at (by first | omega | (show _ < 0; omega)))) ?_
      refine zr (zlE (.str (ws.getD i [])) Tryz.underlying9 sizeOf_9) ?_
      refine zM (.str (ws.getD i [])) ?_
      refine zN ?_
      refine AWp.region ?_
      refine zT (v := .list true 50 ((fldsOf (w :: ws.take i)).map encF)) rfl ?_
      refine zM (.str (ws.getD i [])) ?_
      refine zr (Reader.build (xs := [(0, .str (ws.getD i []))]) (Es := []) (places := places_50) rfl Tryz.underlying50 (by refine ⟨rfl, fun j p x hp hx => ?_⟩; match j, hp, hx with | 0, hp, hx => cases hp; cases hx; exact ⟨rfl, .inl ⟨rfl, rfl⟩, rfl, rfl⟩ | _ + 1, hp, hx => cases hp) zero_50 rfl places_50_ok (cs := [.str (ws.getD i []), zI 0, zI 0]) rfl) ?_
      refine zbS [] [.agg [.str (ws.getD i []), zI 0, zI 0]] Tryz.underlying46 Tryz.i50 ?_
      refine zap (m1 := (i + 1)) (m2 := 1) 32 ((fldsOf (w :: ws.take i)).map encF) [.agg [.str (ws.getD i []), zI 0, zI 0]] ((fldsOf (w :: ws.take (i + 1))).map encF) Tryz.underlying46 Tryz.underlying46 Tryz.i50 (fo_len (by omega)) rfl (fo_snoc (by omega)) ?_
      refine zT (v := .list true 50 ((fldsOf (w :: ws.take (i + 1))).map encF)) rfl ?_
      refine zN ?_
      refine AWp.region ?_
      refine zr (zw ((i : Int) + 1) ((i + 1 : Nat) : Int)) ?_
      refine zM (zI ((i + 1 : Nat) : Int)) ?_
      refine zN ?_
      exact ⟨_, by omega, i + 1, rfl, rfl, by omega⟩
    · skip
      have h1' : ¬ (i < ws.length) := (by have hh := of_decide_eq_false h1; omega)
      clear h1
      refine AWp.exit ?_
      refine zg ?_
      refine zT (v := .list true 50 ((fldsOf (w :: ws.take i)).map encF)) rfl ?_
      refine zT (v := .list true 50 ((fldsOf (w :: ws.take i)).map encF)) rfl ?_
      refine zN ?_
      refine AWp.ret ?_
      exact ⟨.inl rfl, _, ResOf.one 4 (.list true 50 ((fldsOf (w :: ws.take i)).map encF)) rfl rfl, ⟨by rw [List.take_of_length_le (by omega)], rfl⟩⟩

set_option maxRecDepth 20000 in
theorem CPrint_any (c : Cfg) (hca : InR c) (hcl : c.thr.length ≤ 140737488355328) (M : Nat → Option (List AV)) : ACall Tryz.prog 15 [encC c] M (fun r M' => r = prtC c ∧ M = M') := by
  have ⟨q0, q1, q2, q3, q4, q5, q6, q7, q8, q9, _⟩ := hca
  refine ACall.of Tryz.func15 rfl (n := 90) rfl rfl rfl ?_
  refine zg ?_
  refine AOps.box trivial rfl (by decide) rfl (noL rfl) rfl (v := encC c) (.inl ⟨rfl, rfl⟩) rfl rfl (all_flat rfl) ?_
  refine AOps.freezeK 1 [0, 1] [] (s' := ⟨[(0, encC c), (1, .eptr (encC c) 0)], [], M⟩) rfl rfl rfl ?_
  refine zM (.str []) ?_
  refine zM (zI 0) ?_
  refine zN ?_
  refine AWp.seq ?_
  refine zg ?_
  refine zr (zlE (encC c) Tryz.underlying27 sizeOf_27) ?_
  refine zc [encC c] Tryz.call16 (CRight_any c (by first | omega | (simp only [List.length_nil]; omega) | assumption) M) ?_
  rintro _ _ ⟨rfl, rfl⟩
  refine zr (zn (decide (RightC c))) ?_
  refine zN ?_
  refine zC (b := !(decide (RightC c))) rfl (fun h1 => ?_) (fun h1 => ?_)
  · skip
    have h1' : ¬ RightC c := (of_decide_eq_false (bnot_t h1))
    clear h1
    refine zg ?_
    refine zM (.str []) ?_
    refine zM (zI 1) ?_
    refine zN ?_
    refine AWp.ret ?_
    exact ⟨.inl rfl, _, ResOf.two 2 3 (.str []) (zI 1) rfl rfl (.inl rfl) (.inl rfl) (by decide), ⟨prt_no (by assumption), rfl⟩⟩
  · skip
    have h1' : RightC c := (of_decide_eq_true (bnot_f h1))
    clear h1
    have hR := h1'
    have hr := prC hR
    have hr9 := hr.len
    refine AWp.skip ?_
    refine zg ?_
    refine zM (.fn 29 []) ?_
    refine zN ?_
    refine AWp.seq (AWp.anyV [0, 1, 2, 3, 10, 4, 5] [] (⟨[(0, encC c), (1, .eptr (encC c) 0), (2, .str []), (3, zI 0), (10, zB (!(decide (RightC c)))), (4, .fn 29 []), (5, .list true 46 [.list false 50 ((fldsOf ([99, 97, 112, 97, 99, 105, 116, 121] :: [zW c.c0, zW c.c1, zW c.c2])).map encF), .list false 50 ((fldsOf ([97, 108, 108, 111, 99, 97, 116, 97, 98, 108, 101] :: [zW c.a0, zW c.a1, zW c.a2])).map encF)])], [], M⟩) [[(11, .fn 29 [])], [(12, .eptr (encC c) 0)], [(13, .eptr (encC c) 0)], [(14, zI c.c0)], [(15, .str (zW c.c0))], [(16, .fn 29 [])], [(17, .eptr (encC c) 0)], [(18, .eptr (encC c) 1)], [(19, zI c.c1)], [(20, .str (zW c.c1))], [(21, .fn 29 [])], [(22, .eptr (encC c) 0)], [(23, .eptr (encC c) 2)], [(24, zI c.c2)], [(25, .str (zW c.c2))], [(26, .list true 9 [.str (zW c.c0), .str (zW c.c1), .str (zW c.c2)])], [(27, .list true 50 ((fldsOf ([99, 97, 112, 97, 99, 105, 116, 121] :: [zW c.c0, zW c.c1, zW c.c2])).map encF))], [(28, .fn 29 [])], [(29, .eptr (encC c) 3)], [(30, .eptr (encC c) 3)], [(31, zI c.a0)], [(32, .str (zW c.a0))], [(33, .fn 29 [])], [(34, .eptr (encC c) 3)], [(35, .eptr (encC c) 4)], [(36, zI c.a1)], [(37, .str (zW c.a1))], [(38, .fn 29 [])], [(39, .eptr (encC c) 3)], [(40, .eptr (encC c) 5)], [(41, zI c.a2)], [(42, .str (zW c.a2))], [(43, .list true 9 [.str (zW c.a0), .str (zW c.a1), .str (zW c.a2)])], [(44, .list true 50 ((fldsOf ([97, 108, 108, 111, 99, 97, 116, 97, 98, 108, 101] :: [zW c.a0, zW c.a1, zW c.a2])).map encF))], [(45, .list true 46 [.list false 50 ((fldsOf ([99, 97, 112, 97, 99, 105, 116, 121] :: [zW c.c0, zW c.c1, zW c.c2])).map encF), .list false 50 ((fldsOf ([97, 108, 108, 111, 99, 97, 116, 97, 98, 108, 101] :: [zW c.a0, zW c.a1, zW c.a2])).map encF)])], [(5, .list true 46 [.list false 50 ((fldsOf ([99, 97, 112, 97, 99, 105, 116, 121] :: [zW c.c0, zW c.c1, zW c.c2])).map encF), .list false 50 ((fldsOf ([97, 108, 108, 111, 99, 97, 116, 97, 98, 108, 101] :: [zW c.a0, zW c.a1, zW c.a2])).map encF)]), (45, .list false 46 [.list false 50 ((fldsOf ([99, 97, 112, 97, 99, 105, 116, 121] :: [zW c.c0, zW c.c1, zW c.c2])).map encF), .list false 50 ((fldsOf ([97, 108, 108, 111, 99, 97, 116, 97, 98, 108, 101] :: [zW c.a0, zW c.a1, zW c.a2])).map encF)])]] [[(4, none, .fn 29 [])], [(1, none, .eptr (encC c) 0)], [(12, some 1, .eptr (encC c) 0)], [(13, some 2, .eptr (encC c) 0)], [(11, some 0, .fn 29 []), (14, some 3, zI c.c0)], [(4, none, .fn 29 [])], [(1, none, .eptr (encC c) 0)], [(17, some 6, .eptr (encC c) 0)], [(18, some 7, .eptr (encC c) 1)], [(16, some 5, .fn 29 []), (19, some 8, zI c.c1)], [(4, none, .fn 29 [])], [(1, none, .eptr (encC c) 0)], [(22, some 11, .eptr (encC c) 0)], [(23, some 12, .eptr (encC c) 2)], [(21, some 10, .fn 29 []), (24, some 13, zI c.c2)], [(15, some 4, .str (zW c.c0)), (20, some 9, .str (zW c.c1)), (25, some 14, .str (zW c.c2))], [(26, some 15, .list true 9 [.str (zW c.c0), .str (zW c.c1), .str (zW c.c2)])], [(4, none, .fn 29 [])], [(1, none, .eptr (encC c) 0)], [(29, some 18, .eptr (encC c) 3)], [(30, some 19, .eptr (encC c) 3)], [(28, some 17, .fn 29 []), (31, some 20, zI c.a0)], [(4, none, .fn 29 [])], [(1, none, .eptr (encC c) 0)], [(34, some 23, .eptr (encC c) 3)], [(35, some 24, .eptr (encC c) 4)], [(33, some 22, .fn 29 []), (36, some 25, zI c.a1)], [(4, none, .fn 29 [])], [(1, none, .eptr (encC c) 0)], [(39, some 28, .eptr (encC c) 3)], [(40, some 29, .eptr (encC c) 5)], [(38, some 27, .fn 29 []), (41, some 30, zI c.a2)], [(32, some 21, .str (zW c.a0)), (37, some 26, .str (zW c.a1)), (42, some 31, .str (zW c.a2))], [(43, some 32, .list true 9 [.str (zW c.a0), .str (zW c.a1), .str (zW c.a2)])], [(27, some 16, .list true 50 ((fldsOf ([99, 97, 112, 97, 99, 105, 116, 121] :: [zW c.c0, zW c.c1, zW c.c2])).map encF)), (44, some 33, .list true 50 ((fldsOf ([97, 108, 108, 111, 99, 97, 116, 97, 98, 108, 101] :: [zW c.a0, zW c.a1, zW c.a2])).map encF))], [(45, some 34, .list true 46 [.list false 50 ((fldsOf ([99, 97, 112, 97, 99, 105, 116, 121] :: [zW c.c0, zW c.c1, zW c.c2])).map encF), .list false 50 ((fldsOf ([97, 108, 108, 111, 99, 97, 116, 97, 98, 108, 101] :: [zW c.a0, zW c.a1, zW c.a2])).map encF)])]] ?_ ?_)
    · skip
      refine hop1 (fun fr h => ?_) ?_
      · obtain ⟨_h0, -⟩ := h
        refine zM (.fn 29 []) ?_
        exact zN rfl
      refine hop1 (fun fr h => ?_) ?_
      · obtain ⟨_h0, -⟩ := h
        refine zr (zfE Tryz.underlying27 sizeOf_24) ?_
        exact zN rfl
      refine hop1 (fun fr h => ?_) ?_
      · obtain ⟨_h0, -⟩ := h
        refine zr (ziE 0 Tryz.underlying24 sizeOf_3) ?_
        exact zN rfl
      refine hop1 (fun fr h => ?_) ?_
      · obtain ⟨_h0, -⟩ := h
        refine zr (zlE (zI c.c0) Tryz.underlying3 sizeOf_3) ?_
        exact zN rfl
      refine hop1 (fun fr h => ?_) ?_
      · obtain ⟨_h0, _h1, -⟩ := h
        refine zcv [zI c.c0] [] [zI c.c0] Tryz.call29 (PrintZ c.c0 (by omega) M) ?_
        rintro _ _ ⟨rfl, rfl⟩
        exact zN rfl
      refine hop1 (fun fr h => ?_) ?_
      · obtain ⟨_h0, -⟩ := h
        refine zM (.fn 29 []) ?_
        exact zN rfl
      refine hop1 (fun fr h => ?_) ?_
      · obtain ⟨_h0, -⟩ := h
        refine zr (zfE Tryz.underlying27 sizeOf_24) ?_
        exact zN rfl
      refine hop1 (fun fr h => ?_) ?_
      · obtain ⟨_h0, -⟩ := h
        refine zr (ziE 1 Tryz.underlying24 sizeOf_3) ?_
        exact zN rfl
      refine hop1 (fun fr h => ?_) ?_
      · obtain ⟨_h0, -⟩ := h
        refine zr (zlE (zI c.c1) Tryz.underlying3 sizeOf_3) ?_
        exact zN rfl
      refine hop1 (fun fr h => ?_) ?_
      · obtain ⟨_h0, _h1, -⟩ := h
        refine zcv [zI c.c1] [] [zI c.c1] Tryz.call29 (PrintZ c.c1 (by omega) M) ?_
        rintro _ _ ⟨rfl, rfl⟩
        exact zN rfl
      refine hop1 (fun fr h => ?_) ?_
      · obtain ⟨_h0, -⟩ := h
        refine zM (.fn 29 []) ?_
        exact zN rfl
      refine hop1 (fun fr h => ?_) ?_
      · obtain ⟨_h0, -⟩ := h
        refine zr (zfE Tryz.underlying27 sizeOf_24) ?_
        exact zN rfl
      refine hop1 (fun fr h => ?_) ?_
      · obtain ⟨_h0, -⟩ := h
        refine zr (ziE 2 Tryz.underlying24 sizeOf_3) ?_
        exact zN rfl
      refine hop1 (fun fr h => ?_) ?_
      · obtain ⟨_h0, -⟩ := h
        refine zr (zlE (zI c.c2) Tryz.underlying3 sizeOf_3) ?_
        exact zN rfl
      refine hop1 (fun fr h => ?_) ?_
      · obtain ⟨_h0, _h1, -⟩ := h
        refine zcv [zI c.c2] [] [zI c.c2] Tryz.call29 (PrintZ c.c2 (by omega) M) ?_
        rintro _ _ ⟨rfl, rfl⟩
        exact zN rfl
      refine hop1 (fun fr h => ?_) ?_
      · obtain ⟨_h0, _h1, _h2, -⟩ := h
        refine zbS [] [.str (zW c.c0), .str (zW c.c1), .str (zW c.c2)] Tryz.underlying38 Tryz.i9 ?_
        exact zN rfl
      refine hop1 (fun fr h => ?_) ?_
      · obtain ⟨_h0, -⟩ := h
        refine zc [.str [99, 97, 112, 97, 99, 105, 116, 121], .list false 9 ([zW c.c0, zW c.c1, zW c.c2].map AV.str)] Tryz.call30 (fields_any [99, 97, 112, 97, 99, 105, 116, 121] [zW c.c0, zW c.c1, zW c.c2] (by simp only [List.length_cons, List.length_nil]; omega) M) ?_
        rintro _ _ ⟨rfl, rfl⟩
        exact zN rfl
      refine hop1 (fun fr h => ?_) ?_
      · obtain ⟨_h0, -⟩ := h
        refine zM (.fn 29 []) ?_
        exact zN rfl
      refine hop1 (fun fr h => ?_) ?_
      · obtain ⟨_h0, -⟩ := h
        refine zr (zfE Tryz.underlying27 sizeOf_24) ?_
        exact zN rfl
      refine hop1 (fun fr h => ?_) ?_
      · obtain ⟨_h0, -⟩ := h
        refine zr (ziE 0 Tryz.underlying24 sizeOf_3) ?_
        exact zN rfl
      refine hop1 (fun fr h => ?_) ?_
      · obtain ⟨_h0, -⟩ := h
        refine zr (zlE (zI c.a0) Tryz.underlying3 sizeOf_3) ?_
        exact zN rfl
      refine hop1 (fun fr h => ?_) ?_
      · obtain ⟨_h0, _h1, -⟩ := h
        refine zcv [zI c.a0] [] [zI c.a0] Tryz.call29 (PrintZ c.a0 (by omega) M) ?_
        rintro _ _ ⟨rfl, rfl⟩
        exact zN rfl
      refine hop1 (fun fr h => ?_) ?_
      · obtain ⟨_h0, -⟩ := h
        refine zM (.fn 29 []) ?_
        exact zN rfl
      refine hop1 (fun fr h => ?_) ?_
      · obtain ⟨_h0, -⟩ := h
        refine zr (zfE Tryz.underlying27 sizeOf_24) ?_
        exact zN rfl
      refine hop1 (fun fr h => ?_) ?_
      · obtain ⟨_h0, -⟩ := h
        refine zr (ziE 1 Tryz.underlying24 sizeOf_3) ?_
        exact zN rfl
      refine hop1 (fun fr h => ?_) ?_
      · obtain ⟨_h0, -⟩ := h
        refine zr (zlE (zI c.a1) Tryz.underlying3 sizeOf_3) ?_
        exact zN rfl
      refine hop1 (fun fr h => ?_) ?_
      · obtain ⟨_h0, _h1, -⟩ := h
        refine zcv [zI c.a1] [] [zI c.a1] Tryz.call29 (PrintZ c.a1 (by omega) M) ?_
        rintro _ _ ⟨rfl, rfl⟩
        exact zN rfl
      refine hop1 (fun fr h => ?_) ?_
      · obtain ⟨_h0, -⟩ := h
        refine zM (.fn 29 []) ?_
        exact zN rfl
      refine hop1 (fun fr h => ?_) ?_
      · obtain ⟨_h0, -⟩ := h
        refine zr (zfE Tryz.underlying27 sizeOf_24) ?_
        exact zN rfl
      refine hop1 (fun fr h => ?_) ?_
      · obtain ⟨_h0, -⟩ := h
        refine zr (ziE 2 Tryz.underlying24 sizeOf_3) ?_
        exact zN rfl
      refine hop1 (fun fr h => ?_) ?_
      · obtain ⟨_h0, -⟩ := h
        refine zr (zlE (zI c.a2) Tryz.underlying3 sizeOf_3) ?_
        exact zN rfl
      refine hop1 (fun fr h => ?_) ?_
      · obtain ⟨_h0, _h1, -⟩ := h
        refine zcv [zI c.a2] [] [zI c.a2] Tryz.call29 (PrintZ c.a2 (by omega) M) ?_
        rintro _ _ ⟨rfl, rfl⟩
        exact zN rfl
      refine hop1 (fun fr h => ?_) ?_
      · obtain ⟨_h0, _h1, _h2, -⟩ := h
        refine zbS [] [.str (zW c.a0), .str (zW c.a1), .str (zW c.a2)] Tryz.underlying38 Tryz.i9 ?_
        exact zN rfl
      refine hop1 (fun fr h => ?_) ?_
      · obtain ⟨_h0, -⟩ := h
        refine zc [.str [97, 108, 108, 111, 99, 97, 116, 97, 98, 108, 101], .list false 9 ([zW c.a0, zW c.a1, zW c.a2].map AV.str)] Tryz.call30 (fields_any [97, 108, 108, 111, 99, 97, 116, 97, 98, 108, 101] [zW c.a0, zW c.a1, zW c.a2] (by simp only [List.length_cons, List.length_nil]; omega) M) ?_
        rintro _ _ ⟨rfl, rfl⟩
        exact zN rfl
      refine hop1 (fun fr h => ?_) ?_
      · obtain ⟨_h0, _h1, -⟩ := h
        refine zbS [50, 50] [.list false 50 ((fldsOf ([99, 97, 112, 97, 99, 105, 116, 121] :: [zW c.c0, zW c.c1, zW c.c2])).map encF), .list false 50 ((fldsOf ([97, 108, 108, 111, 99, 97, 116, 97, 98, 108, 101] :: [zW c.a0, zW c.a1, zW c.a2])).map encF)] Tryz.underlying42 Tryz.i46 ?_
        exact zN rfl
      refine hop1 (fun fr h => ?_) ?_
      · obtain ⟨_h0, -⟩ := h
        refine AOps.steal trivial rfl (by decide) (by decide) (.inr rfl) (v := .list true 46 [.list false 50 ((fldsOf ([99, 97, 112, 97, 99, 105, 116, 121] :: [zW c.c0, zW c.c1, zW c.c2])).map encF), .list false 50 ((fldsOf ([97, 108, 108, 111, 99, 97, 116, 97, 98, 108, 101] :: [zW c.a0, zW c.a1, zW c.a2])).map encF)]) (by first | rfl | assumption) ?_
        exact zN rfl
      exact hop0
    refine AWp.seq ?_
    refine zg ?_
    refine zr (zfE Tryz.underlying27 sizeOf_25) ?_
    refine zr (zlE (.list false 40 (c.thr.map encT)) Tryz.underlying25 sizeOf_25) ?_
    refine zr (zL (c.thr.map encT) c.thr.length Tryz.underlying25 (by simp)) ?_
    refine zM (zI 0) ?_
    refine zN ?_
    refine AWp.block ?_
    refine AWp.loopE [1, 4, 5, 47, 48, 49] [] (fun m s => ∃ (i : Nat), m = c.thr.length - i ∧ s = ⟨[(1, .eptr (encC c) 0), (4, .fn 29 []), (5, .list true 46 (((hdL c ++ (thL c).take i).map fldsOf).map encL)), (47, .list false 40 (c.thr.map encT)), (48, zI (c.thr.length : Int)), (49, zI (i : Int))], [], M⟩ ∧ (i ≤ c.thr.length)) ?_ ?_
    · exact ⟨_, 0, rfl, rfl, Nat.zero_le _⟩
    · rintro _ _ ⟨i, rfl, rfl, hi⟩
      refine zg ?_
      refine zr (zi (decide ((i : Int) < (c.thr.length : Int)))) ?_
      refine zN ?_
      refine AWp.seq ?_
      refine zC (b := decide ((i : Int) < (c.thr.length : Int))) rfl (fun h2 => ?_) (fun h2 => ?_)
      · skip
        have h2' : i < c.thr.length := (by have hh := of_decide_eq_true h2; omega)
        clear h2
        refine AWp.skip ?_
        refine AWp.seq ?_
        refine AWp.block ?_
        refine zg ?_
        refine zr (zel i (encT (c.thr.getD i t0)) Tryz.underlying25 sizeOf_40 (thr_at (by omega))) ?_
        refine zr (zlE (encT (c.thr.getD i t0)) Tryz.underlying40 sizeOf_40) ?_
        refine zal [] zero_40 [zI 0, zI 0, zI 0, zB false, zI 0] ?_
        refine zst sizeOf_40 (encT (c.thr.getD i t0)) ?_
        refine zN ?_
        refine AWp.region ?_
        refine zT (v := .list true 46 (((hdL c ++ (thL c).take i).map fldsOf).map encL)) rfl ?_
        refine zr (zlL (.agg [zI ((c.thr.getD i t0).sig), zI ((c.thr.getD i t0).pct), zI ((c.thr.getD i t0).amt), zB ((c.thr.getD i t0).soft), zI ((c.thr.getD i t0).gr)]) Tryz.underlying40 sizeOf_40) ?_
        refine zc [encT (c.thr.getD i t0)] Tryz.call31 (TPrint_any (c.thr.getD i t0) (thr_r hr (by omega)) (hca.thr _ (thr_mem2 (by omega))) M) ?_
        rintro _ _ ⟨rfl, rfl⟩
        refine zbS [] [.str (printT (c.thr.getD i t0))] Tryz.underlying38 Tryz.i9 ?_
        refine zc [.str [116, 104, 114, 101, 115, 104, 111, 108, 100], .list false 9 ([printT (c.thr.getD i t0)].map AV.str)] Tryz.call30 (fields_any [116, 104, 114, 101, 115, 104, 111, 108, 100] [printT (c.thr.getD i t0)] (by simp only [List.length_cons, List.length_nil]; omega) M) ?_
        rintro _ _ ⟨rfl, rfl⟩
        refine zbS [50] [.list false 50 ((fldsOf ([116, 104, 114, 101, 115, 104, 111, 108, 100] :: [printT (c.thr.getD i t0)])).map encF)] Tryz.underlying42 Tryz.i46 ?_
        refine zap (m1 := (i + 2)) (m2 := 1) 24 (((hdL c ++ (thL c).take i).map fldsOf).map encL) [.list false 50 ((fldsOf ([116, 104, 114, 101, 115, 104, 111, 108, 100] :: [printT (c.thr.getD i t0)])).map encF)] (((hdL c ++ (thL c).take (i + 1)).map fldsOf).map encL) Tryz.underlying42 Tryz.underlying42 Tryz.i46 (hl_len (by omega)) rfl (th_snoc (by omega)) ?_
        refine zT (v := .list true 46 (((hdL c ++ (thL c).take (i + 1)).map fldsOf).map encL)) rfl ?_
        refine zN ?_
        refine AWp.region ?_
        refine zr (zw ((i : Int) + 1) ((i + 1 : Nat) : Int)) ?_
        refine zM (zI ((i + 1 : Nat) : Int)) ?_
        refine zN ?_
        exact ⟨_, by omega, i + 1, rfl, rfl, by omega⟩
      · skip
        have h2' : ¬ (i < c.thr.length) := (by have hh := of_decide_eq_false h2; omega)
        clear h2
        refine AWp.exit ?_
        refine AWp.seq (AWp.anyV [1, 4, 5, 47, 48, 49, 50] [] (⟨[(1, .eptr (encC c) 0), (4, .fn 29 []), (5, .list true 46 (((linesC c).map fldsOf).map encL)), (47, .list false 40 (c.thr.map encT)), (48, zI (c.thr.length : Int)), (49, zI (i : Int)), (50, zB (decide ((i : Int) < (c.thr.length : Int))))], [], M⟩) [[(61, .list true 46 (((hdL c ++ (thL c).take i).map fldsOf).map encL)), (5, .list false 46 (((hdL c ++ (thL c).take i).map fldsOf).map encL))], [(62, .fn 29 [])], [(63, .eptr (encC c) 7)], [(64, zI c.per)], [(65, .str (zW c.per))], [(66, .list true 9 [.str (zW c.per)])], [(67, .list true 50 ((fldsOf ([112, 101, 114, 105, 111, 100] :: [zW c.per])).map encF))], [(68, .fn 29 [])], [(69, .eptr (encC c) 8)], [(70, zI c.ret)], [(71, .str (zW c.ret))], [(72, .list true 9 [.str (zW c.ret)])], [(73, .list true 50 ((fldsOf ([114, 101, 116, 114, 105, 101, 115] :: [zW c.ret])).map encF))], [(74, .fn 29 [])], [(75, .eptr (encC c) 9)], [(76, zI c.age)], [(77, .str (zW c.age))], [(78, .list true 9 [.str (zW c.age)])], [(79, .list true 50 ((fldsOf ([109, 97, 120, 97, 103, 101] :: [zW c.age])).map encF))], [(80, .fn 29 [])], [(81, .eptr (encC c) 10)], [(82, zI c.ded)], [(83, .str (zW c.ded))], [(84, .list true 9 [.str (zW c.ded)])], [(85, .list true 50 ((fldsOf ([100, 101, 97, 100] :: [zW c.ded])).map encF))], [(86, .list true 46 [.list false 50 ((fldsOf ([112, 101, 114, 105, 111, 100] :: [zW c.per])).map encF), .list false 50 ((fldsOf ([114, 101, 116, 114, 105, 101, 115] :: [zW c.ret])).map encF), .list false 50 ((fldsOf ([109, 97, 120, 97, 103, 101] :: [zW c.age])).map encF), .list false 50 ((fldsOf ([100, 101, 97, 100] :: [zW c.ded])).map encF)])], [(87, .list true 46 (((linesC c).map fldsOf).map encL)), (61, .list false 46 (((hdL c ++ (thL c).take i).map fldsOf).map encL))], [(5, .list true 46 (((linesC c).map fldsOf).map encL)), (87, .list false 46 (((linesC c).map fldsOf).map encL))]] [[(5, none, .list true 46 (((hdL c ++ (thL c).take i).map fldsOf).map encL))], [(4, none, .fn 29 [])], [(1, none, .eptr (encC c) 0)], [(63, some 2, .eptr (encC c) 7)], [(62, some 1, .fn 29 []), (64, some 3, zI c.per)], [(65, some 4, .str (zW c.per))], [(66, some 5, .list true 9 [.str (zW c.per)])], [(4, none, .fn 29 [])], [(1, none, .eptr (encC c) 0)], [(69, some 8, .eptr (encC c) 8)], [(68, some 7, .fn 29 []), (70, some 9, zI c.ret)], [(71, some 10, .str (zW c.ret))], [(72, some 11, .list true 9 [.str (zW c.ret)])], [(4, none, .fn 29 [])], [(1, none, .eptr (encC c) 0)], [(75, some 14, .eptr (encC c) 9)], [(74, some 13, .fn 29 []), (76, some 15, zI c.age)], [(77, some 16, .str (zW c.age))], [(78, some 17, .list true 9 [.str (zW c.age)])], [(4, none, .fn 29 [])], [(1, none, .eptr (encC c) 0)], [(81, some 20, .eptr (encC c) 10)], [(80, some 19, .fn 29 []), (82, some 21, zI c.ded)], [(83, some 22, .str (zW c.ded))], [(84, some 23, .list true 9 [.str (zW c.ded)])], [(67, some 6, .list true 50 ((fldsOf ([112, 101, 114, 105, 111, 100] :: [zW c.per])).map encF)), (73, some 12, .list true 50 ((fldsOf ([114, 101, 116, 114, 105, 101, 115] :: [zW c.ret])).map encF)), (79, some 18, .list true 50 ((fldsOf ([109, 97, 120, 97, 103, 101] :: [zW c.age])).map encF)), (85, some 24, .list true 50 ((fldsOf ([100, 101, 97, 100] :: [zW c.ded])).map encF))], [(61, some 0, .list true 46 (((hdL c ++ (thL c).take i).map fldsOf).map encL)), (86, some 25, .list true 46 [.list false 50 ((fldsOf ([112, 101, 114, 105, 111, 100] :: [zW c.per])).map encF), .list false 50 ((fldsOf ([114, 101, 116, 114, 105, 101, 115] :: [zW c.ret])).map encF), .list false 50 ((fldsOf ([109, 97, 120, 97, 103, 101] :: [zW c.age])).map encF), .list false 50 ((fldsOf ([100, 101, 97, 100] :: [zW c.ded])).map encF)])], [(87, some 26, .list true 46 (((linesC c).map fldsOf).map encL))]] ?_ ?_)
        · skip
          refine hop1 (fun fr h => ?_) ?_
          · obtain ⟨_h0, -⟩ := h
            refine AOps.steal trivial rfl (by decide) (by decide) (.inl rfl) (v := .list true 46 (((hdL c ++ (thL c).take i).map fldsOf).map encL)) (by first | rfl | assumption) ?_
            exact zN rfl
          refine hop1 (fun fr h => ?_) ?_
          · obtain ⟨_h0, -⟩ := h
            refine zM (.fn 29 []) ?_
            exact zN rfl
          refine hop1 (fun fr h => ?_) ?_
          · obtain ⟨_h0, -⟩ := h
            refine zr (zfE Tryz.underlying27 sizeOf_3) ?_
            exact zN rfl
          refine hop1 (fun fr h => ?_) ?_
          · obtain ⟨_h0, -⟩ := h
            refine zr (zlE (zI c.per) Tryz.underlying3 sizeOf_3) ?_
            exact zN rfl
          refine hop1 (fun fr h => ?_) ?_
          · obtain ⟨_h0, _h1, -⟩ := h
            refine zcv [zI c.per] [] [zI c.per] Tryz.call29 (PrintZ c.per (by omega) M) ?_
            rintro _ _ ⟨rfl, rfl⟩
            exact zN rfl
          refine hop1 (fun fr h => ?_) ?_
          · obtain ⟨_h0, -⟩ := h
            refine zbS [] [.str (zW c.per)] Tryz.underlying38 Tryz.i9 ?_
            exact zN rfl
          refine hop1 (fun fr h => ?_) ?_
          · obtain ⟨_h0, -⟩ := h
            refine zc [.str [112, 101, 114, 105, 111, 100], .list false 9 ([zW c.per].map AV.str)] Tryz.call30 (fields_any [112, 101, 114, 105, 111, 100] [zW c.per] (by simp only [List.length_cons, List.length_nil]; omega) M) ?_
            rintro _ _ ⟨rfl, rfl⟩
            exact zN rfl
          refine hop1 (fun fr h => ?_) ?_
          · obtain ⟨_h0, -⟩ := h
            refine zM (.fn 29 []) ?_
            exact zN rfl
          refine hop1 (fun fr h => ?_) ?_
          · obtain ⟨_h0, -⟩ := h
            refine zr (zfE Tryz.underlying27 sizeOf_3) ?_
            exact zN rfl
          refine hop1 (fun fr h => ?_) ?_
          · obtain ⟨_h0, -⟩ := h
            refine zr (zlE (zI c.ret) Tryz.underlying3 sizeOf_3) ?_
            exact zN rfl
          refine hop1 (fun fr h => ?_) ?_
          · obtain ⟨_h0, _h1, -⟩ := h
            refine zcv [zI c.ret] [] [zI c.ret] Tryz.call29 (PrintZ c.ret (by omega) M) ?_
            rintro _ _ ⟨rfl, rfl⟩
            exact zN rfl
          refine hop1 (fun fr h => ?_) ?_
          · obtain ⟨_h0, -⟩ := h
            refine zbS [] [.str (zW c.ret)] Tryz.underlying38 Tryz.i9 ?_
            exact zN rfl
          refine hop1 (fun fr h => ?_) ?_
          · obtain ⟨_h0, -⟩ := h
            refine zc [.str [114, 101, 116, 114, 105, 101, 115], .list false 9 ([zW c.ret].map AV.str)] Tryz.call30 (fields_any [114, 101, 116, 114, 105, 101, 115] [zW c.ret] (by simp only [List.length_cons, List.length_nil]; omega) M) ?_
            rintro _ _ ⟨rfl, rfl⟩
            exact zN rfl
          refine hop1 (fun fr h => ?_) ?_
          · obtain ⟨_h0, -⟩ := h
            refine zM (.fn 29 []) ?_
            exact zN rfl
          refine hop1 (fun fr h => ?_) ?_
          · obtain ⟨_h0, -⟩ := h
            refine zr (zfE Tryz.underlying27 sizeOf_3) ?_
            exact zN rfl
          refine hop1 (fun fr h => ?_) ?_
          · obtain ⟨_h0, -⟩ := h
            refine zr (zlE (zI c.age) Tryz.underlying3 sizeOf_3) ?_
            exact zN rfl
          refine hop1 (fun fr h => ?_) ?_
          · obtain ⟨_h0, _h1, -⟩ := h
            refine zcv [zI c.age] [] [zI c.age] Tryz.call29 (PrintZ c.age (by omega) M) ?_
            rintro _ _ ⟨rfl, rfl⟩
            exact zN rfl
          refine hop1 (fun fr h => ?_) ?_
          · obtain ⟨_h0, -⟩ := h
            refine zbS [] [.str (zW c.age)] Tryz.underlying38 Tryz.i9 ?_
            exact zN rfl
          refine hop1 (fun fr h => ?_) ?_
          · obtain ⟨_h0, -⟩ := h
            refine zc [.str [109, 97, 120, 97, 103, 101], .list false 9 ([zW c.age].map AV.str)] Tryz.call30 (fields_any [109, 97, 120, 97, 103, 101] [zW c.age] (by simp only [List.length_cons, List.length_nil]; omega) M) ?_
            rintro _ _ ⟨rfl, rfl⟩
            exact zN rfl
          refine hop1 (fun fr h => ?_) ?_
          · obtain ⟨_h0, -⟩ := h
            refine zM (.fn 29 []) ?_
            exact zN rfl
          refine hop1 (fun fr h => ?_) ?_
          · obtain ⟨_h0, -⟩ := h
            refine zr (zfE Tryz.underlying27 sizeOf_3) ?_
            exact zN rfl
          refine hop1 (fun fr h => ?_) ?_
          · obtain ⟨_h0, -⟩ := h
            refine zr (zlE (zI c.ded) Tryz.underlying3 sizeOf_3) ?_
            exact zN rfl
          refine hop1 (fun fr h => ?_) ?_
          · obtain ⟨_h0, _h1, -⟩ := h
            refine zcv [zI c.ded] [] [zI c.ded] Tryz.call29 (PrintZ c.ded (by omega) M) ?_
            rintro _ _ ⟨rfl, rfl⟩
            exact zN rfl
          refine hop1 (fun fr h => ?_) ?_
          · obtain ⟨_h0, -⟩ := h
            refine zbS [] [.str (zW c.ded)] Tryz.underlying38 Tryz.i9 ?_
            exact zN rfl
          refine hop1 (fun fr h => ?_) ?_
          · obtain ⟨_h0, -⟩ := h
            refine zc [.str [100, 101, 97, 100], .list false 9 ([zW c.ded].map AV.str)] Tryz.call30 (fields_any [100, 101, 97, 100] [zW c.ded] (by simp only [List.length_cons, List.length_nil]; omega) M) ?_
            rintro _ _ ⟨rfl, rfl⟩
            exact zN rfl
          refine hop1 (fun fr h => ?_) ?_
          · obtain ⟨_h0, _h1, _h2, _h3, -⟩ := h
            refine zbS [50, 50, 50, 50] [.list false 50 ((fldsOf ([112, 101, 114, 105, 111, 100] :: [zW c.per])).map encF), .list false 50 ((fldsOf ([114, 101, 116, 114, 105, 101, 115] :: [zW c.ret])).map encF), .list false 50 ((fldsOf ([109, 97, 120, 97, 103, 101] :: [zW c.age])).map encF), .list false 50 ((fldsOf ([100, 101, 97, 100] :: [zW c.ded])).map encF)] Tryz.underlying42 Tryz.i46 ?_
            exact zN rfl
          refine hop1 (fun fr h => ?_) ?_
          · obtain ⟨_h0, _h1, -⟩ := h
            refine zap (m1 := (i + 2)) (m2 := 4) 24 (((hdL c ++ (thL c).take i).map fldsOf).map encL) [.list false 50 ((fldsOf ([112, 101, 114, 105, 111, 100] :: [zW c.per])).map encF), .list false 50 ((fldsOf ([114, 101, 116, 114, 105, 101, 115] :: [zW c.ret])).map encF), .list false 50 ((fldsOf ([109, 97, 120, 97, 103, 101] :: [zW c.age])).map encF), .list false 50 ((fldsOf ([100, 101, 97, 100] :: [zW c.ded])).map encF)] (((linesC c).map fldsOf).map encL) Tryz.underlying42 Tryz.underlying42 Tryz.i46 (hl_len (by omega)) rfl (lc_last (by omega)) ?_
            exact zN rfl
          refine hop1 (fun fr h => ?_) ?_
          · obtain ⟨_h0, -⟩ := h
            refine AOps.steal trivial rfl (by decide) (by decide) (.inr rfl) (v := .list true 46 (((linesC c).map fldsOf).map encL)) (by first | rfl | assumption) ?_
            exact zN rfl
          exact hop0
        refine zg ?_
        refine zM (.list false 46 (((linesC c).map fldsOf).map encL)) ?_
        refine zc [.list false 46 (((linesC c).map fldsOf).map encL)] Tryz.call32 (joinZ hr hca M) ?_
        rintro _ _ ⟨rfl, rfl⟩
        refine zM (.str (textC c)) ?_
        refine zM (zI 0) ?_
        refine zN ?_
        refine AWp.ret ?_
        exact ⟨.inl rfl, _, ResOf.two 2 3 (.str (textC c)) (zI 0) rfl rfl (.inl rfl) (.inl rfl) (by decide), ⟨prt_ok hR, rfl⟩⟩

set_option maxRecDepth 20000 in
theorem rCPrint_any (c : Cfg) (hr : PrC c) (hca : InR c) (M : Nat → Option (List AV)) : ACall Tryz.prog 18 [encC c] M (fun r M' => r = .str (textC c) ∧ M = M') := by
  have ⟨l0, l1, l2, l3, l4, l5, l6, l7, l8, l9⟩ := zw_lens hca
  have ⟨q0, q1, q2, q3, q4, q5, q6, q7, q8, q9, _⟩ := hca
  have ⟨p0, p1, p2, p3, p4, p5, p6, p7, p8, p9, hr9, _⟩ := hr
  have hhd : (hdT c).length ≤ 200 := hd_len hca
  refine ACall.of Tryz.func18 rfl (n := 74) rfl rfl rfl ?_
  refine zg ?_
  refine AOps.box trivial rfl (by decide) rfl (noL rfl) rfl (v := encC c) (.inl ⟨rfl, rfl⟩) rfl rfl (all_flat rfl) ?_
  refine AOps.freezeK 1 [0, 1] [] (s' := ⟨[(0, encC c), (1, .eptr (encC c) 0)], [], M⟩) rfl rfl rfl ?_
  refine zM (.str []) ?_
  refine zN ?_
  refine zg ?_
  refine zM (.str [99, 97, 112, 97, 99, 105, 116, 121]) ?_
  refine zN ?_
  refine AWp.seq ?_
  refine zg ?_
  refine zM (zI 0) ?_
  refine zN ?_
  refine AWp.block ?_
  refine AWp.unroll 4 ?_
  refine AWp.round ?_
  refine AWp.seq ?_
  refine zg ?_
  refine zM (zI 0) ?_
  refine zr (zi true) ?_
  refine zN ?_
  refine AWp.cond (b := true) rfl (fun hx => ?_) (fun hx => by cases hx)
  refine AWp.skip ?_
  refine AWp.seq ?_
  refine AWp.block ?_
  refine AWp.region ?_
  refine zM (.str [99, 97, 112, 97, 99, 105, 116, 121]) ?_
  refine zr (Reader.cat rfl rfl rfl (by first | omega | (simp only [List.length_append, List.length_cons, List.length_nil]; omega) | (simp; omega)) (c := [99, 97, 112, 97, 99, 105, 116, 121] ++ [32]) rfl) ?_
  refine zM (zI 0) ?_
  refine zr (zfE Tryz.underlying27 sizeOf_24) ?_
  refine zr (ziE 0 Tryz.underlying24 sizeOf_3) ?_
  refine zr (zlE (zI c.c0) Tryz.underlying3 sizeOf_3) ?_
  refine zc [zI c.c0] Tryz.call39 (rPrintZ c.c0 (by omega) (by omega) M) ?_
  rintro _ _ ⟨rfl, rfl⟩
  refine zr (Reader.cat rfl rfl rfl (by first | omega | (simp only [List.length_append, List.length_cons, List.length_nil]; omega) | (simp; omega)) (c := ([99, 97, 112, 97, 99, 105, 116, 121] ++ [32]) ++ (zW c.c0)) rfl) ?_
  refine zM (.str (([99, 97, 112, 97, 99, 105, 116, 121] ++ [32]) ++ (zW c.c0))) ?_
  refine zN ?_
  refine AWp.region ?_
  refine zM (zI 0) ?_
  refine zr (zd (0 + 1) 1) ?_
  refine zM (zI 1) ?_
  refine zN ?_
  refine AWp.round ?_
  refine AWp.seq ?_
  refine zg ?_
  refine zM (zI 1) ?_
  refine zr (zi true) ?_
  refine zN ?_
  refine AWp.cond (b := true) rfl (fun hx => ?_) (fun hx => by cases hx)
  refine AWp.skip ?_
  refine AWp.seq ?_
  refine AWp.block ?_
  refine AWp.region ?_
  refine zM (.str (([99, 97, 112, 97, 99, 105, 116, 121] ++ [32]) ++ (zW c.c0))) ?_
  refine zr (Reader.cat rfl rfl rfl (by first | omega | (simp only [List.length_append, List.length_cons, List.length_nil]; omega) | (simp; omega)) (c := (([99, 97, 112, 97, 99, 105, 116, 121] ++ [32]) ++ (zW c.c0)) ++ [32]) rfl) ?_
  refine zM (zI 1) ?_
  refine zr (zfE Tryz.underlying27 sizeOf_24) ?_
  refine zr (ziE 1 Tryz.underlying24 sizeOf_3) ?_
  refine zr (zlE (zI c.c1) Tryz.underlying3 sizeOf_3) ?_
  refine zc [zI c.c1] Tryz.call39 (rPrintZ c.c1 (by omega) (by omega) M) ?_
  rintro _ _ ⟨rfl, rfl⟩
  refine zr (Reader.cat rfl rfl rfl (by first | omega | (simp only [List.length_append, List.length_cons, List.length_nil]; omega) | (simp; omega)) (c := ((([99, 97, 112, 97, 99, 105, 116, 121] ++ [32]) ++ (zW c.c0)) ++ [32]) ++ (zW c.c1)) rfl) ?_
  refine zM (.str (((([99, 97, 112, 97, 99, 105, 116, 121] ++ [32]) ++ (zW c.c0)) ++ [32]) ++ (zW c.c1))) ?_
  refine zN ?_
  refine AWp.region ?_
  refine zM (zI 1) ?_
  refine zr (zd (1 + 1) 2) ?_
  refine zM (zI 2) ?_
  refine zN ?_
  refine AWp.round ?_
  refine AWp.seq ?_
  refine zg ?_
  refine zM (zI 2) ?_
  refine zr (zi true) ?_
  refine zN ?_
  refine AWp.cond (b := true) rfl (fun hx => ?_) (fun hx => by cases hx)
  refine AWp.skip ?_
  refine AWp.seq ?_
  refine AWp.block ?_
  refine AWp.region ?_
  refine zM (.str (((([99, 97, 112, 97, 99, 105, 116, 121] ++ [32]) ++ (zW c.c0)) ++ [32]) ++ (zW c.c1))) ?_
  refine zr (Reader.cat rfl rfl rfl (by first | omega | (simp only [List.length_append, List.length_cons, List.length_nil]; omega) | (simp; omega)) (c := (((([99, 97, 112, 97, 99, 105, 116, 121] ++ [32]) ++ (zW c.c0)) ++ [32]) ++ (zW c.c1)) ++ [32]) rfl) ?_
  refine zM (zI 2) ?_
  refine zr (zfE Tryz.underlying27 sizeOf_24) ?_
  refine zr (ziE 2 Tryz.underlying24 sizeOf_3) ?_
  refine zr (zlE (zI c.c2) Tryz.underlying3 sizeOf_3) ?_
  refine zc [zI c.c2] Tryz.call39 (rPrintZ c.c2 (by omega) (by omega) M) ?_
  rintro _ _ ⟨rfl, rfl⟩
  refine zr (Reader.cat rfl rfl rfl (by first | omega | (simp only [List.length_append, List.length_cons, List.length_nil]; omega) | (simp; omega)) (c := ((((([99, 97, 112, 97, 99, 105, 116, 121] ++ [32]) ++ (zW c.c0)) ++ [32]) ++ (zW c.c1)) ++ [32]) ++ (zW c.c2)) rfl) ?_
  refine zM (.str (((((([99, 97, 112, 97, 99, 105, 116, 121] ++ [32]) ++ (zW c.c0)) ++ [32]) ++ (zW c.c1)) ++ [32]) ++ (zW c.c2))) ?_
  refine zN ?_
  refine AWp.region ?_
  refine zM (zI 2) ?_
  refine zr (zd (2 + 1) 3) ?_
  refine zM (zI 3) ?_
  refine zN ?_
  refine AWp.round ?_
  refine AWp.seq ?_
  refine zg ?_
  refine zM (zI 3) ?_
  refine zr (zi false) ?_
  refine zN ?_
  refine AWp.cond (b := false) rfl (fun hx => by cases hx) (fun hx => ?_)
  refine AWp.exit ?_
  refine zg ?_
  refine zM (.str (((((([99, 97, 112, 97, 99, 105, 116, 121] ++ [32]) ++ (zW c.c0)) ++ [32]) ++ (zW c.c1)) ++ [32]) ++ (zW c.c2))) ?_
  refine zr (Reader.cat rfl rfl rfl (by first | omega | (simp only [List.length_append, List.length_cons, List.length_nil]; omega) | (simp; omega)) (c := (((((([99, 97, 112, 97, 99, 105, 116, 121] ++ [32]) ++ (zW c.c0)) ++ [32]) ++ (zW c.c1)) ++ [32]) ++ (zW c.c2)) ++ [10, 97, 108, 108, 111, 99, 97, 116, 97, 98, 108, 101]) rfl) ?_
  refine zM (.str ((((((([99, 97, 112, 97, 99, 105, 116, 121] ++ [32]) ++ (zW c.c0)) ++ [32]) ++ (zW c.c1)) ++ [32]) ++ (zW c.c2)) ++ [10, 97, 108, 108, 111, 99, 97, 116, 97, 98, 108, 101])) ?_
  refine zN ?_
  refine AWp.seq ?_
  refine zg ?_
  refine zM (zI 0) ?_
  refine zN ?_
  refine AWp.block ?_
  refine AWp.unroll 4 ?_
  refine AWp.round ?_
  refine AWp.seq ?_
  refine zg ?_
  refine zM (zI 0) ?_
  refine zr (zi true) ?_
  refine zN ?_
  refine AWp.cond (b := true) rfl (fun hx => ?_) (fun hx => by cases hx)
  refine AWp.skip ?_
  refine AWp.seq ?_
  refine AWp.block ?_
  refine AWp.region ?_
  refine zM (.str ((((((([99, 97, 112, 97, 99, 105, 116, 121] ++ [32]) ++ (zW c.c0)) ++ [32]) ++ (zW c.c1)) ++ [32]) ++ (zW c.c2)) ++ [10, 97, 108, 108, 111, 99, 97, 116, 97, 98, 108, 101])) ?_
  refine zr (Reader.cat rfl rfl rfl (by first | omega | (simp only [List.length_append, List.length_cons, List.length_nil]; omega) | (simp; omega)) (c := ((((((([99, 97, 112, 97, 99, 105, 116, 121] ++ [32]) ++ (zW c.c0)) ++ [32]) ++ (zW c.c1)) ++ [32]) ++ (zW c.c2)) ++ [10, 97, 108, 108, 111, 99, 97, 116, 97, 98, 108, 101]) ++ [32]) rfl) ?_
  refine zM (zI 0) ?_
  refine zr (zfE Tryz.underlying27 sizeOf_24) ?_
  refine zr (ziE 0 Tryz.underlying24 sizeOf_3) ?_
  refine zr (zlE (zI c.a0) Tryz.underlying3 sizeOf_3) ?_
  refine zc [zI c.a0] Tryz.call39 (rPrintZ c.a0 (by omega) (by omega) M) ?_
  rintro _ _ ⟨rfl, rfl⟩
  refine zr (Reader.cat rfl rfl rfl (by first | omega | (simp only [List.length_append, List.length_cons, List.length_nil]; omega) | (simp; omega)) (c := (((((((([99, 97, 112, 97, 99, 105, 116, 121] ++ [32]) ++ (zW c.c0)) ++ [32]) ++ (zW c.c1)) ++ [32]) ++ (zW c.c2)) ++ [10, 97, 108, 108, 111, 99, 97, 116, 97, 98, 108, 101]) ++ [32]) ++ (zW c.a0)) rfl) ?_
  refine zM (.str ((((((((([99, 97, 112, 97, 99, 105, 116, 121] ++ [32]) ++ (zW c.c0)) ++ [32]) ++ (zW c.c1)) ++ [32]) ++ (zW c.c2)) ++ [10, 97, 108, 108, 111, 99, 97, 116, 97, 98, 108, 101]) ++ [32]) ++ (zW c.a0))) ?_
  refine zN ?_
  refine AWp.region ?_
  refine zM (zI 0) ?_
  refine zr (zd (0 + 1) 1) ?_
  refine zM (zI 1) ?_
  refine zN ?_
  refine AWp.round ?_
  refine AWp.seq ?_
  refine zg ?_
  refine zM (zI 1) ?_
  refine zr (zi true) ?_
  refine zN ?_
  refine AWp.cond (b := true) rfl (fun hx => ?_) (fun hx => by cases hx)
  refine AWp.skip ?_
  refine AWp.seq ?_
  refine AWp.block ?_
  refine AWp.region ?_
  refine zM (.str ((((((((([99, 97, 112, 97, 99, 105, 116, 121] ++ [32]) ++ (zW c.c0)) ++ [32]) ++ (zW c.c1)) ++ [32]) ++ (zW c.c2)) ++ [10, 97, 108, 108, 111, 99, 97, 116, 97, 98, 108, 101]) ++ [32]) ++ (zW c.a0))) ?_
  refine zr (Reader.cat rfl rfl rfl (by first | omega | (simp only [List.length_append, List.length_cons, List.length_nil]; omega) | (simp; omega)) (c := ((((((((([99, 97, 112, 97, 99, 105, 116, 121] ++ [32]) ++ (zW c.c0)) ++ [32]) ++ (zW c.c1)) ++ [32]) ++ (zW c.c2)) ++ [10, 97, 108, 108, 111, 99, 97, 116, 97, 98, 108, 101]) ++ [32]) ++ (zW c.a0)) ++ [32]) rfl) ?_
  refine zM (zI 1) ?_
  refine zr (zfE Tryz.underlying27 sizeOf_24) ?_
  refine zr (ziE 1 Tryz.underlying24 sizeOf_3) ?_
  refine zr (zlE (zI c.a1) Tryz.underlying3 sizeOf_3) ?_
  refine zc [zI c.a1] Tryz.call39 (rPrintZ c.a1 (by omega) (by omega) M) ?_
  rintro _ _ ⟨rfl, rfl⟩
  refine zr (Reader.cat rfl rfl rfl (by first | omega | (simp only [List.length_append, List.length_cons, List.length_nil]; omega) | (simp; omega)) (c := (((((((((([99, 97, 112, 97, 99, 105, 116, 121] ++ [32]) ++ (zW c.c0)) ++ [32]) ++ (zW c.c1)) ++ [32]) ++ (zW c.c2)) ++ [10, 97, 108, 108, 111, 99, 97, 116, 97, 98, 108, 101]) ++ [32]) ++ (zW c.a0)) ++ [32]) ++ (zW c.a1)) rfl) ?_
  refine zM (.str ((((((((((([99, 97, 112, 97, 99, 105, 116, 121] ++ [32]) ++ (zW c.c0)) ++ [32]) ++ (zW c.c1)) ++ [32]) ++ (zW c.c2)) ++ [10, 97, 108, 108, 111, 99, 97, 116, 97, 98, 108, 101]) ++ [32]) ++ (zW c.a0)) ++ [32]) ++ (zW c.a1))) ?_
  refine zN ?_
  refine AWp.region ?_
  refine zM (zI 1) ?_
  refine zr (zd (1 + 1) 2) ?_
  refine zM (zI 2) ?_
  refine zN ?_
  refine AWp.round ?_
  refine AWp.seq ?_
  refine zg ?_
  refine zM (zI 2) ?_
  refine zr (zi true) ?_
  refine zN ?_
  refine AWp.cond (b := true) rfl (fun hx => ?_) (fun hx => by cases hx)
  refine AWp.skip ?_
  refine AWp.seq ?_
  refine AWp.block ?_
  refine AWp.region ?_
  refine zM (.str ((((((((((([99, 97, 112, 97, 99, 105, 116, 121] ++ [32]) ++ (zW c.c0)) ++ [32]) ++ (zW c.c1)) ++ [32]) ++ (zW c.c2)) ++ [10, 97, 108, 108, 111, 99, 97, 116, 97, 98, 108, 101]) ++ [32]) ++ (zW c.a0)) ++ [32]) ++ (zW c.a1))) ?_
  refine zr (Reader.cat rfl rfl rfl (by first | omega | (simp only [List.length_append, List.length_cons, List.length_nil]; omega) | (simp; omega)) (c := ((((((((((([99, 97, 112, 97, 99, 105, 116, 121] ++ [32]) ++ (zW c.c0)) ++ [32]) ++ (zW c.c1)) ++ [32]) ++ (zW c.c2)) ++ [10, 97, 108, 108, 111, 99, 97, 116, 97, 98, 108, 101]) ++ [32]) ++ (zW c.a0)) ++ [32]) ++ (zW c.a1)) ++ [32]) rfl) ?_
  refine zM (zI 2) ?_
  refine zr (zfE Tryz.underlying27 sizeOf_24) ?_
  refine zr (ziE 2 Tryz.underlying24 sizeOf_3) ?_
  refine zr (zlE (zI c.a2) Tryz.underlying3 sizeOf_3) ?_
  refine zc [zI c.a2] Tryz.call39 (rPrintZ c.a2 (by omega) (by omega) M) ?_
  rintro _ _ ⟨rfl, rfl⟩
  refine zr (Reader.cat rfl rfl rfl (by first | omega | (simp only [List.length_append, List.length_cons, List.length_nil]; omega) | (simp; omega)) (c := (((((((((((([99, 97, 112, 97, 99, 105, 116, 121] ++ [32]) ++ (zW c.c0)) ++ [32]) ++ (zW c.c1)) ++ [32]) ++ (zW c.c2)) ++ [10, 97, 108, 108, 111, 99, 97, 116, 97, 98, 108, 101]) ++ [32]) ++ (zW c.a0)) ++ [32]) ++ (zW c.a1)) ++ [32]) ++ (zW c.a2)) rfl) ?_
  refine zM (.str ((((((((((((([99, 97, 112, 97, 99, 105, 116, 121] ++ [32]) ++ (zW c.c0)) ++ [32]) ++ (zW c.c1)) ++ [32]) ++ (zW c.c2)) ++ [10, 97, 108, 108, 111, 99, 97, 116, 97, 98, 108, 101]) ++ [32]) ++ (zW c.a0)) ++ [32]) ++ (zW c.a1)) ++ [32]) ++ (zW c.a2))) ?_
  refine zN ?_
  refine AWp.region ?_
  refine zM (zI 2) ?_
  refine zr (zd (2 + 1) 3) ?_
  refine zM (zI 3) ?_
  refine zN ?_
  refine AWp.round ?_
  refine AWp.seq ?_
  refine zg ?_
  refine zM (zI 3) ?_
  refine zr (zi false) ?_
  refine zN ?_
  refine AWp.cond (b := false) rfl (fun hx => by cases hx) (fun hx => ?_)
  refine AWp.exit ?_
  refine zg ?_
  refine zM (.str ((((((((((((([99, 97, 112, 97, 99, 105, 116, 121] ++ [32]) ++ (zW c.c0)) ++ [32]) ++ (zW c.c1)) ++ [32]) ++ (zW c.c2)) ++ [10, 97, 108, 108, 111, 99, 97, 116, 97, 98, 108, 101]) ++ [32]) ++ (zW c.a0)) ++ [32]) ++ (zW c.a1)) ++ [32]) ++ (zW c.a2))) ?_
  refine zr (Reader.cat rfl rfl rfl (by first | omega | (simp only [List.length_append, List.length_cons, List.length_nil]; omega) | (simp; omega)) (c := ((((((((((((([99, 97, 112, 97, 99, 105, 116, 121] ++ [32]) ++ (zW c.c0)) ++ [32]) ++ (zW c.c1)) ++ [32]) ++ (zW c.c2)) ++ [10, 97, 108, 108, 111, 99, 97, 116, 97, 98, 108, 101]) ++ [32]) ++ (zW c.a0)) ++ [32]) ++ (zW c.a1)) ++ [32]) ++ (zW c.a2)) ++ [10]) rfl) ?_
  refine zM (.str (((((((((((((([99, 97, 112, 97, 99, 105, 116, 121] ++ [32]) ++ (zW c.c0)) ++ [32]) ++ (zW c.c1)) ++ [32]) ++ (zW c.c2)) ++ [10, 97, 108, 108, 111, 99, 97, 116, 97, 98, 108, 101]) ++ [32]) ++ (zW c.a0)) ++ [32]) ++ (zW c.a1)) ++ [32]) ++ (zW c.a2)) ++ [10])) ?_
  refine zN ?_
  refine AWp.seq ?_
  refine zg ?_
  refine zM (zI 0) ?_
  refine zN ?_
  refine AWp.block ?_
  refine AWp.loopE [1, 3, 6] [] (fun m s => ∃ (i : Nat), m = c.thr.length - i ∧ s = ⟨[(1, .eptr (encC c) 0), (3, .str (hdT c ++ jT ((thL c).take i))), (6, zI (i : Int))], [], M⟩ ∧ (i ≤ c.thr.length)) ?_ ?_
  · exact ⟨_, 0, rfl, (by rw [show hdT c ++ jT ((thL c).take 0) = hdT c from List.append_nil _]; rfl), Nat.zero_le _⟩
  · rintro _ _ ⟨i, rfl, rfl, hi⟩
    have hjl := jt_len hr hca i
    refine AWp.seq ?_
    refine zg ?_
    refine zM (zI (i : Int)) ?_
    refine zr (zfE Tryz.underlying27 sizeOf_25) ?_
    refine zr (zlE (.list false 40 (c.thr.map encT)) Tryz.underlying25 sizeOf_25) ?_
    refine zr (zL (c.thr.map encT) c.thr.length Tryz.underlying25 (by simp)) ?_
    refine zr (zi (decide ((i : Int) < (c.thr.length : Int)))) ?_
    refine zN ?_
    refine zC (b := decide ((i : Int) < (c.thr.length : Int))) rfl (fun h1 => ?_) (fun h1 => ?_)
    · skip
      have h1' : i < c.thr.length := (by have hh := of_decide_eq_true h1; omega)
      clear h1
      refine AWp.skip ?_
      refine AWp.seq ?_
      refine AWp.block ?_
      refine AWp.region ?_
      refine zM (.str (hdT c ++ jT ((thL c).take i))) ?_
      refine zr (Reader.cat rfl rfl rfl (by first | omega | (simp only [List.length_append, List.length_cons, List.length_nil]; omega) | (simp; omega)) (c := (hdT c ++ jT ((thL c).take i)) ++ [116, 104, 114, 101, 115, 104, 111, 108, 100, 32]) rfl) ?_
      refine zr (zfE Tryz.underlying27 sizeOf_25) ?_
      refine zr (zlE (.list false 40 (c.thr.map encT)) Tryz.underlying25 sizeOf_25) ?_
      refine zM (zI (i : Int)) ?_
      refine zr (zel i (encT (c.thr.getD i t0)) Tryz.underlying25 sizeOf_40 (thr_at (by omega))) ?_
      refine zr (zlE (encT (c.thr.getD i t0)) Tryz.underlying40 sizeOf_40) ?_
      refine zc [encT (c.thr.getD i t0)] Tryz.call40 (rTPrint_any (c.thr.getD i t0) (thr_r hr (by omega)) (hca.thr _ (thr_mem2 (by omega))) M) ?_
      rintro _ _ ⟨rfl, rfl⟩
      refine zr (Reader.cat rfl rfl rfl (by have hpt := printT_le (thr_r hr (i := i) (by omega)) (hca.thr _ (thr_mem2 (by omega))); simp only [List.length_append, List.length_cons, List.length_nil]; omega) (c := ((hdT c ++ jT ((thL c).take i)) ++ [116, 104, 114, 101, 115, 104, 111, 108, 100, 32]) ++ (printT (c.thr.getD i t0))) rfl) ?_
      refine zr (Reader.cat rfl rfl rfl (by have hpt := printT_le (thr_r hr (i := i) (by omega)) (hca.thr _ (thr_mem2 (by omega))); first | omega | (simp only [List.length_append, List.length_cons, List.length_nil]; omega)) (c := hdT c ++ jT ((thL c).take (i + 1))) (cat_thr (by omega))) ?_
      refine zM (.str (hdT c ++ jT ((thL c).take (i + 1)))) ?_
      refine zN ?_
      refine AWp.region ?_
      refine zM (zI (i : Int)) ?_
      refine zr (zw ((i : Int) + 1) ((i + 1 : Nat) : Int)) ?_
      refine zM (zI ((i + 1 : Nat) : Int)) ?_
      refine zN ?_
      exact ⟨_, by omega, i + 1, rfl, rfl, by omega⟩
    · skip
      have h1' : ¬ (i < c.thr.length) := (by have hh := of_decide_eq_false h1; omega)
      clear h1
      refine AWp.exit ?_
      refine AWp.seq (AWp.anyV [1, 3, 6, 39, 2] [] (⟨[(1, .eptr (encC c) 0), (3, .str (hdT c ++ jT ((thL c).take i))), (6, zI (i : Int)), (39, zB (decide ((i : Int) < (c.thr.length : Int)))), (2, .str ((((((((((hdT c ++ jT ((thL c).take i)) ++ [112, 101, 114, 105, 111, 100, 32]) ++ (zW c.per)) ++ [10, 114, 101, 116, 114, 105, 101, 115, 32]) ++ (zW c.ret)) ++ [10, 109, 97, 120, 97, 103, 101, 32]) ++ (zW c.age)) ++ [10, 100, 101, 97, 100, 32]) ++ (zW c.ded)) ++ [10]))], [], M⟩) [[(52, .str (hdT c ++ jT ((thL c).take i)))], [(53, .str ((hdT c ++ jT ((thL c).take i)) ++ [112, 101, 114, 105, 111, 100, 32]))], [(54, .eptr (encC c) 7)], [(55, zI c.per)], [(56, .str (zW c.per))], [(57, .str (((hdT c ++ jT ((thL c).take i)) ++ [112, 101, 114, 105, 111, 100, 32]) ++ (zW c.per)))], [(58, .str ((((hdT c ++ jT ((thL c).take i)) ++ [112, 101, 114, 105, 111, 100, 32]) ++ (zW c.per)) ++ [10, 114, 101, 116, 114, 105, 101, 115, 32]))], [(59, .eptr (encC c) 8)], [(60, zI c.ret)], [(61, .str (zW c.ret))], [(62, .str (((((hdT c ++ jT ((thL c).take i)) ++ [112, 101, 114, 105, 111, 100, 32]) ++ (zW c.per)) ++ [10, 114, 101, 116, 114, 105, 101, 115, 32]) ++ (zW c.ret)))], [(63, .str ((((((hdT c ++ jT ((thL c).take i)) ++ [112, 101, 114, 105, 111, 100, 32]) ++ (zW c.per)) ++ [10, 114, 101, 116, 114, 105, 101, 115, 32]) ++ (zW c.ret)) ++ [10, 109, 97, 120, 97, 103, 101, 32]))], [(64, .eptr (encC c) 9)], [(65, zI c.age)], [(66, .str (zW c.age))], [(67, .str (((((((hdT c ++ jT ((thL c).take i)) ++ [112, 101, 114, 105, 111, 100, 32]) ++ (zW c.per)) ++ [10, 114, 101, 116, 114, 105, 101, 115, 32]) ++ (zW c.ret)) ++ [10, 109, 97, 120, 97, 103, 101, 32]) ++ (zW c.age)))], [(68, .str ((((((((hdT c ++ jT ((thL c).take i)) ++ [112, 101, 114, 105, 111, 100, 32]) ++ (zW c.per)) ++ [10, 114, 101, 116, 114, 105, 101, 115, 32]) ++ (zW c.ret)) ++ [10, 109, 97, 120, 97, 103, 101, 32]) ++ (zW c.age)) ++ [10, 100, 101, 97, 100, 32]))], [(69, .eptr (encC c) 10)], [(70, zI c.ded)], [(71, .str (zW c.ded))], [(72, .str (((((((((hdT c ++ jT ((thL c).take i)) ++ [112, 101, 114, 105, 111, 100, 32]) ++ (zW c.per)) ++ [10, 114, 101, 116, 114, 105, 101, 115, 32]) ++ (zW c.ret)) ++ [10, 109, 97, 120, 97, 103, 101, 32]) ++ (zW c.age)) ++ [10, 100, 101, 97, 100, 32]) ++ (zW c.ded)))], [(73, .str ((((((((((hdT c ++ jT ((thL c).take i)) ++ [112, 101, 114, 105, 111, 100, 32]) ++ (zW c.per)) ++ [10, 114, 101, 116, 114, 105, 101, 115, 32]) ++ (zW c.ret)) ++ [10, 109, 97, 120, 97, 103, 101, 32]) ++ (zW c.age)) ++ [10, 100, 101, 97, 100, 32]) ++ (zW c.ded)) ++ [10]))], [(2, .str ((((((((((hdT c ++ jT ((thL c).take i)) ++ [112, 101, 114, 105, 111, 100, 32]) ++ (zW c.per)) ++ [10, 114, 101, 116, 114, 105, 101, 115, 32]) ++ (zW c.ret)) ++ [10, 109, 97, 120, 97, 103, 101, 32]) ++ (zW c.age)) ++ [10, 100, 101, 97, 100, 32]) ++ (zW c.ded)) ++ [10]))]] [[(3, none, .str (hdT c ++ jT ((thL c).take i)))], [(52, some 0, .str (hdT c ++ jT ((thL c).take i)))], [(1, none, .eptr (encC c) 0)], [(54, some 2, .eptr (encC c) 7)], [(55, some 3, zI c.per)], [(53, some 1, .str ((hdT c ++ jT ((thL c).take i)) ++ [112, 101, 114, 105, 111, 100, 32])), (56, some 4, .str (zW c.per))], [(57, some 5, .str (((hdT c ++ jT ((thL c).take i)) ++ [112, 101, 114, 105, 111, 100, 32]) ++ (zW c.per)))], [(1, none, .eptr (encC c) 0)], [(59, some 7, .eptr (encC c) 8)], [(60, some 8, zI c.ret)], [(58, some 6, .str ((((hdT c ++ jT ((thL c).take i)) ++ [112, 101, 114, 105, 111, 100, 32]) ++ (zW c.per)) ++ [10, 114, 101, 116, 114, 105, 101, 115, 32])), (61, some 9, .str (zW c.ret))], [(62, some 10, .str (((((hdT c ++ jT ((thL c).take i)) ++ [112, 101, 114, 105, 111, 100, 32]) ++ (zW c.per)) ++ [10, 114, 101, 116, 114, 105, 101, 115, 32]) ++ (zW c.ret)))], [(1, none, .eptr (encC c) 0)], [(64, some 12, .eptr (encC c) 9)], [(65, some 13, zI c.age)], [(63, some 11, .str ((((((hdT c ++ jT ((thL c).take i)) ++ [112, 101, 114, 105, 111, 100, 32]) ++ (zW c.per)) ++ [10, 114, 101, 116, 114, 105, 101, 115, 32]) ++ (zW c.ret)) ++ [10, 109, 97, 120, 97, 103, 101, 32])), (66, some 14, .str (zW c.age))], [(67, some 15, .str (((((((hdT c ++ jT ((thL c).take i)) ++ [112, 101, 114, 105, 111, 100, 32]) ++ (zW c.per)) ++ [10, 114, 101, 116, 114, 105, 101, 115, 32]) ++ (zW c.ret)) ++ [10, 109, 97, 120, 97, 103, 101, 32]) ++ (zW c.age)))], [(1, none, .eptr (encC c) 0)], [(69, some 17, .eptr (encC c) 10)], [(70, some 18, zI c.ded)], [(68, some 16, .str ((((((((hdT c ++ jT ((thL c).take i)) ++ [112, 101, 114, 105, 111, 100, 32]) ++ (zW c.per)) ++ [10, 114, 101, 116, 114, 105, 101, 115, 32]) ++ (zW c.ret)) ++ [10, 109, 97, 120, 97, 103, 101, 32]) ++ (zW c.age)) ++ [10, 100, 101, 97, 100, 32])), (71, some 19, .str (zW c.ded))], [(72, some 20, .str (((((((((hdT c ++ jT ((thL c).take i)) ++ [112, 101, 114, 105, 111, 100, 32]) ++ (zW c.per)) ++ [10, 114, 101, 116, 114, 105, 101, 115, 32]) ++ (zW c.ret)) ++ [10, 109, 97, 120, 97, 103, 101, 32]) ++ (zW c.age)) ++ [10, 100, 101, 97, 100, 32]) ++ (zW c.ded)))], [(73, some 21, .str ((((((((((hdT c ++ jT ((thL c).take i)) ++ [112, 101, 114, 105, 111, 100, 32]) ++ (zW c.per)) ++ [10, 114, 101, 116, 114, 105, 101, 115, 32]) ++ (zW c.ret)) ++ [10, 109, 97, 120, 97, 103, 101, 32]) ++ (zW c.age)) ++ [10, 100, 101, 97, 100, 32]) ++ (zW c.ded)) ++ [10]))]] ?_ ?_)
      · skip
        refine hop1 (fun fr h => ?_) ?_
        · obtain ⟨_h0, -⟩ := h
          refine zM (.str (hdT c ++ jT ((thL c).take i))) ?_
          exact zN rfl
        refine hop1 (fun fr h => ?_) ?_
        · obtain ⟨_h0, -⟩ := h
          refine zr (Reader.cat rfl (by first | rfl | assumption) (by first | rfl | assumption) (by first | omega | (simp only [List.length_append, List.length_cons, List.length_nil]; omega) | (simp; omega)) (c := (hdT c ++ jT ((thL c).take i)) ++ [112, 101, 114, 105, 111, 100, 32]) rfl) ?_
          exact zN rfl
        refine hop1 (fun fr h => ?_) ?_
        · obtain ⟨_h0, -⟩ := h
          refine zr (zfE Tryz.underlying27 sizeOf_3) ?_
          exact zN rfl
        refine hop1 (fun fr h => ?_) ?_
        · obtain ⟨_h0, -⟩ := h
          refine zr (zlE (zI c.per) Tryz.underlying3 sizeOf_3) ?_
          exact zN rfl
        refine hop1 (fun fr h => ?_) ?_
        · obtain ⟨_h0, -⟩ := h
          refine zc [zI c.per] Tryz.call39 (rPrintZ c.per (by omega) (by omega) M) ?_
          rintro _ _ ⟨rfl, rfl⟩
          exact zN rfl
        refine hop1 (fun fr h => ?_) ?_
        · obtain ⟨_h0, _h1, -⟩ := h
          refine zr (Reader.cat rfl (by first | rfl | assumption) (by first | rfl | assumption) (by first | omega | (simp only [List.length_append, List.length_cons, List.length_nil]; omega) | (simp; omega)) (c := ((hdT c ++ jT ((thL c).take i)) ++ [112, 101, 114, 105, 111, 100, 32]) ++ (zW c.per)) rfl) ?_
          exact zN rfl
        refine hop1 (fun fr h => ?_) ?_
        · obtain ⟨_h0, -⟩ := h
          refine zr (Reader.cat rfl (by first | rfl | assumption) (by first | rfl | assumption) (by first | omega | (simp only [List.length_append, List.length_cons, List.length_nil]; omega) | (simp; omega)) (c := (((hdT c ++ jT ((thL c).take i)) ++ [112, 101, 114, 105, 111, 100, 32]) ++ (zW c.per)) ++ [10, 114, 101, 116, 114, 105, 101, 115, 32]) rfl) ?_
          exact zN rfl
        refine hop1 (fun fr h => ?_) ?_
        · obtain ⟨_h0, -⟩ := h
          refine zr (zfE Tryz.underlying27 sizeOf_3) ?_
          exact zN rfl
        refine hop1 (fun fr h => ?_) ?_
        · obtain ⟨_h0, -⟩ := h
          refine zr (zlE (zI c.ret) Tryz.underlying3 sizeOf_3) ?_
          exact zN rfl
        refine hop1 (fun fr h => ?_) ?_
        · obtain ⟨_h0, -⟩ := h
          refine zc [zI c.ret] Tryz.call39 (rPrintZ c.ret (by omega) (by omega) M) ?_
          rintro _ _ ⟨rfl, rfl⟩
          exact zN rfl
        refine hop1 (fun fr h => ?_) ?_
        · obtain ⟨_h0, _h1, -⟩ := h
          refine zr (Reader.cat rfl (by first | rfl | assumption) (by first | rfl | assumption) (by first | omega | (simp only [List.length_append, List.length_cons, List.length_nil]; omega) | (simp; omega)) (c := ((((hdT c ++ jT ((thL c).take i)) ++ [112, 101, 114, 105, 111, 100, 32]) ++ (zW c.per)) ++ [10, 114, 101, 116, 114, 105, 101, 115, 32]) ++ (zW c.ret)) rfl) ?_
          exact zN rfl
        refine hop1 (fun fr h => ?_) ?_
        · obtain ⟨_h0, -⟩ := h
          refine zr (Reader.cat rfl (by first | rfl | assumption) (by first | rfl | assumption) (by first | omega | (simp only [List.length_append, List.length_cons, List.length_nil]; omega) | (simp; omega)) (c := (((((hdT c ++ jT ((thL c).take i)) ++ [112, 101, 114, 105, 111, 100, 32]) ++ (zW c.per)) ++ [10, 114, 101, 116, 114, 105, 101, 115, 32]) ++ (zW c.ret)) ++ [10, 109, 97, 120, 97, 103, 101, 32]) rfl) ?_
          exact zN rfl
        refine hop1 (fun fr h => ?_) ?_
        · obtain ⟨_h0, -⟩ := h
          refine zr (zfE Tryz.underlying27 sizeOf_3) ?_
          exact zN rfl
        refine hop1 (fun fr h => ?_) ?_
        · obtain ⟨_h0, -⟩ := h
          refine zr (zlE (zI c.age) Tryz.underlying3 sizeOf_3) ?_
          exact zN rfl
        refine hop1 (fun fr h => ?_) ?_
        · obtain ⟨_h0, -⟩ := h
          refine zc [zI c.age] Tryz.call39 (rPrintZ c.age (by omega) (by omega) M) ?_
          rintro _ _ ⟨rfl, rfl⟩
          exact zN rfl
        refine hop1 (fun fr h => ?_) ?_
        · obtain ⟨_h0, _h1, -⟩ := h
          refine zr (Reader.cat rfl (by first | rfl | assumption) (by first | rfl | assumption) (by first | omega | (simp only [List.length_append, List.length_cons, List.length_nil]; omega) | (simp; omega)) (c := ((((((hdT c ++ jT ((thL c).take i)) ++ [112, 101, 114, 105, 111, 100, 32]) ++ (zW c.per)) ++ [10, 114, 101, 116, 114, 105, 101, 115, 32]) ++ (zW c.ret)) ++ [10, 109, 97, 120, 97, 103, 101, 32]) ++ (zW c.age)) rfl) ?_
          exact zN rfl
        refine hop1 (fun fr h => ?_) ?_
        · obtain ⟨_h0, -⟩ := h
          refine zr (Reader.cat rfl (by first | rfl | assumption) (by first | rfl | assumption) (by first | omega | (simp only [List.length_append, List.length_cons, List.length_nil]; omega) | (simp; omega)) (c := (((((((hdT c ++ jT ((thL c).take i)) ++ [112, 101, 114, 105, 111, 100, 32]) ++ (zW c.per)) ++ [10, 114, 101, 116, 114, 105, 101, 115, 32]) ++ (zW c.ret)) ++ [10, 109, 97, 120, 97, 103, 101, 32]) ++ (zW c.age)) ++ [10, 100, 101, 97, 100, 32]) rfl) ?_
          exact zN rfl
        refine hop1 (fun fr h => ?_) ?_
        · obtain ⟨_h0, -⟩ := h
          refine zr (zfE Tryz.underlying27 sizeOf_3) ?_
          exact zN rfl
        refine hop1 (fun fr h => ?_) ?_
        · obtain ⟨_h0, -⟩ := h
          refine zr (zlE (zI c.ded) Tryz.underlying3 sizeOf_3) ?_
          exact zN rfl
        refine hop1 (fun fr h => ?_) ?_
        · obtain ⟨_h0, -⟩ := h
          refine zc [zI c.ded] Tryz.call39 (rPrintZ c.ded (by omega) (by omega) M) ?_
          rintro _ _ ⟨rfl, rfl⟩
          exact zN rfl
        refine hop1 (fun fr h => ?_) ?_
        · obtain ⟨_h0, _h1, -⟩ := h
          refine zr (Reader.cat rfl (by first | rfl | assumption) (by first | rfl | assumption) (by first | omega | (simp only [List.length_append, List.length_cons, List.length_nil]; omega) | (simp; omega)) (c := ((((((((hdT c ++ jT ((thL c).take i)) ++ [112, 101, 114, 105, 111, 100, 32]) ++ (zW c.per)) ++ [10, 114, 101, 116, 114, 105, 101, 115, 32]) ++ (zW c.ret)) ++ [10, 109, 97, 120, 97, 103, 101, 32]) ++ (zW c.age)) ++ [10, 100, 101, 97, 100, 32]) ++ (zW c.ded)) rfl) ?_
          exact zN rfl
        refine hop1 (fun fr h => ?_) ?_
        · obtain ⟨_h0, -⟩ := h
          refine zr (Reader.cat rfl (by first | rfl | assumption) (by first | rfl | assumption) (by first | omega | (simp only [List.length_append, List.length_cons, List.length_nil]; omega) | (simp; omega)) (c := (((((((((hdT c ++ jT ((thL c).take i)) ++ [112, 101, 114, 105, 111, 100, 32]) ++ (zW c.per)) ++ [10, 114, 101, 116, 114, 105, 101, 115, 32]) ++ (zW c.ret)) ++ [10, 109, 97, 120, 97, 103, 101, 32]) ++ (zW c.age)) ++ [10, 100, 101, 97, 100, 32]) ++ (zW c.ded)) ++ [10]) rfl) ?_
          exact zN rfl
        refine hop1 (fun fr h => ?_) ?_
        · obtain ⟨_h0, -⟩ := h
          refine zM (.str ((((((((((hdT c ++ jT ((thL c).take i)) ++ [112, 101, 114, 105, 111, 100, 32]) ++ (zW c.per)) ++ [10, 114, 101, 116, 114, 105, 101, 115, 32]) ++ (zW c.ret)) ++ [10, 109, 97, 120, 97, 103, 101, 32]) ++ (zW c.age)) ++ [10, 100, 101, 97, 100, 32]) ++ (zW c.ded)) ++ [10])) ?_
          exact zN rfl
        exact hop0
      refine AWp.ret ?_
      exact ⟨.inl rfl, _, ResOf.one 2 (.str ((((((((((hdT c ++ jT ((thL c).take i)) ++ [112, 101, 114, 105, 111, 100, 32]) ++ (zW c.per)) ++ [10, 114, 101, 116, 114, 105, 101, 115, 32]) ++ (zW c.ret)) ++ [10, 109, 97, 120, 97, 103, 101, 32]) ++ (zW c.age)) ++ [10, 100, 101, 97, 100, 32]) ++ (zW c.ded)) ++ [10])) rfl rfl, ⟨congrArg AV.str (by rw [List.take_of_length_le (by rw [thL_len]; omega)]; exact txt_end), rfl⟩⟩
end
section
open Go.RowKit
theorem cra_0 (M : Nat → Option (List AV)) : ACall Tryz.prog 10 [.list false 5 (byteAVs [99, 97, 112, 97, 99, 105, 116, 121, 32, 56, 71, 105, 32, 49, 84, 105, 32, 49, 48, 48, 48, 10, 97, 108, 108, 111, 99, 97, 116, 97, 98, 108, 101, 32, 52, 107, 32, 55, 71, 105, 32, 57, 48, 48, 10, 112, 101, 114, 105, 111, 100, 32, 53, 10, 114, 101, 116, 114, 105, 101, 115, 32, 50, 10, 109, 97, 120, 97, 103, 101, 32, 51, 10, 100, 101, 97, 100, 32, 49, 10, 116, 104, 114, 101, 115, 104, 111, 108, 100, 32, 109, 101, 109, 111, 114, 121, 60, 49, 48, 37, 10])] M (fun r M' => r = .tuple [encC (⟨8589934592, 1099511627776, 1000, 4000, 7516192768, 900, [⟨0, 10, 0, false, 0⟩], 5, 2, 3, 1⟩ : Cfg), .lit (.int .i64 0), .lit (.int .i64 0)] ∧ M = M') := by
  have h := CRead_any [99, 97, 112, 97, 99, 105, 116, 121, 32, 56, 71, 105, 32, 49, 84, 105, 32, 49, 48, 48, 48, 10, 97, 108, 108, 111, 99, 97, 116, 97, 98, 108, 101, 32, 52, 107, 32, 55, 71, 105, 32, 57, 48, 48, 10, 112, 101, 114, 105, 111, 100, 32, 53, 10, 114, 101, 116, 114, 105, 101, 115, 32, 50, 10, 109, 97, 120, 97, 103, 101, 32, 51, 10, 100, 101, 97, 100, 32, 49, 10, 116, 104, 114, 101, 115, 104, 111, 108, 100, 32, 109, 101, 109, 111, 114, 121, 60, 49, 48, 37, 10] (by decide) M
  rw [show cfC [99, 97, 112, 97, 99, 105, 116, 121, 32, 56, 71, 105, 32, 49, 84, 105, 32, 49, 48, 48, 48, 10, 97, 108, 108, 111, 99, 97, 116, 97, 98, 108, 101, 32, 52, 107, 32, 55, 71, 105, 32, 57, 48, 48, 10, 112, 101, 114, 105, 111, 100, 32, 53, 10, 114, 101, 116, 114, 105, 101, 115, 32, 50, 10, 109, 97, 120, 97, 103, 101, 32, 51, 10, 100, 101, 97, 100, 32, 49, 10, 116, 104, 114, 101, 115, 104, 111, 108, 100, 32, 109, 101, 109, 111, 114, 121, 60, 49, 48, 37, 10] = (⟨8589934592, 1099511627776, 1000, 4000, 7516192768, 900, [⟨0, 10, 0, false, 0⟩], 5, 2, 3, 1⟩ : Cfg) from by decide +kernel, show cfN [99, 97, 112, 97, 99, 105, 116, 121, 32, 56, 71, 105, 32, 49, 84, 105, 32, 49, 48, 48, 48, 10, 97, 108, 108, 111, 99, 97, 116, 97, 98, 108, 101, 32, 52, 107, 32, 55, 71, 105, 32, 57, 48, 48, 10, 112, 101, 114, 105, 111, 100, 32, 53, 10, 114, 101, 116, 114, 105, 101, 115, 32, 50, 10, 109, 97, 120, 97, 103, 101, 32, 51, 10, 100, 101, 97, 100, 32, 49, 10, 116, 104, 114, 101, 115, 104, 111, 108, 100, 32, 109, 101, 109, 111, 114, 121, 60, 49, 48, 37, 10] = 0 from by decide +kernel, show cfE [99, 97, 112, 97, 99, 105, 116, 121, 32, 56, 71, 105, 32, 49, 84, 105, 32, 49, 48, 48, 48, 10, 97, 108, 108, 111, 99, 97, 116, 97, 98, 108, 101, 32, 52, 107, 32, 55, 71, 105, 32, 57, 48, 48, 10, 112, 101, 114, 105, 111, 100, 32, 53, 10, 114, 101, 116, 114, 105, 101, 115, 32, 50, 10, 109, 97, 120, 97, 103, 101, 32, 51, 10, 100, 101, 97, 100, 32, 49, 10, 116, 104, 114, 101, 115, 104, 111, 108, 100, 32, 109, 101, 109, 111, 114, 121, 60, 49, 48, 37, 10] = 0 from by decide +kernel] at h
  exact h
theorem cra_1 (M : Nat → Option (List AV)) : ACall Tryz.prog 10 [.list false 5 (byteAVs [112, 101, 114, 105, 111, 100, 32, 53, 10, 10, 112, 101, 114, 105, 111, 100, 32, 53])] M (fun r M' => r = .tuple [encC (⟨0, 0, 0, 0, 0, 0, [], 0, 0, 0, 0⟩ : Cfg), .lit (.int .i64 3), .lit (.int .i64 5)] ∧ M = M') := by
  have h := CRead_any [112, 101, 114, 105, 111, 100, 32, 53, 10, 10, 112, 101, 114, 105, 111, 100, 32, 53] (by decide) M
  rw [show cfC [112, 101, 114, 105, 111, 100, 32, 53, 10, 10, 112, 101, 114, 105, 111, 100, 32, 53] = (⟨0, 0, 0, 0, 0, 0, [], 0, 0, 0, 0⟩ : Cfg) from by decide +kernel, show cfN [112, 101, 114, 105, 111, 100, 32, 53, 10, 10, 112, 101, 114, 105, 111, 100, 32, 53] = 3 from by decide +kernel, show cfE [112, 101, 114, 105, 111, 100, 32, 53, 10, 10, 112, 101, 114, 105, 111, 100, 32, 53] = 5 from by decide +kernel] at h
  exact h
theorem cra_2 (M : Nat → Option (List AV)) : ACall Tryz.prog 10 [.list false 5 (byteAVs [])] M (fun r M' => r = .tuple [encC (⟨0, 0, 0, 0, 0, 0, [], 0, 0, 0, 0⟩ : Cfg), .lit (.int .i64 0), .lit (.int .i64 4)] ∧ M = M') := by
  have h := CRead_any [] (by decide) M
  rw [show cfC [] = (⟨0, 0, 0, 0, 0, 0, [], 0, 0, 0, 0⟩ : Cfg) from by decide +kernel, show cfN [] = 0 from by decide +kernel, show cfE [] = 4 from by decide +kernel] at h
  exact h
theorem cpa_0 (M : Nat → Option (List AV)) : ACall Tryz.prog 15 [encC (⟨8589934592, 1099511627776, 1000, 4000, 7516192768, 900, [⟨0, 10, 0, false, 0⟩], 5, 2, 3, 1⟩ : Cfg)] M (fun r M' => r = .tuple [.str [99, 97, 112, 97, 99, 105, 116, 121, 32, 56, 71, 105, 32, 49, 84, 105, 32, 49, 107, 10, 97, 108, 108, 111, 99, 97, 116, 97, 98, 108, 101, 32, 52, 107, 32, 55, 71, 105, 32, 57, 48, 48, 10, 116, 104, 114, 101, 115, 104, 111, 108, 100, 32, 109, 101, 109, 111, 114, 121, 60, 49, 48, 37, 10, 112, 101, 114, 105, 111, 100, 32, 53, 10, 114, 101, 116, 114, 105, 101, 115, 32, 50, 10, 109, 97, 120, 97, 103, 101, 32, 51, 10, 100, 101, 97, 100, 32, 49, 10], .lit (.int .i64 0)] ∧ M = M') := by
  have h := CPrint_any (⟨8589934592, 1099511627776, 1000, 4000, 7516192768, 900, [⟨0, 10, 0, false, 0⟩], 5, 2, 3, 1⟩ : Cfg) ⟨by decide, by decide, by decide, by decide, by decide, by decide, by decide, by decide, by decide, by decide, by decide⟩ (by decide) M
  rw [show prtC (⟨8589934592, 1099511627776, 1000, 4000, 7516192768, 900, [⟨0, 10, 0, false, 0⟩], 5, 2, 3, 1⟩ : Cfg) = .tuple [.str [99, 97, 112, 97, 99, 105, 116, 121, 32, 56, 71, 105, 32, 49, 84, 105, 32, 49, 107, 10, 97, 108, 108, 111, 99, 97, 116, 97, 98, 108, 101, 32, 52, 107, 32, 55, 71, 105, 32, 57, 48, 48, 10, 116, 104, 114, 101, 115, 104, 111, 108, 100, 32, 109, 101, 109, 111, 114, 121, 60, 49, 48, 37, 10, 112, 101, 114, 105, 111, 100, 32, 53, 10, 114, 101, 116, 114, 105, 101, 115, 32, 50, 10, 109, 97, 120, 97, 103, 101, 32, 51, 10, 100, 101, 97, 100, 32, 49, 10], .lit (.int .i64 0)] from by rw [← prt_ok (by decide +kernel), show textC (⟨8589934592, 1099511627776, 1000, 4000, 7516192768, 900, [⟨0, 10, 0, false, 0⟩], 5, 2, 3, 1⟩ : Cfg) = [99, 97, 112, 97, 99, 105, 116, 121, 32, 56, 71, 105, 32, 49, 84, 105, 32, 49, 107, 10, 97, 108, 108, 111, 99, 97, 116, 97, 98, 108, 101, 32, 52, 107, 32, 55, 71, 105, 32, 57, 48, 48, 10, 116, 104, 114, 101, 115, 104, 111, 108, 100, 32, 109, 101, 109, 111, 114, 121, 60, 49, 48, 37, 10, 112, 101, 114, 105, 111, 100, 32, 53, 10, 114, 101, 116, 114, 105, 101, 115, 32, 50, 10, 109, 97, 120, 97, 103, 101, 32, 51, 10, 100, 101, 97, 100, 32, 49, 10] from by decide +kernel]] at h
  exact h
theorem cpa_1 (M : Nat → Option (List AV)) : ACall Tryz.prog 15 [encC (⟨0, 0, 0, 0, 0, 0, [], 0, 0, 0, 0⟩ : Cfg)] M (fun r M' => r = .tuple [.str [], .lit (.int .i64 1)] ∧ M = M') := by
  have h := CPrint_any (⟨0, 0, 0, 0, 0, 0, [], 0, 0, 0, 0⟩ : Cfg) ⟨by decide, by decide, by decide, by decide, by decide, by decide, by decide, by decide, by decide, by decide, by decide⟩ (by decide) M
  rw [← prt_no (by decide +kernel)] at h
  exact h
theorem cria (M : Nat → Option (List AV)) : ACall Tryz.prog 16 [encC (⟨8589934592, 1099511627776, 1000, 4000, 7516192768, 900, [⟨0, 10, 0, false, 0⟩], 5, 2, 3, 1⟩ : Cfg)] M (fun r M' => r = .lit (.bool true) ∧ M = M') := CRight_any (⟨8589934592, 1099511627776, 1000, 4000, 7516192768, 900, [⟨0, 10, 0, false, 0⟩], 5, 2, 3, 1⟩ : Cfg) (by decide) M
theorem csa (M : Nat → Option (List AV)) : ACall Tryz.prog 17 [encC (⟨8589934592, 1099511627776, 1000, 4000, 7516192768, 900, [⟨0, 10, 0, false, 0⟩], 5, 2, 3, 1⟩ : Cfg), encC (⟨8589934592, 1099511627776, 1000, 4000, 7516192768, 900, [⟨0, 10, 0, false, 0⟩], 5, 2, 3, 1⟩ : Cfg)] M (fun r M' => r = .lit (.bool true) ∧ M = M') := CSame_any (⟨8589934592, 1099511627776, 1000, 4000, 7516192768, 900, [⟨0, 10, 0, false, 0⟩], 5, 2, 3, 1⟩ : Cfg) (⟨8589934592, 1099511627776, 1000, 4000, 7516192768, 900, [⟨0, 10, 0, false, 0⟩], 5, 2, 3, 1⟩ : Cfg) (by decide) M

set_option maxRecDepth 20000 in
theorem cawake_any  (M : Nat → Option (List AV)) : ACall Tryz.prog 9 [] M (fun r M' => r = zB true ∧ M = M') := by
  refine ACall.of Tryz.func9 rfl (n := 95) rfl rfl rfl ?_
  refine zg ?_
  refine zM (zB false) ?_
  refine zN ?_
  refine zg ?_
  refine zbS [] (byteAVs [99, 97, 112, 97, 99, 105, 116, 121, 32, 56, 71, 105, 32, 49, 84, 105, 32, 49, 48, 48, 48, 10, 97, 108, 108, 111, 99, 97, 116, 97, 98, 108, 101, 32, 52, 107, 32, 55, 71, 105, 32, 57, 48, 48, 10, 112, 101, 114, 105, 111, 100, 32, 53, 10, 114, 101, 116, 114, 105, 101, 115, 32, 50, 10, 109, 97, 120, 97, 103, 101, 32, 51, 10, 100, 101, 97, 100, 32, 49, 10, 116, 104, 114, 101, 115, 104, 111, 108, 100, 32, 109, 101, 109, 111, 114, 121, 60, 49, 48, 37, 10]) Tryz.underlying22 Tryz.i5 ?_
  refine AOps.convBytes (xs := (byteAVs [99, 97, 112, 97, 99, 105, 116, 121, 32, 56, 71, 105, 32, 49, 84, 105, 32, 49, 48, 48, 48, 10, 97, 108, 108, 111, 99, 97, 116, 97, 98, 108, 101, 32, 52, 107, 32, 55, 71, 105, 32, 57, 48, 48, 10, 112, 101, 114, 105, 111, 100, 32, 53, 10, 114, 101, 116, 114, 105, 101, 115, 32, 50, 10, 109, 97, 120, 97, 103, 101, 32, 51, 10, 100, 101, 97, 100, 32, 49, 10, 116, 104, 114, 101, 115, 104, 111, 108, 100, 32, 109, 101, 109, 111, 114, 121, 60, 49, 48, 37, 10])) trivial rfl (by decide) rfl Tryz.underlying22 Tryz.underlying5 rfl rfl ?_
  refine zc [.list false 5 (byteAVs [99, 97, 112, 97, 99, 105, 116, 121, 32, 56, 71, 105, 32, 49, 84, 105, 32, 49, 48, 48, 48, 10, 97, 108, 108, 111, 99, 97, 116, 97, 98, 108, 101, 32, 52, 107, 32, 55, 71, 105, 32, 57, 48, 48, 10, 112, 101, 114, 105, 111, 100, 32, 53, 10, 114, 101, 116, 114, 105, 101, 115, 32, 50, 10, 109, 97, 120, 97, 103, 101, 32, 51, 10, 100, 101, 97, 100, 32, 49, 10, 116, 104, 114, 101, 115, 104, 111, 108, 100, 32, 109, 101, 109, 111, 114, 121, 60, 49, 48, 37, 10])] Tryz.call10 (cra_0 M) ?_
  rintro _ _ ⟨rfl, rfl⟩
  refine zM (.tuple [encC (⟨8589934592, 1099511627776, 1000, 4000, 7516192768, 900, [⟨0, 10, 0, false, 0⟩], 5, 2, 3, 1⟩ : Cfg), zI 0, zI 0]) ?_
  refine zr (zx (encC (⟨8589934592, 1099511627776, 1000, 4000, 7516192768, 900, [⟨0, 10, 0, false, 0⟩], 5, 2, 3, 1⟩ : Cfg))) ?_
  refine zr (zx (zI 0)) ?_
  refine zr (zx (zI 0)) ?_
  refine zal [40] zero_27 [zI 0, zI 0, zI 0, zI 0, zI 0, zI 0, .list false 40 [], zI 0, zI 0, zI 0, zI 0] ?_
  refine zst sizeOf_27 (encC (⟨8589934592, 1099511627776, 1000, 4000, 7516192768, 900, [⟨0, 10, 0, false, 0⟩], 5, 2, 3, 1⟩ : Cfg)) ?_
  refine zM (zI 0) ?_
  refine zM (zI 0) ?_
  refine zN ?_
  refine zg ?_
  refine zbS [] (byteAVs [112, 101, 114, 105, 111, 100, 32, 53, 10, 10, 112, 101, 114, 105, 111, 100, 32, 53]) Tryz.underlying22 Tryz.i5 ?_
  refine AOps.convBytes (xs := (byteAVs [112, 101, 114, 105, 111, 100, 32, 53, 10, 10, 112, 101, 114, 105, 111, 100, 32, 53])) trivial rfl (by decide) rfl Tryz.underlying22 Tryz.underlying5 rfl rfl ?_
  refine zc [.list false 5 (byteAVs [112, 101, 114, 105, 111, 100, 32, 53, 10, 10, 112, 101, 114, 105, 111, 100, 32, 53])] Tryz.call10 (cra_1 M) ?_
  rintro _ _ ⟨rfl, rfl⟩
  refine zM (.tuple [encC (⟨0, 0, 0, 0, 0, 0, [], 0, 0, 0, 0⟩ : Cfg), zI 3, zI 5]) ?_
  refine zr (zx (encC (⟨0, 0, 0, 0, 0, 0, [], 0, 0, 0, 0⟩ : Cfg))) ?_
  refine zr (zx (zI 3)) ?_
  refine zr (zx (zI 5)) ?_
  refine zal [40] zero_27 [zI 0, zI 0, zI 0, zI 0, zI 0, zI 0, .list false 40 [], zI 0, zI 0, zI 0, zI 0] ?_
  refine zst sizeOf_27 (encC (⟨0, 0, 0, 0, 0, 0, [], 0, 0, 0, 0⟩ : Cfg)) ?_
  refine zM (zI 3) ?_
  refine zM (zI 5) ?_
  refine zN ?_
  refine zg ?_
  refine zc [.list false 5 (byteAVs ([] : List UInt8))] Tryz.call10 (cra_2 M) ?_
  rintro _ _ ⟨rfl, rfl⟩
  refine zM (.tuple [encC (⟨0, 0, 0, 0, 0, 0, [], 0, 0, 0, 0⟩ : Cfg), zI 0, zI 4]) ?_
  refine zr (zx (encC (⟨0, 0, 0, 0, 0, 0, [], 0, 0, 0, 0⟩ : Cfg))) ?_
  refine zr (zx (zI 0)) ?_
  refine zr (zx (zI 4)) ?_
  refine zal [40] zero_27 [zI 0, zI 0, zI 0, zI 0, zI 0, zI 0, .list false 40 [], zI 0, zI 0, zI 0, zI 0] ?_
  refine zst sizeOf_27 (encC (⟨0, 0, 0, 0, 0, 0, [], 0, 0, 0, 0⟩ : Cfg)) ?_
  refine zM (zI 0) ?_
  refine zM (zI 4) ?_
  refine zN ?_
  refine zg ?_
  refine zr (zlL (.agg [zI 8589934592, zI 1099511627776, zI 1000, zI 4000, zI 7516192768, zI 900, .list false 40 (([⟨0, 10, 0, false, 0⟩] : List Thr).map encT), zI 5, zI 2, zI 3, zI 1]) Tryz.underlying27 sizeOf_27) ?_
  refine zc [encC (⟨8589934592, 1099511627776, 1000, 4000, 7516192768, 900, [⟨0, 10, 0, false, 0⟩], 5, 2, 3, 1⟩ : Cfg)] Tryz.call15 (cpa_0 M) ?_
  rintro _ _ ⟨rfl, rfl⟩
  refine zM (.tuple [.str [99, 97, 112, 97, 99, 105, 116, 121, 32, 56, 71, 105, 32, 49, 84, 105, 32, 49, 107, 10, 97, 108, 108, 111, 99, 97, 116, 97, 98, 108, 101, 32, 52, 107, 32, 55, 71, 105, 32, 57, 48, 48, 10, 116, 104, 114, 101, 115, 104, 111, 108, 100, 32, 109, 101, 109, 111, 114, 121, 60, 49, 48, 37, 10, 112, 101, 114, 105, 111, 100, 32, 53, 10, 114, 101, 116, 114, 105, 101, 115, 32, 50, 10, 109, 97, 120, 97, 103, 101, 32, 51, 10, 100, 101, 97, 100, 32, 49, 10], zI 0]) ?_
  refine zr (zx (.str [99, 97, 112, 97, 99, 105, 116, 121, 32, 56, 71, 105, 32, 49, 84, 105, 32, 49, 107, 10, 97, 108, 108, 111, 99, 97, 116, 97, 98, 108, 101, 32, 52, 107, 32, 55, 71, 105, 32, 57, 48, 48, 10, 116, 104, 114, 101, 115, 104, 111, 108, 100, 32, 109, 101, 109, 111, 114, 121, 60, 49, 48, 37, 10, 112, 101, 114, 105, 111, 100, 32, 53, 10, 114, 101, 116, 114, 105, 101, 115, 32, 50, 10, 109, 97, 120, 97, 103, 101, 32, 51, 10, 100, 101, 97, 100, 32, 49, 10])) ?_
  refine zr (zx (zI 0)) ?_
  refine zM (.str [99, 97, 112, 97, 99, 105, 116, 121, 32, 56, 71, 105, 32, 49, 84, 105, 32, 49, 107, 10, 97, 108, 108, 111, 99, 97, 116, 97, 98, 108, 101, 32, 52, 107, 32, 55, 71, 105, 32, 57, 48, 48, 10, 116, 104, 114, 101, 115, 104, 111, 108, 100, 32, 109, 101, 109, 111, 114, 121, 60, 49, 48, 37, 10, 112, 101, 114, 105, 111, 100, 32, 53, 10, 114, 101, 116, 114, 105, 101, 115, 32, 50, 10, 109, 97, 120, 97, 103, 101, 32, 51, 10, 100, 101, 97, 100, 32, 49, 10]) ?_
  refine zM (zI 0) ?_
  refine zN ?_
  refine zg ?_
  refine zr (Reader.build (xs := []) (Es := [40]) (places := places_27) rfl Tryz.underlying27 (by refine ⟨rfl, fun j p x hp hx => ?_⟩; match j, hp, hx with | _ + 0, hp, hx => cases hp) zero_27 rfl places_27_ok (cs := [zI 0, zI 0, zI 0, zI 0, zI 0, zI 0, .list false 40 [], zI 0, zI 0, zI 0, zI 0]) rfl) ?_
  refine zc [encC (⟨0, 0, 0, 0, 0, 0, [], 0, 0, 0, 0⟩ : Cfg)] Tryz.call15 (cpa_1 M) ?_
  rintro _ _ ⟨rfl, rfl⟩
  refine zM (.tuple [.str [], zI 1]) ?_
  refine zr (zx (.str [])) ?_
  refine zr (zx (zI 1)) ?_
  refine zM (.str []) ?_
  refine zM (zI 1) ?_
  refine zN ?_
  refine zj 0 [(1, .lptr 1 0), (2, zI 0), (3, zI 0), (5, zI 3), (6, zI 5), (9, zI 4), (10, .str [99, 97, 112, 97, 99, 105, 116, 121, 32, 56, 71, 105, 32, 49, 84, 105, 32, 49, 107, 10, 97, 108, 108, 111, 99, 97, 116, 97, 98, 108, 101, 32, 52, 107, 32, 55, 71, 105, 32, 57, 48, 48, 10, 116, 104, 114, 101, 115, 104, 111, 108, 100, 32, 109, 101, 109, 111, 114, 121, 60, 49, 48, 37, 10, 112, 101, 114, 105, 111, 100, 32, 53, 10, 114, 101, 116, 114, 105, 101, 115, 32, 50, 10, 109, 97, 120, 97, 103, 101, 32, 51, 10, 100, 101, 97, 100, 32, 49, 10]), (11, zI 0), (13, zI 1)] [(1, [zI 8589934592, zI 1099511627776, zI 1000, zI 4000, zI 7516192768, zI 900, .list false 40 (([⟨0, 10, 0, false, 0⟩] : List Thr).map encT), zI 5, zI 2, zI 3, zI 1]), (4, [zI 0, zI 0, zI 0, zI 0, zI 0, zI 0, .list false 40 (([] : List Thr).map encT), zI 0, zI 0, zI 0, zI 0]), (7, [zI 0, zI 0, zI 0, zI 0, zI 0, zI 0, .list false 40 (([] : List Thr).map encT), zI 0, zI 0, zI 0, zI 0])] M true ?_ ?_
  · skip
    refine zM (zI 0) ?_
    refine zr (zi true) ?_
    refine zM (zB true) ?_
    refine zM (zI 0) ?_
    refine zr (zi true) ?_
    refine zr (zp true (zB true)) ?_
    refine zM (zB true) ?_
    refine zr (zfL Tryz.underlying27 sizeOf_24) ?_
    refine zr (ziL 0 Tryz.underlying24 sizeOf_3) ?_
    refine zr (zlL (zI 4000) Tryz.underlying3 sizeOf_3) ?_
    refine zr (zi true) ?_
    refine zr (zp true (zB true)) ?_
    refine zM (zB true) ?_
    refine zr (zfL Tryz.underlying27 sizeOf_25) ?_
    refine zr (zlL (.list false 40 (([⟨0, 10, 0, false, 0⟩] : List Thr).map encT)) Tryz.underlying25 sizeOf_25) ?_
    refine zr (zL (([⟨0, 10, 0, false, 0⟩] : List Thr).map encT) 1 Tryz.underlying25 rfl) ?_
    refine zr (zi true) ?_
    refine zr (zp true (zB true)) ?_
    refine zM (zB true) ?_
    refine zM (zI 5) ?_
    refine zr (zi true) ?_
    refine zr (zp true (zB true)) ?_
    refine zM (zB true) ?_
    refine zM (zI 3) ?_
    refine zr (zi true) ?_
    refine zr (zp true (zB true)) ?_
    refine zM (zB true) ?_
    refine zM (zI 4) ?_
    refine zr (zi true) ?_
    refine zr (zp true (zB true)) ?_
    refine zM (zB true) ?_
    refine zM (zI 0) ?_
    refine zr (zi true) ?_
    refine zr (zp true (zB true)) ?_
    refine zM (zB true) ?_
    refine zM (.str [99, 97, 112, 97, 99, 105, 116, 121, 32, 56, 71, 105, 32, 49, 84, 105, 32, 49, 107, 10, 97, 108, 108, 111, 99, 97, 116, 97, 98, 108, 101, 32, 52, 107, 32, 55, 71, 105, 32, 57, 48, 48, 10, 116, 104, 114, 101, 115, 104, 111, 108, 100, 32, 109, 101, 109, 111, 114, 121, 60, 49, 48, 37, 10, 112, 101, 114, 105, 111, 100, 32, 53, 10, 114, 101, 116, 114, 105, 101, 115, 32, 50, 10, 109, 97, 120, 97, 103, 101, 32, 51, 10, 100, 101, 97, 100, 32, 49, 10]) ?_
    refine zr (zS [99, 97, 112, 97, 99, 105, 116, 121, 32, 56, 71, 105, 32, 49, 84, 105, 32, 49, 107, 10, 97, 108, 108, 111, 99, 97, 116, 97, 98, 108, 101, 32, 52, 107, 32, 55, 71, 105, 32, 57, 48, 48, 10, 116, 104, 114, 101, 115, 104, 111, 108, 100, 32, 109, 101, 109, 111, 114, 121, 60, 49, 48, 37, 10, 112, 101, 114, 105, 111, 100, 32, 53, 10, 114, 101, 116, 114, 105, 101, 115, 32, 50, 10, 109, 97, 120, 97, 103, 101, 32, 51, 10, 100, 101, 97, 100, 32, 49, 10] 99 Tryz.underlying9 (by first | rfl | simp)) ?_
    refine zr (zi true) ?_
    refine zr (zp true (zB true)) ?_
    refine zM (zB true) ?_
    refine zM (zI 1) ?_
    refine zr (zi true) ?_
    refine zr (zp true (zB true)) ?_
    refine zM (zB true) ?_
    refine zr (zlL (.agg [zI 8589934592, zI 1099511627776, zI 1000, zI 4000, zI 7516192768, zI 900, .list false 40 (([⟨0, 10, 0, false, 0⟩] : List Thr).map encT), zI 5, zI 2, zI 3, zI 1]) Tryz.underlying27 sizeOf_27) ?_
    refine zc [encC (⟨8589934592, 1099511627776, 1000, 4000, 7516192768, 900, [⟨0, 10, 0, false, 0⟩], 5, 2, 3, 1⟩ : Cfg)] Tryz.call16 (cria M) ?_
    rintro _ _ ⟨rfl, rfl⟩
    refine zr (zp true (zB true)) ?_
    refine zM (zB true) ?_
    refine zr (zlL (.agg [zI 8589934592, zI 1099511627776, zI 1000, zI 4000, zI 7516192768, zI 900, .list false 40 (([⟨0, 10, 0, false, 0⟩] : List Thr).map encT), zI 5, zI 2, zI 3, zI 1]) Tryz.underlying27 sizeOf_27) ?_
    refine zr (zlL (.agg [zI 8589934592, zI 1099511627776, zI 1000, zI 4000, zI 7516192768, zI 900, .list false 40 (([⟨0, 10, 0, false, 0⟩] : List Thr).map encT), zI 5, zI 2, zI 3, zI 1]) Tryz.underlying27 sizeOf_27) ?_
    refine zc [encC (⟨8589934592, 1099511627776, 1000, 4000, 7516192768, 900, [⟨0, 10, 0, false, 0⟩], 5, 2, 3, 1⟩ : Cfg), encC (⟨8589934592, 1099511627776, 1000, 4000, 7516192768, 900, [⟨0, 10, 0, false, 0⟩], 5, 2, 3, 1⟩ : Cfg)] Tryz.call17 (csa M) ?_
    rintro _ _ ⟨rfl, rfl⟩
    refine zr (zp true (zB true)) ?_
    refine zM (zB true) ?_
    exact AOps.nil rfl
  refine AWp.ret ?_
  exact ⟨.inl rfl, _, ResOf.one 0 (zB true) rfl rfl, ⟨rfl, rfl⟩⟩

set_option maxRecDepth 20000 in
theorem few_any (c : Cfg) (M : Nat → Option (List AV)) : ACall Tryz.prog 14 [encC c] M (fun r M' => r = zB (decide ((c.thr.length : Int) ≤ 30)) ∧ M = M') := by
  refine ACall.of Tryz.func14 rfl (n := 7) rfl rfl rfl ?_
  refine zg ?_
  refine AOps.box trivial rfl (by decide) rfl (noL rfl) rfl (v := encC c) (.inl ⟨rfl, rfl⟩) rfl rfl (all_flat rfl) ?_
  refine AOps.freezeK 1 [0, 1] [] (s' := ⟨[(0, encC c), (1, .eptr (encC c) 0)], [], M⟩) rfl rfl rfl ?_
  refine zM (zB false) ?_
  refine zN ?_
  refine zg ?_
  refine zr (zfE Tryz.underlying27 sizeOf_25) ?_
  refine zr (zlE (.list false 40 (c.thr.map encT)) Tryz.underlying25 sizeOf_25) ?_
  refine zr (zL (c.thr.map encT) c.thr.length Tryz.underlying25 (by simp)) ?_
  refine zr (zi (decide ((c.thr.length : Int) ≤ 30))) ?_
  refine zM (zB (decide ((c.thr.length : Int) ≤ 30))) ?_
  refine zN ?_
  refine AWp.ret ?_
  exact ⟨.inl rfl, _, ResOf.one 2 (zB (decide ((c.thr.length : Int) ≤ 30))) rfl rfl, ⟨rfl, rfl⟩⟩
end
section
open Go.RowKit
theorem cfC_right {b : List UInt8} (h : cfE b = 0) : RightC (cfC b) := by
  have h2 := h
  unfold cfE at h2
  unfold cfC
  rw [if_pos h]
  split at h2
  · cases h2
  · split at h2
    · rename_i h3; exact absurd h2 h3
    · split at h2
      · cases h2
      · split at h2
        · assumption
        · cases h2
theorem cfC_len (b : List UInt8) : (cfC b).thr.length ≤ 12 := by
  by_cases h : cfE b = 0
  · exact (cfC_right h).2.2.2.2.2.2.2.2.1
  · unfold cfC; rw [if_neg h]; exact Nat.zero_le _
theorem creads_ok {b : List UInt8} : (bif ((cfE b) == (cfE b)) then (bif (((cfN b : Nat) : Int) == ((cfN b : Nat) : Int)) then (bif (decide ((cfC b) = (cfC b))) then (bif ((cfE b) != 0) then true else (decide (RightC (cfC b)))) else false) else false) else false) = true := by
  by_cases h : cfE b = 0
  · simp [h, cfC_right h]
  · simp [h]

set_option maxRecDepth 20000 in
theorem ConfReads_any (b : List UInt8) (M : Nat → Option (List AV)) : ACall Tryz.prog 3 [.list false 5 (byteAVs b)] M (fun r M' => r = zB true ∧ M = M') := by
  have hcl := cfC_len b
  refine ACall.of Tryz.func3 rfl (n := 50) rfl rfl rfl ?_
  refine zg ?_
  refine zM (zB false) ?_
  refine zN ?_
  refine AWp.seq ?_
  refine zj 15 [(0, .list false 5 (byteAVs b)), (2, zB false)] [] M (decide ((b.length : Int) > 4000)) ?_ ?_
  · skip
    refine zc [] Tryz.call9 (cawake_any M) ?_
    rintro _ _ ⟨rfl, rfl⟩
    refine zr (zn true) ?_
    refine zM (zB false) ?_
    refine zM (.list false 5 (byteAVs b)) ?_
    refine zr (zL (byteAVs b) b.length Tryz.underlying22 (byteAVs_len _)) ?_
    refine zr (zi (decide ((b.length : Int) > 4000))) ?_
    refine zr (zp false (zB (decide ((b.length : Int) > 4000)))) ?_
    exact AOps.nil rfl
  refine zC (b := decide ((b.length : Int) > 4000)) rfl (fun h1 => ?_) (fun h1 => ?_)
  · skip
    have h1' : (b.length : Int) > 4000 := (of_decide_eq_true h1)
    clear h1
    refine zg ?_
    refine zc [] Tryz.call9 (cawake_any M) ?_
    rintro _ _ ⟨rfl, rfl⟩
    refine zM (zB true) ?_
    refine zN ?_
    refine AWp.ret ?_
    exact ⟨.inl rfl, _, ResOf.one 2 (zB true) rfl rfl, ⟨rfl, rfl⟩⟩
  · skip
    have h1' : ¬ ((b.length : Int) > 4000) := (of_decide_eq_false h1)
    clear h1
    refine AWp.skip ?_
    refine zg ?_
    refine zM (.list false 5 (byteAVs b)) ?_
    refine zc [.list false 5 (byteAVs b)] Tryz.call10 (CRead_any b (by first | assumption | omega) M) ?_
    rintro _ _ ⟨rfl, rfl⟩
    refine zM (.tuple [encC (cfC b), zI ((cfN b : Nat) : Int), zI (cfE b)]) ?_
    refine zr (zx (encC (cfC b))) ?_
    refine zr (zx (zI ((cfN b : Nat) : Int))) ?_
    refine zr (zx (zI (cfE b))) ?_
    refine zal [40] zero_27 [zI 0, zI 0, zI 0, zI 0, zI 0, zI 0, .list false 40 [], zI 0, zI 0, zI 0, zI 0] ?_
    refine zst sizeOf_27 (encC (cfC b)) ?_
    refine zM (zI ((cfN b : Nat) : Int)) ?_
    refine zM (zI (cfE b)) ?_
    refine zN ?_
    refine zg ?_
    refine zM (.list false 5 (byteAVs b)) ?_
    refine zc [.list false 5 (byteAVs b)] Tryz.call11 (RRead_any b (by first | assumption | omega) M) ?_
    rintro _ _ ⟨rfl, rfl⟩
    refine zM (.tuple [encC (cfC b), zI ((cfN b : Nat) : Int), zI (cfE b)]) ?_
    refine zr (zx (encC (cfC b))) ?_
    refine zr (zx (zI ((cfN b : Nat) : Int))) ?_
    refine zr (zx (zI (cfE b))) ?_
    refine zal [40] zero_27 [zI 0, zI 0, zI 0, zI 0, zI 0, zI 0, .list false 40 [], zI 0, zI 0, zI 0, zI 0] ?_
    refine zst sizeOf_27 (encC (cfC b)) ?_
    refine zM (zI ((cfN b : Nat) : Int)) ?_
    refine zM (zI (cfE b)) ?_
    refine zN ?_
    refine zj 2 [(15, zB (decide ((b.length : Int) > 4000))), (0, .list false 5 (byteAVs b)), (3, .lptr 3 0), (4, zI ((cfN b : Nat) : Int)), (5, zI (cfE b)), (6, .lptr 6 0), (7, zI ((cfN b : Nat) : Int)), (8, zI (cfE b))] [(3, [zI ((cfC b).c0), zI ((cfC b).c1), zI ((cfC b).c2), zI ((cfC b).a0), zI ((cfC b).a1), zI ((cfC b).a2), .list false 40 (((cfC b).thr).map encT), zI ((cfC b).per), zI ((cfC b).ret), zI ((cfC b).age), zI ((cfC b).ded)]), (6, [zI ((cfC b).c0), zI ((cfC b).c1), zI ((cfC b).c2), zI ((cfC b).a0), zI ((cfC b).a1), zI ((cfC b).a2), .list false 40 (((cfC b).thr).map encT), zI ((cfC b).per), zI ((cfC b).ret), zI ((cfC b).age), zI ((cfC b).ded)])] M (bif ((cfE b) == (cfE b)) then (bif (((cfN b : Nat) : Int) == ((cfN b : Nat) : Int)) then (bif (decide ((cfC b) = (cfC b))) then (bif ((cfE b) != 0) then true else (decide (RightC (cfC b)))) else false) else false) else false) ?_ ?_
    · skip
      refine zM (zI (cfE b)) ?_
      refine zM (zI (cfE b)) ?_
      refine zr (zi ((cfE b) == (cfE b))) ?_
      refine zM (zB ((cfE b) == (cfE b))) ?_
      refine AOps.splitJ (t := 32) (b := (cfE b) == (cfE b)) (x := (bif (((cfN b : Nat) : Int) == ((cfN b : Nat) : Int)) then (bif (decide ((cfC b) = (cfC b))) then (bif ((cfE b) != 0) then true else (decide (RightC (cfC b)))) else false) else false)) (y := false) rfl (fun h2 => ?_) (fun h2 => ?_)
      · skip
        have h2' : (cfE b) = (cfE b) := (by have hh := eq_of_beq h2; omega)
        clear h2
        refine zM (zI ((cfN b : Nat) : Int)) ?_
        refine zM (zI ((cfN b : Nat) : Int)) ?_
        refine zr (zi (((cfN b : Nat) : Int) == ((cfN b : Nat) : Int))) ?_
        refine zr (zp true (zB (((cfN b : Nat) : Int) == ((cfN b : Nat) : Int)))) ?_
        refine zM (zB (((cfN b : Nat) : Int) == ((cfN b : Nat) : Int))) ?_
        refine AOps.splitJ (t := 37) (b := ((cfN b : Nat) : Int) == ((cfN b : Nat) : Int)) (x := (bif (decide ((cfC b) = (cfC b))) then (bif ((cfE b) != 0) then true else (decide (RightC (cfC b)))) else false)) (y := false) rfl (fun h3 => ?_) (fun h3 => ?_)
        · skip
          have h3' : (cfN b) = (cfN b) := (by have hh := eq_of_beq h3; omega)
          clear h3
          refine zr (zlL (.agg [zI ((cfC b).c0), zI ((cfC b).c1), zI ((cfC b).c2), zI ((cfC b).a0), zI ((cfC b).a1), zI ((cfC b).a2), .list false 40 (((cfC b).thr).map encT), zI ((cfC b).per), zI ((cfC b).ret), zI ((cfC b).age), zI ((cfC b).ded)]) Tryz.underlying27 sizeOf_27) ?_
          refine zr (zlL (.agg [zI ((cfC b).c0), zI ((cfC b).c1), zI ((cfC b).c2), zI ((cfC b).a0), zI ((cfC b).a1), zI ((cfC b).a2), .list false 40 (((cfC b).thr).map encT), zI ((cfC b).per), zI ((cfC b).ret), zI ((cfC b).age), zI ((cfC b).ded)]) Tryz.underlying27 sizeOf_27) ?_
          refine zc [encC (cfC b), encC (cfC b)] Tryz.call12 (RSame_any (cfC b) (cfC b) (by first | omega | (simp only [List.length_nil]; omega) | assumption) M) ?_
          rintro _ _ ⟨rfl, rfl⟩
          refine zr (zp true (zB (decide ((cfC b) = (cfC b))))) ?_
          refine zM (zB (decide ((cfC b) = (cfC b)))) ?_
          refine AOps.splitJ (t := 42) (b := decide ((cfC b) = (cfC b))) (x := (bif ((cfE b) != 0) then true else (decide (RightC (cfC b))))) (y := false) rfl (fun h4 => ?_) (fun h4 => ?_)
          · skip
            have h4' : (cfC b) = (cfC b) := (of_decide_eq_true h4)
            clear h4
            refine zM (zI (cfE b)) ?_
            refine zr (zi ((cfE b) != 0)) ?_
            refine zM (zB ((cfE b) != 0)) ?_
            refine AOps.splitJ (t := 45) (b := (cfE b) != 0) (x := true) (y := (decide (RightC (cfC b)))) rfl (fun h5 => ?_) (fun h5 => ?_)
            · skip
              have h5' : (cfE b) ≠ 0 := (by have hh := bne_iff_ne.1 h5; omega)
              clear h5
              refine zs ?_
              refine zs ?_
              refine zr (zp true (zB true)) ?_
              refine zr (zp true (zB true)) ?_
              refine zM (zB true) ?_
              exact AOps.nil rfl
            · skip
              have h5' : ¬ ((cfE b) ≠ 0) := (by have hh := bne_eq_false_iff_eq.1 h5; omega)
              clear h5
              refine zr (zlL (.agg [zI ((cfC b).c0), zI ((cfC b).c1), zI ((cfC b).c2), zI ((cfC b).a0), zI ((cfC b).a1), zI ((cfC b).a2), .list false 40 (((cfC b).thr).map encT), zI ((cfC b).per), zI ((cfC b).ret), zI ((cfC b).age), zI ((cfC b).ded)]) Tryz.underlying27 sizeOf_27) ?_
              refine zc [encC (cfC b)] Tryz.call13 (RRight_any (cfC b) (by first | omega | (simp only [List.length_nil]; omega) | assumption) M) ?_
              rintro _ _ ⟨rfl, rfl⟩
              refine zr (zp false (zB (decide (RightC (cfC b))))) ?_
              refine zr (zp true (zB (decide (RightC (cfC b))))) ?_
              refine zM (zB (decide (RightC (cfC b)))) ?_
              exact AOps.nil rfl
          · skip
            have h4' : ¬ (cfC b) = (cfC b) := (of_decide_eq_false h4)
            clear h4
            refine zs ?_
            refine zs ?_
            refine zs ?_
            refine zs ?_
            refine zs ?_
            refine zs ?_
            refine zr (zp false (zB false)) ?_
            refine zM (zB false) ?_
            exact AOps.nil rfl
        · skip
          have h3' : ¬ ((cfN b) = (cfN b)) := (by have hh := beq_eq_false_iff_ne.1 h3; omega)
          clear h3
          refine zs ?_
          refine zs ?_
          refine zs ?_
          refine zr (zp false (zB false)) ?_
          refine zM (zB false) ?_
          refine zs ?_
          refine zs ?_
          refine zs ?_
          refine zs ?_
          refine zs ?_
          refine zs ?_
          refine zr (zp false (zB false)) ?_
          refine zM (zB false) ?_
          exact AOps.nil rfl
      · skip
        have h2' : ¬ ((cfE b) = (cfE b)) := (by have hh := beq_eq_false_iff_ne.1 h2; omega)
        clear h2
        refine zs ?_
        refine zs ?_
        refine zs ?_
        refine zr (zp false (zB false)) ?_
        refine zM (zB false) ?_
        refine zs ?_
        refine zs ?_
        refine zs ?_
        refine zr (zp false (zB false)) ?_
        refine zM (zB false) ?_
        refine zs ?_
        refine zs ?_
        refine zs ?_
        refine zs ?_
        refine zs ?_
        refine zs ?_
        refine zr (zp false (zB false)) ?_
        refine zM (zB false) ?_
        exact AOps.nil rfl
    refine AWp.ret ?_
    exact ⟨.inl rfl, _, ResOf.one 2 (zB (bif ((cfE b) == (cfE b)) then (bif (((cfN b : Nat) : Int) == ((cfN b : Nat) : Int)) then (bif (decide ((cfC b) = (cfC b))) then (bif ((cfE b) != 0) then true else (decide (RightC (cfC b)))) else false) else false) else false)) rfl rfl, ⟨congrArg (fun b => AV.lit (.bool b)) (creads_ok), rfl⟩⟩
end
end Go.Proofs.YtmmfkpbkacfegaaGreatDoor
