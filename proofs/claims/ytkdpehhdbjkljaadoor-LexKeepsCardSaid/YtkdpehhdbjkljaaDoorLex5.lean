/- Walks over abstract values, printed by my program av.py. -/
import Derived.Test.YtkdpehhdbjkljaaDoorLex4
namespace Go.Proofs.YtkdpehhdbjkljaaDoor
open Go.RowKit

def L0 : List (List Field) := [[⟨[97], 1, 1⟩, ⟨[98], 1, 4⟩], [⟨[100], 3, 2⟩]]
theorem lex_a : lexLines [97, 32, 32, 98, 32, 35, 32, 99, 10, 10, 32, 100] = L0 := by decide +kernel
theorem rd_a : readableB [97, 32, 32, 98, 32, 35, 32, 99, 10, 10, 32, 100] = true := by decide +kernel
theorem rd_b : readableB [0] = false := by decide +kernel
theorem lex_b : lexLines [0] = [] := by simp [lexLines, rd_b]
theorem join_a : joinT L0 = [97, 32, 98, 10, 100, 10] := by decide +kernel
theorem lines_a (M : Nat → Option (List AV)) : ACall Tryd.prog 15 [.list false 5 (byteAVs [97, 32, 32, 98, 32, 35, 32, 99, 10, 10, 32, 100])] M (fun r M' => r = .tuple [.list true 31 (L0.map encL), .lit (.int .i64 0)] ∧ M = M') := by
  have h := lines_any [97, 32, 32, 98, 32, 35, 32, 99, 10, 10, 32, 100] (by decide) M
  rw [lex_a, errI, rd_a] at h
  exact h
theorem lines_b (M : Nat → Option (List AV)) : ACall Tryd.prog 15 [.list false 5 (byteAVs [0])] M (fun r M' => r = .tuple [.list true 31 [], .lit (.int .i64 2)] ∧ M = M') := by
  have h := lines_any [0] (by decide) M
  rw [lex_b, errI, rd_b] at h
  exact h
theorem small_L0 : Small L0 := ⟨by decide, fun i => by match i with | 0 => decide | 1 => decide | i + 2 => exact Nat.zero_le _⟩
theorem join_a2 (M : Nat → Option (List AV)) : ACall Tryd.prog 19 [.list false 31 (L0.map encL)] M (fun r M' => r = .str [97, 32, 98, 10, 100, 10] ∧ M = M') := by
  have h := join_any L0 small_L0 (fun i k h1 h2 => by
    match i, k, h1, h2 with
    | 0, 0, _, _ => decide
    | 0, 1, _, _ => decide
    | 1, 0, _, _ => decide
    | 0, k + 2, _, h2 => exact absurd h2 (by simp [L0])
    | 1, k + 1, _, h2 => exact absurd h2 (by simp [L0])
    | i + 2, _, h1, _ => exact absurd h1 (by simp [L0])) (by rw [join_a]; decide) M
  rw [join_a] at h
  exact h

set_option maxRecDepth 20000 in
theorem awake_any  (M : Nat → Option (List AV)) : ACall Tryd.prog 14 [] M (fun r M' => r = .lit (.bool true) ∧ M = M') := by
  refine ACall.of Tryd.func14 rfl (n := 57) rfl rfl rfl ?_
  refine AWp.seq (AWp.region ?_)
  refine AOps.read trivial rfl (by decide) (Reader.move (.inr rfl) (ok_const rfl) (v := .lit (.bool false)) rfl) ?_
  refine AOps.nil ?_
  refine AWp.seq (AWp.region ?_)
  refine AOps.buildSlice (ys := [(0, .lit (.int .u8 97)), (1, .lit (.int .u8 32)), (2, .lit (.int .u8 32)), (3, .lit (.int .u8 98)), (4, .lit (.int .u8 32)), (5, .lit (.int .u8 35)), (6, .lit (.int .u8 32)), (7, .lit (.int .u8 99)), (8, .lit (.int .u8 10)), (9, .lit (.int .u8 10)), (10, .lit (.int .u8 32)), (11, .lit (.int .u8 100))]) (Es := []) (cs := [.lit (.int .u8 97), .lit (.int .u8 32), .lit (.int .u8 32), .lit (.int .u8 98), .lit (.int .u8 32), .lit (.int .u8 35), .lit (.int .u8 32), .lit (.int .u8 99), .lit (.int .u8 10), .lit (.int .u8 10), .lit (.int .u8 32), .lit (.int .u8 100)]) (xs := (byteAVs [97, 32, 32, 98, 32, 35, 32, 99, 10, 10, 32, 100])) trivial rfl (by decide) rfl Tryd.underlying22 Tryd.i5 rfl rfl rfl (by decide) (by refine ⟨rfl, fun j p x hp hx => ?_⟩; match j, hp, hx with | 0, hp, hx => cases hp; cases hx; exact ⟨rfl, .inl ⟨rfl, rfl⟩, rfl, rfl⟩ | 1, hp, hx => cases hp; cases hx; exact ⟨rfl, .inl ⟨rfl, rfl⟩, rfl, rfl⟩ | 2, hp, hx => cases hp; cases hx; exact ⟨rfl, .inl ⟨rfl, rfl⟩, rfl, rfl⟩ | 3, hp, hx => cases hp; cases hx; exact ⟨rfl, .inl ⟨rfl, rfl⟩, rfl, rfl⟩ | 4, hp, hx => cases hp; cases hx; exact ⟨rfl, .inl ⟨rfl, rfl⟩, rfl, rfl⟩ | 5, hp, hx => cases hp; cases hx; exact ⟨rfl, .inl ⟨rfl, rfl⟩, rfl, rfl⟩ | 6, hp, hx => cases hp; cases hx; exact ⟨rfl, .inl ⟨rfl, rfl⟩, rfl, rfl⟩ | 7, hp, hx => cases hp; cases hx; exact ⟨rfl, .inl ⟨rfl, rfl⟩, rfl, rfl⟩ | 8, hp, hx => cases hp; cases hx; exact ⟨rfl, .inl ⟨rfl, rfl⟩, rfl, rfl⟩ | 9, hp, hx => cases hp; cases hx; exact ⟨rfl, .inl ⟨rfl, rfl⟩, rfl, rfl⟩ | 10, hp, hx => cases hp; cases hx; exact ⟨rfl, .inl ⟨rfl, rfl⟩, rfl, rfl⟩ | 11, hp, hx => cases hp; cases hx; exact ⟨rfl, .inl ⟨rfl, rfl⟩, rfl, rfl⟩ | _ + 12, hp, hx => cases hp) rfl rfl rfl (all_len rfl) (all_sc rfl) rfl ?_
  refine AOps.convBytes (xs := (byteAVs [97, 32, 32, 98, 32, 35, 32, 99, 10, 10, 32, 100])) trivial rfl (by decide) rfl Tryd.underlying22 Tryd.underlying5 rfl rfl ?_
  refine AOps.call (args := [.list false 5 (byteAVs [97, 32, 32, 98, 32, 35, 32, 99, 10, 10, 32, 100])]) trivial rfl (by decide) rfl rfl Tryd.call15 (args_ok rfl) rfl (by intro j x v hx hv; match j, hx, hv with | 0, hx, hv => cases hx; cases hv; exact .inl ⟨rfl, rfl⟩ | _ + 1, hx, hv => cases hx) (lines_a M) ?_
  rintro _ _ ⟨rfl, rfl⟩
  refine AOps.read trivial rfl (by decide) (Reader.move (.inl rfl) (ok_const rfl) (v := .tuple [.list false 31 (L0.map encL), .lit (.int .i64 0)]) rfl) ?_
  refine AOps.read trivial rfl (by decide) (Reader.extract (v := .list false 31 (L0.map encL)) rfl rfl rfl rfl) ?_
  refine AOps.read trivial rfl (by decide) (Reader.extract (v := .lit (.int .i64 0)) rfl rfl rfl rfl) ?_
  refine AOps.read trivial rfl (by decide) (Reader.move (.inr rfl) (ok_const rfl) (v := .list false 31 (L0.map encL)) rfl) ?_
  refine AOps.read trivial rfl (by decide) (Reader.move (.inr rfl) (ok_const rfl) (v := .lit (.int .i64 0)) rfl) ?_
  refine AOps.nil ?_
  refine AWp.seq (AWp.region ?_)
  refine AOps.buildSlice (ys := [(0, .lit (.int .u8 0))]) (Es := []) (cs := [.lit (.int .u8 0)]) (xs := (byteAVs [0])) trivial rfl (by decide) rfl Tryd.underlying22 Tryd.i5 rfl rfl rfl (by decide) (by refine ⟨rfl, fun j p x hp hx => ?_⟩; match j, hp, hx with | 0, hp, hx => cases hp; cases hx; exact ⟨rfl, .inl ⟨rfl, rfl⟩, rfl, rfl⟩ | _ + 1, hp, hx => cases hp) rfl rfl rfl (all_len rfl) (all_sc rfl) rfl ?_
  refine AOps.call (args := [.list false 5 (byteAVs [0])]) trivial rfl (by decide) rfl rfl Tryd.call15 (args_ok rfl) rfl (by intro j x v hx hv; match j, hx, hv with | 0, hx, hv => cases hx; cases hv; exact .inl ⟨rfl, rfl⟩ | _ + 1, hx, hv => cases hx) (lines_b M) ?_
  rintro _ _ ⟨rfl, rfl⟩
  refine AOps.read trivial rfl (by decide) (Reader.move (.inl rfl) (ok_const rfl) (v := .tuple [.list false 31 [], .lit (.int .i64 2)]) rfl) ?_
  refine AOps.read trivial rfl (by decide) (Reader.extract (v := .list false 31 []) rfl rfl rfl rfl) ?_
  refine AOps.read trivial rfl (by decide) (Reader.extract (v := .lit (.int .i64 2)) rfl rfl rfl rfl) ?_
  refine AOps.read trivial rfl (by decide) (Reader.move (.inr rfl) (ok_const rfl) (v := .list false 31 []) rfl) ?_
  refine AOps.read trivial rfl (by decide) (Reader.move (.inr rfl) (ok_const rfl) (v := .lit (.int .i64 2)) rfl) ?_
  refine AOps.nil ?_
  refine AWp.regionJ [0, 1, 2, 4] [] (fun z => ⟨(0, .lit (.bool z)) :: [(1, .list false 31 (L0.map encL)), (2, .lit (.int .i64 0)), (4, .lit (.int .i64 2))], [], M⟩) (z := true) ?_ ?_
  · skip
    refine AOps.read trivial rfl (by decide) (Reader.move (.inl rfl) (ok_const rfl) (v := .lit (.int .i64 0)) rfl) ?_
    refine AOps.read trivial rfl (by decide) (Reader.int rfl rfl rfl (r := .bool true) rfl) ?_
    refine AOps.read trivial rfl (by decide) (Reader.move (.inl rfl) (ok_const rfl) (v := .lit (.bool true)) rfl) ?_
    refine AOps.read ⟨18, rfl, rfl⟩ rfl (by decide) (Reader.move (.inl rfl) (ok_const rfl) (v := .list false 31 (L0.map encL)) rfl) ?_
    refine AOps.read ⟨18, rfl, rfl⟩ rfl (by decide) (Reader.len' (xs := L0.map encL) rfl rfl rfl rfl Tryd.underlying24 rfl (m := 2) rfl) ?_
    refine AOps.read ⟨18, rfl, rfl⟩ rfl (by decide) (Reader.int rfl rfl rfl (r := .bool true) rfl) ?_
    refine AOps.read trivial rfl (by decide) (Reader.pick rfl (b := true) rfl (ok_const rfl) (ok_const rfl) (v := .lit (.bool true)) rfl) ?_
    refine AOps.read trivial rfl (by decide) (Reader.move (.inl rfl) (ok_const rfl) (v := .lit (.bool true)) rfl) ?_
    refine AOps.read ⟨23, rfl, rfl⟩ rfl (by decide) (Reader.move (.inl rfl) (ok_const rfl) (v := .list false 31 (L0.map encL)) rfl) ?_
    refine AOps.read ⟨23, rfl, rfl⟩ rfl (by decide) (Reader.elemAddr (m := 0) rfl Tryd.underlying24 sizeOf_31 rfl rfl rfl (e := .list false 33 (([⟨[97], 1, 1⟩, ⟨[98], 1, 4⟩] : List Field).map encF)) rfl) ?_
    refine AOps.read ⟨23, rfl, rfl⟩ rfl (by decide) (Reader.loadE rfl Tryd.underlying31 sizeOf_31 rfl (v := .list false 33 (([⟨[97], 1, 1⟩, ⟨[98], 1, 4⟩] : List Field).map encF)) rfl rfl) ?_
    refine AOps.read ⟨23, rfl, rfl⟩ rfl (by decide) (Reader.len' (xs := ([⟨[97], 1, 1⟩, ⟨[98], 1, 4⟩] : List Field).map encF) rfl rfl rfl rfl Tryd.underlying31 rfl (m := 2) rfl) ?_
    refine AOps.read ⟨23, rfl, rfl⟩ rfl (by decide) (Reader.int rfl rfl rfl (r := .bool true) rfl) ?_
    refine AOps.read trivial rfl (by decide) (Reader.pick rfl (b := true) rfl (ok_const rfl) (ok_const rfl) (v := .lit (.bool true)) rfl) ?_
    refine AOps.read trivial rfl (by decide) (Reader.move (.inl rfl) (ok_const rfl) (v := .lit (.bool true)) rfl) ?_
    refine AOps.read ⟨30, rfl, rfl⟩ rfl (by decide) (Reader.move (.inl rfl) (ok_const rfl) (v := .list false 31 (L0.map encL)) rfl) ?_
    refine AOps.read ⟨30, rfl, rfl⟩ rfl (by decide) (Reader.elemAddr (m := 0) rfl Tryd.underlying24 sizeOf_31 rfl rfl rfl (e := .list false 33 (([⟨[97], 1, 1⟩, ⟨[98], 1, 4⟩] : List Field).map encF)) rfl) ?_
    refine AOps.read ⟨30, rfl, rfl⟩ rfl (by decide) (Reader.loadE rfl Tryd.underlying31 sizeOf_31 rfl (v := .list false 33 (([⟨[97], 1, 1⟩, ⟨[98], 1, 4⟩] : List Field).map encF)) rfl rfl) ?_
    refine AOps.read ⟨30, rfl, rfl⟩ rfl (by decide) (Reader.elemAddr (m := 1) rfl Tryd.underlying31 sizeOf_33 rfl rfl rfl (e := encF ⟨[98], 1, 4⟩) rfl) ?_
    refine AOps.read ⟨30, rfl, rfl⟩ rfl (by decide) (Reader.loadE rfl Tryd.underlying33 sizeOf_33 rfl (v := encF ⟨[98], 1, 4⟩) rfl rfl) ?_
    refine AOps.read ⟨30, rfl, rfl⟩ rfl (by decide) (Reader.build (xs := [(0, .str [98]), (1, .lit (.int .i64 1)), (2, .lit (.int .i64 4))]) (Es := []) (places := places_33) rfl Tryd.underlying33 (by refine ⟨rfl, fun j p x hp hx => ?_⟩; match j, hp, hx with | 0, hp, hx => cases hp; cases hx; exact ⟨rfl, .inl ⟨rfl, rfl⟩, rfl, rfl⟩ | 1, hp, hx => cases hp; cases hx; exact ⟨rfl, .inl ⟨rfl, rfl⟩, rfl, rfl⟩ | 2, hp, hx => cases hp; cases hx; exact ⟨rfl, .inl ⟨rfl, rfl⟩, rfl, rfl⟩ | _ + 3, hp, hx => cases hp) zero_33 rfl places_33_ok (cs := [.str [98], .lit (.int .i64 1), .lit (.int .i64 4)]) rfl) ?_
    refine AOps.read ⟨30, rfl, rfl⟩ rfl (by decide) (Reader.eqAgg (us := [.string ⟨([98]).toArray⟩, (.int .i64 1), (.int .i64 4)]) (vs := [.string ⟨([98]).toArray⟩, (.int .i64 1), (.int .i64 4)]) (b := (([98] == [98]) && ((1 == 1) && ((4 == 4) && true)))) (r := true) 9 rfl rfl rfl ⟨_, rfl⟩ ⟨_, rfl⟩ Tryd.underlying33 rfl eqg_33 (by decide) rfl rfl (eqV_33 [98] [98] 1 1 4 4) (.inl ⟨rfl, rfl⟩)) ?_
    refine AOps.read trivial rfl (by decide) (Reader.pick rfl (b := true) rfl (ok_const rfl) (ok_const rfl) (v := .lit (.bool true)) rfl) ?_
    refine AOps.read trivial rfl (by decide) (Reader.move (.inl rfl) (ok_const rfl) (v := .lit (.bool true)) rfl) ?_
    refine AOps.read ⟨39, rfl, rfl⟩ rfl (by decide) (Reader.move (.inl rfl) (ok_const rfl) (v := .list false 31 (L0.map encL)) rfl) ?_
    refine AOps.read ⟨39, rfl, rfl⟩ rfl (by decide) (Reader.elemAddr (m := 1) rfl Tryd.underlying24 sizeOf_31 rfl rfl rfl (e := .list false 33 (([⟨[100], 3, 2⟩] : List Field).map encF)) rfl) ?_
    refine AOps.read ⟨39, rfl, rfl⟩ rfl (by decide) (Reader.loadE rfl Tryd.underlying31 sizeOf_31 rfl (v := .list false 33 (([⟨[100], 3, 2⟩] : List Field).map encF)) rfl rfl) ?_
    refine AOps.read ⟨39, rfl, rfl⟩ rfl (by decide) (Reader.elemAddr (m := 0) rfl Tryd.underlying31 sizeOf_33 rfl rfl rfl (e := encF ⟨[100], 3, 2⟩) rfl) ?_
    refine AOps.read ⟨39, rfl, rfl⟩ rfl (by decide) (Reader.loadE rfl Tryd.underlying33 sizeOf_33 rfl (v := encF ⟨[100], 3, 2⟩) rfl rfl) ?_
    refine AOps.read ⟨39, rfl, rfl⟩ rfl (by decide) (Reader.build (xs := [(0, .str [100]), (1, .lit (.int .i64 3)), (2, .lit (.int .i64 2))]) (Es := []) (places := places_33) rfl Tryd.underlying33 (by refine ⟨rfl, fun j p x hp hx => ?_⟩; match j, hp, hx with | 0, hp, hx => cases hp; cases hx; exact ⟨rfl, .inl ⟨rfl, rfl⟩, rfl, rfl⟩ | 1, hp, hx => cases hp; cases hx; exact ⟨rfl, .inl ⟨rfl, rfl⟩, rfl, rfl⟩ | 2, hp, hx => cases hp; cases hx; exact ⟨rfl, .inl ⟨rfl, rfl⟩, rfl, rfl⟩ | _ + 3, hp, hx => cases hp) zero_33 rfl places_33_ok (cs := [.str [100], .lit (.int .i64 3), .lit (.int .i64 2)]) rfl) ?_
    refine AOps.read ⟨39, rfl, rfl⟩ rfl (by decide) (Reader.eqAgg (us := [.string ⟨([100]).toArray⟩, (.int .i64 3), (.int .i64 2)]) (vs := [.string ⟨([100]).toArray⟩, (.int .i64 3), (.int .i64 2)]) (b := (([100] == [100]) && ((3 == 3) && ((2 == 2) && true)))) (r := true) 9 rfl rfl rfl ⟨_, rfl⟩ ⟨_, rfl⟩ Tryd.underlying33 rfl eqg_33 (by decide) rfl rfl (eqV_33 [100] [100] 3 3 2 2) (.inl ⟨rfl, rfl⟩)) ?_
    refine AOps.read trivial rfl (by decide) (Reader.pick rfl (b := true) rfl (ok_const rfl) (ok_const rfl) (v := .lit (.bool true)) rfl) ?_
    refine AOps.read trivial rfl (by decide) (Reader.move (.inl rfl) (ok_const rfl) (v := .lit (.bool true)) rfl) ?_
    refine AOps.read ⟨48, rfl, rfl⟩ rfl (by decide) (Reader.move (.inl rfl) (ok_const rfl) (v := .lit (.int .i64 2)) rfl) ?_
    refine AOps.read ⟨48, rfl, rfl⟩ rfl (by decide) (Reader.int rfl rfl rfl (r := .bool true) rfl) ?_
    refine AOps.read trivial rfl (by decide) (Reader.pick rfl (b := true) rfl (ok_const rfl) (ok_const rfl) (v := .lit (.bool true)) rfl) ?_
    refine AOps.read trivial rfl (by decide) (Reader.move (.inl rfl) (ok_const rfl) (v := .lit (.bool true)) rfl) ?_
    refine AOps.read ⟨52, rfl, rfl⟩ rfl (by decide) (Reader.move (.inl rfl) (ok_const rfl) (v := .list false 31 (L0.map encL)) rfl) ?_
    refine AOps.call (args := [.list false 31 (L0.map encL)]) ⟨52, rfl, rfl⟩ rfl (by decide) rfl rfl Tryd.call19 (args_ok rfl) rfl (by intro j x v hx hv; match j, hx, hv with | 0, hx, hv => cases hx; cases hv; exact .inl ⟨rfl, rfl⟩ | _ + 1, hx, hv => cases hx) (join_a2 M) ?_
    rintro _ _ ⟨rfl, rfl⟩
    refine AOps.read ⟨52, rfl, rfl⟩ rfl (by decide) (Reader.strs rfl rfl rfl (r := true) rfl) ?_
    refine AOps.read trivial rfl (by decide) (Reader.pick rfl (b := true) rfl (ok_const rfl) (ok_const rfl) (v := .lit (.bool true)) rfl) ?_
    refine AOps.read trivial rfl (by decide) (Reader.move (.inr rfl) (ok_const rfl) (v := .lit (.bool true)) rfl) ?_
    exact AOps.nil rfl
  refine AWp.ret ?_
  exact ⟨.inl rfl, _, ResOf.one 0 (.lit (.bool true)) rfl rfl, ⟨rfl, rfl⟩⟩

end Go.Proofs.YtkdpehhdbjkljaaDoor
