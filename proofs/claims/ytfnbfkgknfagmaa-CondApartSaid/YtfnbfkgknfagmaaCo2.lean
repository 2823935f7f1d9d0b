/- Walks over abstract values, printed by my program av.py. -/
import Derived.Test.YtfnbfkgknfagmaaCo1
import Derived.Test.YtfnbfkgknfagmaaAvZ
namespace Go.Proofs.Ytfnbfkgknfagmaa
open Go.RowKit

set_option maxRecDepth 20000 in
theorem awake_any  (M : Nat → Option (List AV)) : ACall Try.prog 4 [] M (fun r M' => r = zB true ∧ M = M') := by
  refine ACall.of Try.func4 rfl (n := 72) rfl rfl rfl ?_
  refine zg ?_
  refine zM (zB false) ?_
  refine zN ?_
  refine zg ?_
  refine zr (Reader.build (xs := []) (Es := []) (places := places_23) rfl Try.underlying23 (by refine ⟨rfl, fun j p x hp hx => ?_⟩; match j, hp, hx with | _ + 0, hp, hx => cases hp) zero_23 rfl places_23_ok (cs := [zB false, zI 0]) rfl) ?_
  refine zc [.agg [zB false, zI 0], zB true, zB true, zB true, zI 2] Try.call8 (cstep_any false true true true 0 2 (by decide) M) ?_
  rintro _ _ ⟨rfl, rfl⟩
  refine zal [] zero_23 [zB false, zI 0] ?_
  refine zst sizeOf_23 (.agg [zB true, zI 0]) ?_
  refine zN ?_
  refine zg ?_
  refine zr (zlL (.agg [zB true, zI 0]) Try.underlying23 sizeOf_23) ?_
  refine zc [.agg [zB true, zI 0], zB false, zB false, zB true, zI 2] Try.call8 (cstep_any true false false true 0 2 (by decide) M) ?_
  rintro _ _ ⟨rfl, rfl⟩
  refine zal [] zero_23 [zB false, zI 0] ?_
  refine zst sizeOf_23 (.agg [zB true, zI 1]) ?_
  refine zN ?_
  refine zg ?_
  refine zr (zlL (.agg [zB true, zI 1]) Try.underlying23 sizeOf_23) ?_
  refine zc [.agg [zB true, zI 1], zB false, zB false, zB true, zI 2] Try.call8 (cstep_any true false false true 1 2 (by decide) M) ?_
  rintro _ _ ⟨rfl, rfl⟩
  refine zal [] zero_23 [zB false, zI 0] ?_
  refine zst sizeOf_23 (.agg [zB false, zI 0]) ?_
  refine zN ?_
  refine zg ?_
  refine zr (zlL (.agg [zB true, zI 1]) Try.underlying23 sizeOf_23) ?_
  refine zc [.agg [zB true, zI 1], zB false, zB false, zB false, zI 2] Try.call8 (cstep_any true false false false 1 2 (by decide) M) ?_
  rintro _ _ ⟨rfl, rfl⟩
  refine zal [] zero_23 [zB false, zI 0] ?_
  refine zst sizeOf_23 (.agg [zB true, zI 0]) ?_
  refine zN ?_
  refine zg ?_
  refine zr (Reader.buildA (xs := []) (Es := []) rfl Try.underlying24 sizeOf_23 (by refine ⟨rfl, fun j p x hp hx => ?_⟩; match j, hp, hx with | _ + 0, hp, hx => cases hp) zero_24 rfl (cs := [zB false, zI 0, zB false, zI 0, zB false, zI 0]) rfl) ?_
  refine zr (Reader.buildA (xs := [(0, zB false), (1, zB true), (2, zB false)]) (Es := []) rfl Try.underlying25 sizeOf_4 (by refine ⟨rfl, fun j p x hp hx => ?_⟩; match j, hp, hx with | 0, hp, hx => cases hp; cases hx; exact ⟨rfl, .inl ⟨rfl, rfl⟩, rfl, rfl⟩ | 1, hp, hx => cases hp; cases hx; exact ⟨rfl, .inl ⟨rfl, rfl⟩, rfl, rfl⟩ | 2, hp, hx => cases hp; cases hx; exact ⟨rfl, .inl ⟨rfl, rfl⟩, rfl, rfl⟩ | _ + 3, hp, hx => cases hp) zero_25 rfl (cs := [zB false, zB true, zB false]) rfl) ?_
  refine zr (Reader.buildA (xs := []) (Es := []) rfl Try.underlying25 sizeOf_4 (by refine ⟨rfl, fun j p x hp hx => ?_⟩; match j, hp, hx with | _ + 0, hp, hx => cases hp) zero_25 rfl (cs := [zB false, zB false, zB false]) rfl) ?_
  refine zc [.agg [zB false, zI 0, zB false, zI 0, zB false, zI 0], .agg [zB false, zB true, zB false], .agg [zB false, zB false, zB false], zB true, zI 2] Try.call7 (call_any false false false false true false false false false true 0 0 0 2 (by decide) (by decide) (by decide) M) ?_
  rintro _ _ ⟨rfl, rfl⟩
  refine zM (.tuple [.agg [zB false, zI 0, zB true, zI 0, zB false, zI 0], .list false 33 (([⟨6, [], 1, 0⟩] : List Ev).map encE)]) ?_
  refine zr (zx (.agg [zB false, zI 0, zB true, zI 0, zB false, zI 0])) ?_
  refine zr (zx (.list false 33 (([⟨6, [], 1, 0⟩] : List Ev).map encE))) ?_
  refine zal [] zero_24 [zB false, zI 0, zB false, zI 0, zB false, zI 0] ?_
  refine zst sizeOf_24 (.agg [zB false, zI 0, zB true, zI 0, zB false, zI 0]) ?_
  refine zM (.list false 33 (([⟨6, [], 1, 0⟩] : List Ev).map encE)) ?_
  refine zN ?_
  refine zj 0 [(1, .lptr 1 0), (2, .lptr 2 0), (3, .lptr 3 0), (4, .lptr 4 0), (5, .lptr 5 0), (6, .list false 33 (([⟨6, [], 1, 0⟩] : List Ev).map encE))] [(1, [zB true, zI 0]), (2, [zB true, zI 1]), (3, [zB false, zI 0]), (4, [zB true, zI 0]), (5, [zB false, zI 0, zB true, zI 0, zB false, zI 0])] M (bif ((6 == 6) && ((([] : List UInt8) == ([] : List UInt8)) && ((1 == 1) && ((0 == 0) && true)))) then true else false) ?_ ?_
  · skip
    refine zr (zlL (.agg [zB true, zI 0]) Try.underlying23 sizeOf_23) ?_
    refine zr (Reader.build (xs := [(0, zB true)]) (Es := []) (places := places_23) rfl Try.underlying23 (by refine ⟨rfl, fun j p x hp hx => ?_⟩; match j, hp, hx with | 0, hp, hx => cases hp; cases hx; exact ⟨rfl, .inl ⟨rfl, rfl⟩, rfl, rfl⟩ | _ + 1, hp, hx => cases hp) zero_23 rfl places_23_ok (cs := [zB true, zI 0]) rfl) ?_
    refine zr (Reader.eqAgg (us := [(.bool true), (.int .i64 0)]) (vs := [(.bool true), (.int .i64 0)]) (b := ((true == true) && ((0 == 0) && true))) (r := true) 9 rfl rfl rfl ⟨_, rfl⟩ ⟨_, rfl⟩ Try.underlying23 rfl eqg_23 (by decide) rfl rfl (eqV_23 true true 0 0) (.inl ⟨rfl, (by decide)⟩)) ?_
    refine zM (zB true) ?_
    refine zr (zlL (.agg [zB true, zI 1]) Try.underlying23 sizeOf_23) ?_
    refine zr (Reader.build (xs := [(0, zB true), (1, zI 1)]) (Es := []) (places := places_23) rfl Try.underlying23 (by refine ⟨rfl, fun j p x hp hx => ?_⟩; match j, hp, hx with | 0, hp, hx => cases hp; cases hx; exact ⟨rfl, .inl ⟨rfl, rfl⟩, rfl, rfl⟩ | 1, hp, hx => cases hp; cases hx; exact ⟨rfl, .inl ⟨rfl, rfl⟩, rfl, rfl⟩ | _ + 2, hp, hx => cases hp) zero_23 rfl places_23_ok (cs := [zB true, zI 1]) rfl) ?_
    refine zr (Reader.eqAgg (us := [(.bool true), (.int .i64 1)]) (vs := [(.bool true), (.int .i64 1)]) (b := ((true == true) && ((1 == 1) && true))) (r := true) 9 rfl rfl rfl ⟨_, rfl⟩ ⟨_, rfl⟩ Try.underlying23 rfl eqg_23 (by decide) rfl rfl (eqV_23 true true 1 1) (.inl ⟨rfl, (by decide)⟩)) ?_
    refine zr (zp true (zB true)) ?_
    refine zM (zB true) ?_
    refine zr (zlL (.agg [zB false, zI 0]) Try.underlying23 sizeOf_23) ?_
    refine zr (Reader.build (xs := []) (Es := []) (places := places_23) rfl Try.underlying23 (by refine ⟨rfl, fun j p x hp hx => ?_⟩; match j, hp, hx with | _ + 0, hp, hx => cases hp) zero_23 rfl places_23_ok (cs := [zB false, zI 0]) rfl) ?_
    refine zr (Reader.eqAgg (us := [(.bool false), (.int .i64 0)]) (vs := [(.bool false), (.int .i64 0)]) (b := ((false == false) && ((0 == 0) && true))) (r := true) 9 rfl rfl rfl ⟨_, rfl⟩ ⟨_, rfl⟩ Try.underlying23 rfl eqg_23 (by decide) rfl rfl (eqV_23 false false 0 0) (.inl ⟨rfl, (by decide)⟩)) ?_
    refine zr (zp true (zB true)) ?_
    refine zM (zB true) ?_
    refine zr (zlL (.agg [zB true, zI 0]) Try.underlying23 sizeOf_23) ?_
    refine zr (Reader.build (xs := [(0, zB true)]) (Es := []) (places := places_23) rfl Try.underlying23 (by refine ⟨rfl, fun j p x hp hx => ?_⟩; match j, hp, hx with | 0, hp, hx => cases hp; cases hx; exact ⟨rfl, .inl ⟨rfl, rfl⟩, rfl, rfl⟩ | _ + 1, hp, hx => cases hp) zero_23 rfl places_23_ok (cs := [zB true, zI 0]) rfl) ?_
    refine zr (Reader.eqAgg (us := [(.bool true), (.int .i64 0)]) (vs := [(.bool true), (.int .i64 0)]) (b := ((true == true) && ((0 == 0) && true))) (r := true) 9 rfl rfl rfl ⟨_, rfl⟩ ⟨_, rfl⟩ Try.underlying23 rfl eqg_23 (by decide) rfl rfl (eqV_23 true true 0 0) (.inl ⟨rfl, (by decide)⟩)) ?_
    refine zr (zp true (zB true)) ?_
    refine zM (zB true) ?_
    refine zr (ziL 1 Try.underlying24 sizeOf_23) ?_
    refine zr (zfL Try.underlying23 sizeOf_4) ?_
    refine zr (zlL (zB true) Try.underlying4 sizeOf_4) ?_
    refine zr (zp true (zB true)) ?_
    refine zM (zB true) ?_
    refine zr (ziL 0 Try.underlying24 sizeOf_23) ?_
    refine zr (zfL Try.underlying23 sizeOf_4) ?_
    refine zr (zlL (zB false) Try.underlying4 sizeOf_4) ?_
    refine zr (zn false) ?_
    refine zr (zp true (zB true)) ?_
    refine zM (zB true) ?_
    refine zM (.list false 33 (([⟨6, [], 1, 0⟩] : List Ev).map encE)) ?_
    refine zr (zL (([⟨6, [], 1, 0⟩] : List Ev).map encE) 1 Try.underlying29 rfl) ?_
    refine zr (zi true) ?_
    refine zr (zp true (zB true)) ?_
    refine zM (zB true) ?_
    refine zM (.list false 33 (([⟨6, [], 1, 0⟩] : List Ev).map encE)) ?_
    refine zr (zel 0 (encE ⟨6, [], 1, 0⟩) Try.underlying29 sizeOf_33 rfl) ?_
    refine zr (zlE (encE ⟨6, [], 1, 0⟩) Try.underlying33 sizeOf_33) ?_
    refine zr (Reader.build (xs := [(0, zI 6), (2, zI 1)]) (Es := []) (places := places_33) rfl Try.underlying33 (by refine ⟨rfl, fun j p x hp hx => ?_⟩; match j, hp, hx with | 0, hp, hx => cases hp; cases hx; exact ⟨rfl, .inl ⟨rfl, rfl⟩, rfl, rfl⟩ | 1, hp, hx => cases hp; cases hx; exact ⟨rfl, .inl ⟨rfl, rfl⟩, rfl, rfl⟩ | _ + 2, hp, hx => cases hp) zero_33 rfl places_33_ok (cs := [zI 6, .str [], zI 1, zI 0]) rfl) ?_
    refine zr (Reader.eqAgg (us := [(.int .i64 6), .string ⟨([]).toArray⟩, (.int .i64 1), (.int .i64 0)]) (vs := [(.int .i64 6), .string ⟨([]).toArray⟩, (.int .i64 1), (.int .i64 0)]) (b := ((6 == 6) && ((([] : List UInt8) == ([] : List UInt8)) && ((1 == 1) && ((0 == 0) && true))))) (r := ((6 == 6) && ((([] : List UInt8) == ([] : List UInt8)) && ((1 == 1) && ((0 == 0) && true))))) 9 rfl rfl rfl ⟨_, rfl⟩ ⟨_, rfl⟩ Try.underlying33 rfl eqg_33 (by decide) rfl rfl (eqV_33 6 6 ([] : List UInt8) ([] : List UInt8) 1 1 0 0) (.inl ⟨rfl, rfl⟩)) ?_
    refine zr (zp true (zB ((6 == 6) && ((([] : List UInt8) == ([] : List UInt8)) && ((1 == 1) && ((0 == 0) && true)))))) ?_
    refine zM (zB ((6 == 6) && ((([] : List UInt8) == ([] : List UInt8)) && ((1 == 1) && ((0 == 0) && true))))) ?_
    refine AOps.splitJ (t := 63) (b := ((6 == 6) && ((([] : List UInt8) == ([] : List UInt8)) && ((1 == 1) && ((0 == 0) && true))))) (x := true) (y := false) rfl (fun h1 => ?_) (fun h1 => ?_)
    · skip
      refine zr (zlL (.agg [zB true, zI 1]) Try.underlying23 sizeOf_23) ?_
      refine zc [.agg [zB true, zI 1], zI 2] Try.call9 (cright_any true 1 2 M) ?_
      rintro _ _ ⟨rfl, rfl⟩
      refine zr (zp true (zB true)) ?_
      refine zM (zB true) ?_
      refine zr (zlL (.agg [zB true, zI 1]) Try.underlying23 sizeOf_23) ?_
      refine zc [.agg [zB true, zI 1], zI 1] Try.call9 (cright_any true 1 1 M) ?_
      rintro _ _ ⟨rfl, rfl⟩
      refine zr (zn false) ?_
      refine zr (zp true (zB true)) ?_
      refine zM (zB true) ?_
      exact AOps.nil rfl
    · skip
      refine zs ?_
      refine zs ?_
      refine zr (zp false (zB false)) ?_
      refine zM (zB false) ?_
      refine zs ?_
      refine zs ?_
      refine zs ?_
      refine zr (zp false (zB false)) ?_
      refine zM (zB false) ?_
      exact AOps.nil rfl
  refine AWp.ret ?_
  exact ⟨.inl rfl, _, ResOf.one 0 (zB (bif ((6 == 6) && ((([] : List UInt8) == ([] : List UInt8)) && ((1 == 1) && ((0 == 0) && true)))) then true else false)) rfl rfl, ⟨rfl, rfl⟩⟩

end Go.Proofs.Ytfnbfkgknfagmaa
