/- Walks over abstract values, printed by my program av.py. -/
import Derived.Test.YtlpihekflkjkfaaDoorLg8
import Derived.Test.YtlpihekflkjkfaaDoorAvZ
namespace Go.Proofs.YtlpihekflkjkfaaDoor
open Go.RowKit
theorem lla_0 (M : Nat → Option (List AV)) : ACall Tryd.prog 22 [.lit (.int .i64 7), encE ⟨5, [97], 1, 0⟩] M (fun r M' => r = .tuple [.str [55, 32, 101, 118, 105, 99, 116, 32, 97, 32, 100, 105, 115, 107], .lit (.int .i64 0)] ∧ M = M') := by
  have h := lline_any 7 ⟨5, [97], 1, 0⟩ (by decide) (by decide) M
  rw [show textE 7 ⟨5, [97], 1, 0⟩ = [55, 32, 101, 118, 105, 99, 116, 32, 97, 32, 100, 105, 115, 107] from by decide +kernel, show errE 7 ⟨5, [97], 1, 0⟩ = 0 from by decide +kernel] at h
  exact h
theorem lla_1 (M : Nat → Option (List AV)) : ACall Tryd.prog 22 [.lit (.int .i64 0), encE ⟨3, [98], 2, 3⟩] M (fun r M' => r = .tuple [.str [48, 32, 114, 101, 106, 101, 99, 116, 32, 98, 32, 112, 114, 101, 115, 115, 117, 114, 101, 32, 112, 105, 100], .lit (.int .i64 0)] ∧ M = M') := by
  have h := lline_any 0 ⟨3, [98], 2, 3⟩ (by decide) (by decide) M
  rw [show textE 0 ⟨3, [98], 2, 3⟩ = [48, 32, 114, 101, 106, 101, 99, 116, 32, 98, 32, 112, 114, 101, 115, 115, 117, 114, 101, 32, 112, 105, 100] from by decide +kernel, show errE 0 ⟨3, [98], 2, 3⟩ = 0 from by decide +kernel] at h
  exact h
theorem lla_2 (M : Nat → Option (List AV)) : ACall Tryd.prog 22 [.lit (.int .i64 1), encE ⟨0, [], 0, 0⟩] M (fun r M' => r = .tuple [.str [], .lit (.int .i64 1)] ∧ M = M') := by
  have h := lline_any 1 ⟨0, [], 0, 0⟩ (by decide) (by decide) M
  rw [show textE 1 ⟨0, [], 0, 0⟩ = [] from by decide +kernel, show errE 1 ⟨0, [], 0, 0⟩ = 1 from by decide +kernel] at h
  exact h
theorem lra_0 (M : Nat → Option (List AV)) : ACall Tryd.prog 25 [.str [49, 50, 32, 112, 117, 108, 108, 32, 119, 101, 98, 32, 50, 48, 52, 56]] M (fun r M' => r = .tuple [.lit (.int .i64 12), encE ⟨9, [119, 101, 98], 0, 2048⟩, .lit (.int .i64 0)] ∧ M = M') := by
  have h := lread_any [49, 50, 32, 112, 117, 108, 108, 32, 119, 101, 98, 32, 50, 48, 52, 56] (by decide) M
  rw [show rdN [49, 50, 32, 112, 117, 108, 108, 32, 119, 101, 98, 32, 50, 48, 52, 56] = 12 from by decide +kernel, show rdE [49, 50, 32, 112, 117, 108, 108, 32, 119, 101, 98, 32, 50, 48, 52, 56] = ⟨9, [119, 101, 98], 0, 2048⟩ from by decide +kernel, show rdX [49, 50, 32, 112, 117, 108, 108, 32, 119, 101, 98, 32, 50, 48, 52, 56] = 0 from by decide +kernel] at h
  exact h
theorem lra_1 (M : Nat → Option (List AV)) : ACall Tryd.prog 25 [.str [49, 50, 32, 112, 117, 108, 108, 32, 119, 101, 98]] M (fun r M' => r = .tuple [.lit (.int .i64 0), encE ⟨0, [], 0, 0⟩, .lit (.int .i64 2)] ∧ M = M') := by
  have h := lread_any [49, 50, 32, 112, 117, 108, 108, 32, 119, 101, 98] (by decide) M
  rw [show rdN [49, 50, 32, 112, 117, 108, 108, 32, 119, 101, 98] = 0 from by decide +kernel, show rdE [49, 50, 32, 112, 117, 108, 108, 32, 119, 101, 98] = ⟨0, [], 0, 0⟩ from by decide +kernel, show rdX [49, 50, 32, 112, 117, 108, 108, 32, 119, 101, 98] = 2 from by decide +kernel] at h
  exact h
theorem llsa (M : Nat → Option (List AV)) : ACall Tryd.prog 28 [.list false 57 (([⟨0, [⟨6, [], 0, 0⟩, ⟨10, [112], 0, 0⟩], 3, [], false, false, false⟩] : List Stp).map encS)] M (fun r M' => r = .tuple [.list true 9 (([[51, 32, 111, 110, 32, 109, 101, 109, 111, 114, 121], [51, 32, 117, 112, 32, 112]] : List (List UInt8)).map AV.str), .lit (.int .i64 0)] ∧ M = M') := by
  have h := lines_any [⟨0, [⟨6, [], 0, 0⟩, ⟨10, [112], 0, 0⟩], 3, [], false, false, false⟩] (by intro x hx e he; simp only [List.mem_cons, List.mem_nil_iff, or_false] at hx; subst hx; simp only [List.mem_cons, List.mem_nil_iff, or_false] at he; rcases he with rfl | rfl <;> decide) (by decide) (by decide) M
  rw [show linesL [⟨0, [⟨6, [], 0, 0⟩, ⟨10, [112], 0, 0⟩], 3, [], false, false, false⟩] = [[51, 32, 111, 110, 32, 109, 101, 109, 111, 114, 121], [51, 32, 117, 112, 32, 112]] from by decide +kernel, show linesX [⟨0, [⟨6, [], 0, 0⟩, ⟨10, [112], 0, 0⟩], 3, [], false, false, false⟩] = 0 from by decide +kernel] at h
  exact h
theorem lca (M : Nat → Option (List AV)) : ACall Tryd.prog 29 [.list false 57 (([⟨0, [⟨6, [], 0, 0⟩, ⟨99, [], 0, 0⟩, ⟨6, [], 0, 0⟩], 0, [], false, false, false⟩] : List Stp).map encS)] M (fun r M' => r = .agg [.lit (.int .i64 0), .lit (.int .i64 0), .lit (.int .i64 0), .lit (.int .i64 0), .lit (.int .i64 0), .lit (.int .i64 0), .lit (.int .i64 2), .lit (.int .i64 0), .lit (.int .i64 0), .lit (.int .i64 0), .lit (.int .i64 0), .lit (.int .i64 0), .lit (.int .i64 0), .lit (.int .i64 0), .lit (.int .i64 0), .lit (.int .i64 0), .lit (.int .i64 0)] ∧ M = M') := by
  have h := count_any [⟨0, [⟨6, [], 0, 0⟩, ⟨99, [], 0, 0⟩, ⟨6, [], 0, 0⟩], 0, [], false, false, false⟩] (by decide) (by decide) M
  rw [show cntP (evsOf [⟨0, [⟨6, [], 0, 0⟩, ⟨99, [], 0, 0⟩, ⟨6, [], 0, 0⟩], 0, [], false, false, false⟩]) = [0, 0, 0, 0, 0, 0, 2, 0, 0, 0, 0, 0, 0, 0, 0, 0, 0] from by decide +kernel] at h
  exact h
theorem lria (M : Nat → Option (List AV)) : ACall Tryd.prog 24 [encE ⟨9, [119, 101, 98], 0, 2048⟩] M (fun r M' => r = .lit (.bool true) ∧ M = M') := by
  have h := lright_any ⟨9, [119, 101, 98], 0, 2048⟩ (by decide) (by decide) M
  rw [show decide (RightE ⟨9, [119, 101, 98], 0, 2048⟩) = true from by decide +kernel] at h
  exact h

set_option maxRecDepth 20000 in
theorem lawake_any  (M : Nat → Option (List AV)) : ACall Tryd.prog 21 [] M (fun r M' => r = zB true ∧ M = M') := by
  refine ACall.of Tryd.func21 rfl (n := 128) rfl rfl rfl ?_
  refine zg ?_
  refine zM (zB false) ?_
  refine zN ?_
  refine zg ?_
  refine zr (Reader.build (xs := [(0, zI 5), (1, .str [97]), (2, zI 1)]) (Es := []) (places := places_34) rfl Tryd.underlying34 (by refine ⟨rfl, fun j p x hp hx => ?_⟩; match j, hp, hx with | 0, hp, hx => cases hp; cases hx; exact ⟨rfl, .inl ⟨rfl, rfl⟩, rfl, rfl⟩ | 1, hp, hx => cases hp; cases hx; exact ⟨rfl, .inl ⟨rfl, rfl⟩, rfl, rfl⟩ | 2, hp, hx => cases hp; cases hx; exact ⟨rfl, .inl ⟨rfl, rfl⟩, rfl, rfl⟩ | _ + 3, hp, hx => cases hp) zero_34 rfl places_34_ok (cs := [zI 5, .str [97], zI 1, zI 0]) rfl) ?_
  refine zc [zI 7, encE (⟨5, [97], 1, 0⟩ : Ev)] Tryd.call22 (lla_0 M) ?_
  rintro _ _ ⟨rfl, rfl⟩
  refine zM (.tuple [.str [55, 32, 101, 118, 105, 99, 116, 32, 97, 32, 100, 105, 115, 107], zI 0]) ?_
  refine zr (zx (.str [55, 32, 101, 118, 105, 99, 116, 32, 97, 32, 100, 105, 115, 107])) ?_
  refine zr (zx (zI 0)) ?_
  refine zM (.str [55, 32, 101, 118, 105, 99, 116, 32, 97, 32, 100, 105, 115, 107]) ?_
  refine zM (zI 0) ?_
  refine zN ?_
  refine zg ?_
  refine zr (Reader.build (xs := [(0, zI 3), (1, .str [98]), (2, zI 2), (3, zI 3)]) (Es := []) (places := places_34) rfl Tryd.underlying34 (by refine ⟨rfl, fun j p x hp hx => ?_⟩; match j, hp, hx with | 0, hp, hx => cases hp; cases hx; exact ⟨rfl, .inl ⟨rfl, rfl⟩, rfl, rfl⟩ | 1, hp, hx => cases hp; cases hx; exact ⟨rfl, .inl ⟨rfl, rfl⟩, rfl, rfl⟩ | 2, hp, hx => cases hp; cases hx; exact ⟨rfl, .inl ⟨rfl, rfl⟩, rfl, rfl⟩ | 3, hp, hx => cases hp; cases hx; exact ⟨rfl, .inl ⟨rfl, rfl⟩, rfl, rfl⟩ | _ + 4, hp, hx => cases hp) zero_34 rfl places_34_ok (cs := [zI 3, .str [98], zI 2, zI 3]) rfl) ?_
  refine zc [zI 0, encE (⟨3, [98], 2, 3⟩ : Ev)] Tryd.call22 (lla_1 M) ?_
  rintro _ _ ⟨rfl, rfl⟩
  refine zM (.tuple [.str [48, 32, 114, 101, 106, 101, 99, 116, 32, 98, 32, 112, 114, 101, 115, 115, 117, 114, 101, 32, 112, 105, 100], zI 0]) ?_
  refine zr (zx (.str [48, 32, 114, 101, 106, 101, 99, 116, 32, 98, 32, 112, 114, 101, 115, 115, 117, 114, 101, 32, 112, 105, 100])) ?_
  refine zr (zx (zI 0)) ?_
  refine zM (.str [48, 32, 114, 101, 106, 101, 99, 116, 32, 98, 32, 112, 114, 101, 115, 115, 117, 114, 101, 32, 112, 105, 100]) ?_
  refine zM (zI 0) ?_
  refine zN ?_
  refine zg ?_
  refine zr (Reader.build (xs := []) (Es := []) (places := places_34) rfl Tryd.underlying34 (by refine ⟨rfl, fun j p x hp hx => ?_⟩; match j, hp, hx with | _ + 0, hp, hx => cases hp) zero_34 rfl places_34_ok (cs := [zI 0, .str [], zI 0, zI 0]) rfl) ?_
  refine zc [zI 1, encE (⟨0, [], 0, 0⟩ : Ev)] Tryd.call22 (lla_2 M) ?_
  rintro _ _ ⟨rfl, rfl⟩
  refine zM (.tuple [.str [], zI 1]) ?_
  refine zr (zx (.str [])) ?_
  refine zr (zx (zI 1)) ?_
  refine zM (.str []) ?_
  refine zM (zI 1) ?_
  refine zN ?_
  refine zg ?_
  refine zc [.str [49, 50, 32, 112, 117, 108, 108, 32, 119, 101, 98, 32, 50, 48, 52, 56]] Tryd.call25 (lra_0 M) ?_
  rintro _ _ ⟨rfl, rfl⟩
  refine zM (.tuple [zI 12, encE (⟨9, [119, 101, 98], 0, 2048⟩ : Ev), zI 0]) ?_
  refine zr (zx (zI 12)) ?_
  refine zr (zx (encE (⟨9, [119, 101, 98], 0, 2048⟩ : Ev))) ?_
  refine zr (zx (zI 0)) ?_
  refine zal [] zero_34 [zI 0, .str [], zI 0, zI 0] ?_
  refine zM (zI 12) ?_
  refine zst sizeOf_34 (encE (⟨9, [119, 101, 98], 0, 2048⟩ : Ev)) ?_
  refine zM (zI 0) ?_
  refine zN ?_
  refine zg ?_
  refine zc [.str [49, 50, 32, 112, 117, 108, 108, 32, 119, 101, 98]] Tryd.call25 (lra_1 M) ?_
  rintro _ _ ⟨rfl, rfl⟩
  refine zM (.tuple [zI 0, encE (⟨0, [], 0, 0⟩ : Ev), zI 2]) ?_
  refine zr (zx (zI 0)) ?_
  refine zr (zx (encE (⟨0, [], 0, 0⟩ : Ev))) ?_
  refine zr (zx (zI 2)) ?_
  refine zal [] zero_34 [zI 0, .str [], zI 0, zI 0] ?_
  refine zM (zI 0) ?_
  refine zst sizeOf_34 (encE (⟨0, [], 0, 0⟩ : Ev)) ?_
  refine zM (zI 2) ?_
  refine zN ?_
  refine zg ?_
  refine zr (Reader.build (xs := [(0, zI 3)]) (Es := [199]) (places := places_55) rfl Tryd.underlying55 (by refine ⟨rfl, fun j p x hp hx => ?_⟩; match j, hp, hx with | 0, hp, hx => cases hp; cases hx; exact ⟨rfl, .inl ⟨rfl, rfl⟩, rfl, rfl⟩ | _ + 1, hp, hx => cases hp) zero_55 rfl places_55_ok (cs := [zI 3, .list false 199 [], zB false, zB false, zB false]) rfl) ?_
  refine zr (Reader.build (xs := [(0, zI 6)]) (Es := []) (places := places_34) rfl Tryd.underlying34 (by refine ⟨rfl, fun j p x hp hx => ?_⟩; match j, hp, hx with | 0, hp, hx => cases hp; cases hx; exact ⟨rfl, .inl ⟨rfl, rfl⟩, rfl, rfl⟩ | _ + 1, hp, hx => cases hp) zero_34 rfl places_34_ok (cs := [zI 6, .str [], zI 0, zI 0]) rfl) ?_
  refine zr (Reader.build (xs := [(0, zI 10), (1, .str [112])]) (Es := []) (places := places_34) rfl Tryd.underlying34 (by refine ⟨rfl, fun j p x hp hx => ?_⟩; match j, hp, hx with | 0, hp, hx => cases hp; cases hx; exact ⟨rfl, .inl ⟨rfl, rfl⟩, rfl, rfl⟩ | 1, hp, hx => cases hp; cases hx; exact ⟨rfl, .inl ⟨rfl, rfl⟩, rfl, rfl⟩ | _ + 2, hp, hx => cases hp) zero_34 rfl places_34_ok (cs := [zI 10, .str [112], zI 0, zI 0]) rfl) ?_
  refine zbS [] [.agg [zI 6, .str [], zI 0, zI 0], .agg [zI 10, .str [112], zI 0, zI 0]] Tryd.underlying51 Tryd.i34 ?_
  refine zr (Reader.build (xs := [(2, .agg [zI 3, .list false 199 [], zB false, zB false, zB false]), (1, .list false 34 [.agg [zI 6, .str [], zI 0, zI 0], .agg [zI 10, .str [112], zI 0, zI 0]])]) (Es := [34, 199]) (places := places_57) rfl Tryd.underlying57 (by refine ⟨rfl, fun j p x hp hx => ?_⟩; match j, hp, hx with | 0, hp, hx => cases hp; cases hx; exact ⟨rfl, .inl ⟨rfl, rfl⟩, rfl, rfl⟩ | 1, hp, hx => cases hp; cases hx; exact ⟨rfl, .inl ⟨rfl, rfl⟩, rfl, rfl⟩ | _ + 2, hp, hx => cases hp) zero_57 rfl places_57_ok (cs := [zI 0, .list false 34 [.agg [zI 6, .str [], zI 0, zI 0], .agg [zI 10, .str [112], zI 0, zI 0]], zI 3, .list false 199 [], zB false, zB false, zB false]) rfl) ?_
  refine zbS [34, 199] [.agg [zI 0, .list false 34 [.agg [zI 6, .str [], zI 0, zI 0], .agg [zI 10, .str [112], zI 0, zI 0]], zI 3, .list false 199 [], zB false, zB false, zB false]] Tryd.underlying48 Tryd.i57 ?_
  refine zc [.list false 57 (([⟨0, [⟨6, [], 0, 0⟩, ⟨10, [112], 0, 0⟩], 3, [], false, false, false⟩] : List Stp).map encS)] Tryd.call28 (llsa M) ?_
  rintro _ _ ⟨rfl, rfl⟩
  refine zM (.tuple [.list false 9 (([[51, 32, 111, 110, 32, 109, 101, 109, 111, 114, 121], [51, 32, 117, 112, 32, 112]] : List (List UInt8)).map AV.str), zI 0]) ?_
  refine zr (zx (.list false 9 (([[51, 32, 111, 110, 32, 109, 101, 109, 111, 114, 121], [51, 32, 117, 112, 32, 112]] : List (List UInt8)).map AV.str))) ?_
  refine zr (zx (zI 0)) ?_
  refine zM (.list false 9 (([[51, 32, 111, 110, 32, 109, 101, 109, 111, 114, 121], [51, 32, 117, 112, 32, 112]] : List (List UInt8)).map AV.str)) ?_
  refine zM (zI 0) ?_
  refine zN ?_
  refine zg ?_
  refine zr (Reader.build (xs := [(0, zI 6)]) (Es := []) (places := places_34) rfl Tryd.underlying34 (by refine ⟨rfl, fun j p x hp hx => ?_⟩; match j, hp, hx with | 0, hp, hx => cases hp; cases hx; exact ⟨rfl, .inl ⟨rfl, rfl⟩, rfl, rfl⟩ | _ + 1, hp, hx => cases hp) zero_34 rfl places_34_ok (cs := [zI 6, .str [], zI 0, zI 0]) rfl) ?_
  refine zr (Reader.build (xs := [(0, zI 99)]) (Es := []) (places := places_34) rfl Tryd.underlying34 (by refine ⟨rfl, fun j p x hp hx => ?_⟩; match j, hp, hx with | 0, hp, hx => cases hp; cases hx; exact ⟨rfl, .inl ⟨rfl, rfl⟩, rfl, rfl⟩ | _ + 1, hp, hx => cases hp) zero_34 rfl places_34_ok (cs := [zI 99, .str [], zI 0, zI 0]) rfl) ?_
  refine zr (Reader.build (xs := [(0, zI 6)]) (Es := []) (places := places_34) rfl Tryd.underlying34 (by refine ⟨rfl, fun j p x hp hx => ?_⟩; match j, hp, hx with | 0, hp, hx => cases hp; cases hx; exact ⟨rfl, .inl ⟨rfl, rfl⟩, rfl, rfl⟩ | _ + 1, hp, hx => cases hp) zero_34 rfl places_34_ok (cs := [zI 6, .str [], zI 0, zI 0]) rfl) ?_
  refine zbS [] [.agg [zI 6, .str [], zI 0, zI 0], .agg [zI 99, .str [], zI 0, zI 0], .agg [zI 6, .str [], zI 0, zI 0]] Tryd.underlying51 Tryd.i34 ?_
  refine zr (Reader.build (xs := [(1, .list false 34 [.agg [zI 6, .str [], zI 0, zI 0], .agg [zI 99, .str [], zI 0, zI 0], .agg [zI 6, .str [], zI 0, zI 0]])]) (Es := [34, 199]) (places := places_57) rfl Tryd.underlying57 (by refine ⟨rfl, fun j p x hp hx => ?_⟩; match j, hp, hx with | 0, hp, hx => cases hp; cases hx; exact ⟨rfl, .inl ⟨rfl, rfl⟩, rfl, rfl⟩ | _ + 1, hp, hx => cases hp) zero_57 rfl places_57_ok (cs := [zI 0, .list false 34 [.agg [zI 6, .str [], zI 0, zI 0], .agg [zI 99, .str [], zI 0, zI 0], .agg [zI 6, .str [], zI 0, zI 0]], zI 0, .list false 199 [], zB false, zB false, zB false]) rfl) ?_
  refine zbS [34, 199] [.agg [zI 0, .list false 34 [.agg [zI 6, .str [], zI 0, zI 0], .agg [zI 99, .str [], zI 0, zI 0], .agg [zI 6, .str [], zI 0, zI 0]], zI 0, .list false 199 [], zB false, zB false, zB false]] Tryd.underlying48 Tryd.i57 ?_
  refine zc [.list false 57 (([⟨0, [⟨6, [], 0, 0⟩, ⟨99, [], 0, 0⟩, ⟨6, [], 0, 0⟩], 0, [], false, false, false⟩] : List Stp).map encS)] Tryd.call29 (lca M) ?_
  rintro _ _ ⟨rfl, rfl⟩
  refine zal [] zero_50 [zI 0, zI 0, zI 0, zI 0, zI 0, zI 0, zI 0, zI 0, zI 0, zI 0, zI 0, zI 0, zI 0, zI 0, zI 0, zI 0, zI 0] ?_
  refine zst sizeOf_50 (.agg [zI 0, zI 0, zI 0, zI 0, zI 0, zI 0, zI 2, zI 0, zI 0, zI 0, zI 0, zI 0, zI 0, zI 0, zI 0, zI 0, zI 0]) ?_
  refine zN ?_
  refine zj 0 [(1, .str [55, 32, 101, 118, 105, 99, 116, 32, 97, 32, 100, 105, 115, 107]), (2, zI 0), (3, .str [48, 32, 114, 101, 106, 101, 99, 116, 32, 98, 32, 112, 114, 101, 115, 115, 117, 114, 101, 32, 112, 105, 100]), (4, zI 0), (6, zI 1), (8, .lptr 8 0), (7, zI 12), (9, zI 0), (12, zI 2), (13, .list false 9 (([[51, 32, 111, 110, 32, 109, 101, 109, 111, 114, 121], [51, 32, 117, 112, 32, 112]] : List (List UInt8)).map AV.str)), (14, zI 0), (15, .lptr 15 0)] [(8, [zI 9, .str [119, 101, 98], zI 0, zI 2048]), (11, [zI 0, .str [], zI 0, zI 0]), (15, [zI 0, zI 0, zI 0, zI 0, zI 0, zI 0, zI 2, zI 0, zI 0, zI 0, zI 0, zI 0, zI 0, zI 0, zI 0, zI 0, zI 0])] M true ?_ ?_
  · skip
    refine zM (zI 0) ?_
    refine zr (zi true) ?_
    refine zM (zB true) ?_
    refine zM (.str [55, 32, 101, 118, 105, 99, 116, 32, 97, 32, 100, 105, 115, 107]) ?_
    refine zr (zt true) ?_
    refine zr (zp true (zB true)) ?_
    refine zM (zB true) ?_
    refine zM (zI 0) ?_
    refine zr (zi true) ?_
    refine zr (zp true (zB true)) ?_
    refine zM (zB true) ?_
    refine zM (.str [48, 32, 114, 101, 106, 101, 99, 116, 32, 98, 32, 112, 114, 101, 115, 115, 117, 114, 101, 32, 112, 105, 100]) ?_
    refine zr (zt true) ?_
    refine zr (zp true (zB true)) ?_
    refine zM (zB true) ?_
    refine zM (zI 1) ?_
    refine zr (zi true) ?_
    refine zr (zp true (zB true)) ?_
    refine zM (zB true) ?_
    refine zM (zI 0) ?_
    refine zr (zi true) ?_
    refine zr (zp true (zB true)) ?_
    refine zM (zB true) ?_
    refine zM (zI 12) ?_
    refine zr (zi true) ?_
    refine zr (zp true (zB true)) ?_
    refine zM (zB true) ?_
    refine zr (zlL (.agg [zI 9, .str [119, 101, 98], zI 0, zI 2048]) Tryd.underlying34 sizeOf_34) ?_
    refine zr (Reader.build (xs := [(0, zI 9), (1, .str [119, 101, 98]), (3, zI 2048)]) (Es := []) (places := places_34) rfl Tryd.underlying34 (by refine ⟨rfl, fun j p x hp hx => ?_⟩; match j, hp, hx with | 0, hp, hx => cases hp; cases hx; exact ⟨rfl, .inl ⟨rfl, rfl⟩, rfl, rfl⟩ | 1, hp, hx => cases hp; cases hx; exact ⟨rfl, .inl ⟨rfl, rfl⟩, rfl, rfl⟩ | 2, hp, hx => cases hp; cases hx; exact ⟨rfl, .inl ⟨rfl, rfl⟩, rfl, rfl⟩ | _ + 3, hp, hx => cases hp) zero_34 rfl places_34_ok (cs := [zI 9, .str [119, 101, 98], zI 0, zI 2048]) rfl) ?_
    refine zr (Reader.eqAgg (us := [(.int .i64 9), .string ⟨([119, 101, 98]).toArray⟩, (.int .i64 0), (.int .i64 2048)]) (vs := [(.int .i64 9), .string ⟨([119, 101, 98]).toArray⟩, (.int .i64 0), (.int .i64 2048)]) (b := ((9 == 9) && (([119, 101, 98] == [119, 101, 98]) && ((0 == 0) && ((2048 == 2048) && true))))) (r := true) 9 rfl rfl rfl ⟨_, rfl⟩ ⟨_, rfl⟩ Tryd.underlying34 rfl eqg_34 (by decide) rfl rfl (eqV_34 9 9 [119, 101, 98] [119, 101, 98] 0 0 2048 2048) (.inl ⟨rfl, (by decide)⟩)) ?_
    refine zr (zp true (zB true)) ?_
    refine zM (zB true) ?_
    refine zM (zI 2) ?_
    refine zr (zi true) ?_
    refine zr (zp true (zB true)) ?_
    refine zM (zB true) ?_
    refine zM (zI 0) ?_
    refine zr (zi true) ?_
    refine zr (zp true (zB true)) ?_
    refine zM (zB true) ?_
    refine zM (.list false 9 (([[51, 32, 111, 110, 32, 109, 101, 109, 111, 114, 121], [51, 32, 117, 112, 32, 112]] : List (List UInt8)).map AV.str)) ?_
    refine zr (zL (([[51, 32, 111, 110, 32, 109, 101, 109, 111, 114, 121], [51, 32, 117, 112, 32, 112]] : List (List UInt8)).map AV.str) 2 Tryd.underlying23 rfl) ?_
    refine zr (zi true) ?_
    refine zr (zp true (zB true)) ?_
    refine zM (zB true) ?_
    refine zM (.list false 9 (([[51, 32, 111, 110, 32, 109, 101, 109, 111, 114, 121], [51, 32, 117, 112, 32, 112]] : List (List UInt8)).map AV.str)) ?_
    refine zr (zel 0 (.str [51, 32, 111, 110, 32, 109, 101, 109, 111, 114, 121]) Tryd.underlying23 sizeOf_9 rfl) ?_
    refine zr (zlE (.str [51, 32, 111, 110, 32, 109, 101, 109, 111, 114, 121]) Tryd.underlying9 sizeOf_9) ?_
    refine zr (zt true) ?_
    refine zr (zp true (zB true)) ?_
    refine zM (zB true) ?_
    refine zM (.list false 9 (([[51, 32, 111, 110, 32, 109, 101, 109, 111, 114, 121], [51, 32, 117, 112, 32, 112]] : List (List UInt8)).map AV.str)) ?_
    refine zr (zel 1 (.str [51, 32, 117, 112, 32, 112]) Tryd.underlying23 sizeOf_9 rfl) ?_
    refine zr (zlE (.str [51, 32, 117, 112, 32, 112]) Tryd.underlying9 sizeOf_9) ?_
    refine zr (zt true) ?_
    refine zr (zp true (zB true)) ?_
    refine zM (zB true) ?_
    refine zr (Reader.indexL (m := 6) rfl Tryd.underlying50 sizeOf_3 rfl rfl rfl (by decide)) ?_
    refine zr (zlL (zI 2) Tryd.underlying3 sizeOf_3) ?_
    refine zr (zi true) ?_
    refine zr (zp true (zB true)) ?_
    refine zM (zB true) ?_
    refine zr (Reader.indexL (m := 0) rfl Tryd.underlying50 sizeOf_3 rfl rfl rfl (by decide)) ?_
    refine zr (zlL (zI 0) Tryd.underlying3 sizeOf_3) ?_
    refine zr (zi true) ?_
    refine zr (zp true (zB true)) ?_
    refine zM (zB true) ?_
    refine zr (zlL (.agg [zI 9, .str [119, 101, 98], zI 0, zI 2048]) Tryd.underlying34 sizeOf_34) ?_
    refine zc [encE (⟨9, [119, 101, 98], 0, 2048⟩ : Ev)] Tryd.call24 (lria M) ?_
    rintro _ _ ⟨rfl, rfl⟩
    refine zr (zp true (zB true)) ?_
    refine zM (zB true) ?_
    exact AOps.nil rfl
  refine AWp.ret ?_
  exact ⟨.inl rfl, _, ResOf.one 0 (zB true) rfl rfl, ⟨rfl, rfl⟩⟩

end Go.Proofs.YtlpihekflkjkfaaDoor
