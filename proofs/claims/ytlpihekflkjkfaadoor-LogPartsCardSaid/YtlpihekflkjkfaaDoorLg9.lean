/- Walks over abstract values, printed by my program av.py. -/
import Derived.Test.YtlpihekflkjkfaaDoorLg8
namespace Go.Proofs.YtlpihekflkjkfaaDoor
open Go.RowKit
theorem lla_0 (M : Nat → Option (List AV)) : ACall Tryd.prog 22 [.lit (.int .i64 7), encE ⟨5, [97], 1, 0⟩] M (fun r M' => r = .tuple [.str [55, 32, 101, 118, 105, 99, 116, 32, 97, 32, 100, 105, 115, 107], .lit (.int .i64 0)] ∧ M = M') := by
  have h := lline_any 7 ⟨5, [97], 1, 0⟩ (by decide) (by decide) M
  rw [show textE 7 ⟨5, [97], 1, 0⟩ = [55, 32, 101, 118, 105, 99, 116, 32, 97, 32, 100, 105, 115, 107] from by decide +kernel, show errE 7 ⟨5, [97], 1, 0⟩ = 0 from by decide +kernel] at h
  exact h
theorem lla_1 (M : Nat → Option (List AV)) : ACall Tryd.prog 22 [.lit (.int .i64 0), encE ⟨3, [98], 2, 3⟩] M (fun r M' => r = .tuple [.str [48, 32, 114, 101, 106, 101, 99, 116, 32, 98, 32, 112, 114, 101, 115, 115, 117, 114, 101, 32, 112, 105, 100], .lit (.int .i64 0)] ∧ M = M') := by
  have h := lline_any 0 ⟨3, [98], 2, 3⟩ (by decide) (by decide) M
  rw [show textE 0 ⟨3, [98], 2, 3⟩ = [48, 32, 114, 101, 106, 101, 99, 116, 32, 98, 32, 112, 114, 101, 115, 115, 117, 114, 101, 32, 112, 105, 100] from by decide +kernel, show errE 0 ⟨3, [98], 2, 3⟩ = 0 from by decide +kernel] at h
  exact h
theorem lla_2 (M : Nat → Option (List AV)) : ACall Tryd.prog 22 [.lit (.int .i64 1), encE ⟨0, [], 0, 0⟩] M (fun r M' => r = .tuple [.str [], .lit (.int .i64 1)] ∧ M = M') := by
  have h := lline_any 1 ⟨0, [], 0, 0⟩ (by decide) (by decide) M
  rw [show textE 1 ⟨0, [], 0, 0⟩ = [] from by decide +kernel, show errE 1 ⟨0, [], 0, 0⟩ = 1 from by decide +kernel] at h
  exact h
theorem lra_0 (M : Nat → Option (List AV)) : ACall Tryd.prog 25 [.str [49, 50, 32, 112, 117, 108, 108, 32, 119, 101, 98, 32, 50, 48, 52, 56]] M (fun r M' => r = .tuple [.lit (.int .i64 12), encE ⟨9, [119, 101, 98], 0, 2048⟩, .lit (.int .i64 0)] ∧ M = M') := by
  have h := lread_any [49, 50, 32, 112, 117, 108, 108, 32, 119, 101, 98, 32, 50, 48, 52, 56] (by decide) M
  rw [show rdN [49, 50, 32, 112, 117, 108, 108, 32, 119, 101, 98, 32, 50, 48, 52, 56] = 12 from by decide +kernel, show rdE [49, 50, 32, 112, 117, 108, 108, 32, 119, 101, 98, 32, 50, 48, 52, 56] = ⟨9, [119, 101, 98], 0, 2048⟩ from by decide +kernel, show rdX [49, 50, 32, 112, 117, 108, 108, 32, 119, 101, 98, 32, 50, 48, 52, 56] = 0 from by decide +kernel] at h
  exact h
theorem lra_1 (M : Nat → Option (List AV)) : ACall Tryd.prog 25 [.str [49, 50, 32, 112, 117, 108, 108, 32, 119, 101, 98]] M (fun r M' => r = .tuple [.lit (.int .i64 0), encE ⟨0, [], 0, 0⟩, .lit (.int .i64 2)] ∧ M = M') := by
  have h := lread_any [49, 50, 32, 112, 117, 108, 108, 32, 119, 101, 98] (by decide) M
  rw [show rdN [49, 50, 32, 112, 117, 108, 108, 32, 119, 101, 98] = 0 from by decide +kernel, show rdE [49, 50, 32, 112, 117, 108, 108, 32, 119, 101, 98] = ⟨0, [], 0, 0⟩ from by decide +kernel, show rdX [49, 50, 32, 112, 117, 108, 108, 32, 119, 101, 98] = 2 from by decide +kernel] at h
  exact h
theorem llsa (M : Nat → Option (List AV)) : ACall Tryd.prog 28 [.list false 57 (([⟨0, [⟨6, [], 0, 0⟩, ⟨10, [112], 0, 0⟩], 3, [], false, false, false⟩] : List Stp).map encS)] M (fun r M' => r = .tuple [.list true 9 (([[51, 32, 111, 110, 32, 109, 101, 109, 111, 114, 121], [51, 32, 117, 112, 32, 112]] : List (List UInt8)).map AV.str), .lit (.int .i64 0)] ∧ M = M') := by
  have h := lines_any [⟨0, [⟨6, [], 0, 0⟩, ⟨10, [112], 0, 0⟩], 3, [], false, false, false⟩] (by intro x hx e he; simp only [List.mem_cons, List.mem_nil_iff, or_false] at hx; subst hx; simp only [List.mem_cons, List.mem_nil_iff, or_false] at he; rcases he with rfl | rfl <;> decide) (by decide) (by decide) M
  rw [show linesL [⟨0, [⟨6, [], 0, 0⟩, ⟨10, [112], 0, 0⟩], 3, [], false, false, false⟩] = [[51, 32, 111, 110, 32, 109, 101, 109, 111, 114, 121], [51, 32, 117, 112, 32, 112]] from by decide +kernel, show linesX [⟨0, [⟨6, [], 0, 0⟩, ⟨10, [112], 0, 0⟩], 3, [], false, false, false⟩] = 0 from by decide +kernel] at h
  exact h
theorem lca (M : Nat → Option (List AV)) : ACall Tryd.prog 29 [.list false 57 (([⟨0, [⟨6, [], 0, 0⟩, ⟨99, [], 0, 0⟩, ⟨6, [], 0, 0⟩], 0, [], false, false, false⟩] : List Stp).map encS)] M (fun r M' => r = .agg [.lit (.int .i64 0), .lit (.int .i64 0), .lit (.int .i64 0), .lit (.int .i64 0), .lit (.int .i64 0), .lit (.int .i64 0), .lit (.int .i64 2), .lit (.int .i64 0), .lit (.int .i64 0), .lit (.int .i64 0), .lit (.int .i64 0), .lit (.int .i64 0), .lit (.int .i64 0), .lit (.int .i64 0), .lit (.int .i64 0), .lit (.int .i64 0), .lit (.int .i64 0)] ∧ M = M') := by
  have h := count_any [⟨0, [⟨6, [], 0, 0⟩, ⟨99, [], 0, 0⟩, ⟨6, [], 0, 0⟩], 0, [], false, false, false⟩] (by decide) (by decide) M
  rw [show cntP (evsOf [⟨0, [⟨6, [], 0, 0⟩, ⟨99, [], 0, 0⟩, ⟨6, [], 0, 0⟩], 0, [], false, false, false⟩]) = [0, 0, 0, 0, 0, 0, 2, 0, 0, 0, 0, 0, 0, 0, 0, 0, 0] from by decide +kernel] at h
  exact h
theorem lria (M : Nat → Option (List AV)) : ACall Tryd.prog 24 [encE ⟨9, [119, 101, 98], 0, 2048⟩] M (fun r M' => r = .lit (.bool true) ∧ M = M') := by
  have h := lright_any ⟨9, [119, 101, 98], 0, 2048⟩ (by decide) (by decide) M
  rw [show decide (RightE ⟨9, [119, 101, 98], 0, 2048⟩) = true from by decide +kernel] at h
  exact h

set_option maxRecDepth 20000 in
theorem lawake_any  (M : Nat → Option (List AV)) : ACall Tryd.prog 21 [] M (fun r M' => r = .lit (.bool true) ∧ M = M') := by
  refine ACall.of Tryd.func21 rfl (n := 128) rfl rfl rfl ?_
  refine AWp.seq (AWp.region ?_)
  refine AOps.read trivial rfl (by decide) (Reader.move (.inr rfl) (ok_const rfl) (v := .lit (.bool false)) rfl) ?_
  refine AOps.nil ?_
  refine AWp.seq (AWp.region ?_)
  refine AOps.read trivial rfl (by decide) (Reader.build (xs := [(0, .lit (.int .i64 5)), (1, .str [97]), (2, .lit (.int .i64 1))]) (Es := []) (places := places_34) rfl Tryd.underlying34 (by refine ⟨rfl, fun j p x hp hx => ?_⟩; match j, hp, hx with | 0, hp, hx => cases hp; cases hx; exact ⟨rfl, .inl ⟨rfl, rfl⟩, rfl, rfl⟩ | 1, hp, hx => cases hp; cases hx; exact ⟨rfl, .inl ⟨rfl, rfl⟩, rfl, rfl⟩ | 2, hp, hx => cases hp; cases hx; exact ⟨rfl, .inl ⟨rfl, rfl⟩, rfl, rfl⟩ | _ + 3, hp, hx => cases hp) zero_34 rfl places_34_ok (cs := [.lit (.int .i64 5), .str [97], .lit (.int .i64 1), .lit (.int .i64 0)]) rfl) ?_
  refine AOps.call (args := [.lit (.int .i64 7), encE (⟨5, [97], 1, 0⟩ : Ev)]) trivial rfl (by decide) rfl rfl Tryd.call22 (args_ok rfl) rfl (by intro j x v hx hv; match j, hx, hv with | 0, hx, hv => cases hx; cases hv; exact .inl ⟨rfl, rfl⟩ | 1, hx, hv => cases hx; cases hv; exact .inl ⟨rfl, rfl⟩ | _ + 2, hx, hv => cases hx) (lla_0 M) ?_
  rintro _ _ ⟨rfl, rfl⟩
  refine AOps.read trivial rfl (by decide) (Reader.move (.inl rfl) (ok_const rfl) (v := .tuple [.str [55, 32, 101, 118, 105, 99, 116, 32, 97, 32, 100, 105, 115, 107], .lit (.int .i64 0)]) rfl) ?_
  refine AOps.read trivial rfl (by decide) (Reader.extract (v := .str [55, 32, 101, 118, 105, 99, 116, 32, 97, 32, 100, 105, 115, 107]) rfl rfl rfl rfl) ?_
  refine AOps.read trivial rfl (by decide) (Reader.extract (v := .lit (.int .i64 0)) rfl rfl rfl rfl) ?_
  refine AOps.read trivial rfl (by decide) (Reader.move (.inr rfl) (ok_const rfl) (v := .str [55, 32, 101, 118, 105, 99, 116, 32, 97, 32, 100, 105, 115, 107]) rfl) ?_
  refine AOps.read trivial rfl (by decide) (Reader.move (.inr rfl) (ok_const rfl) (v := .lit (.int .i64 0)) rfl) ?_
  refine AOps.nil ?_
  refine AWp.seq (AWp.region ?_)
  refine AOps.read trivial rfl (by decide) (Reader.build (xs := [(0, .lit (.int .i64 3)), (1, .str [98]), (2, .lit (.int .i64 2)), (3, .lit (.int .i64 3))]) (Es := []) (places := places_34) rfl Tryd.underlying34 (by refine ⟨rfl, fun j p x hp hx => ?_⟩; match j, hp, hx with | 0, hp, hx => cases hp; cases hx; exact ⟨rfl, .inl ⟨rfl, rfl⟩, rfl, rfl⟩ | 1, hp, hx => cases hp; cases hx; exact ⟨rfl, .inl ⟨rfl, rfl⟩, rfl, rfl⟩ | 2, hp, hx => cases hp; cases hx; exact ⟨rfl, .inl ⟨rfl, rfl⟩, rfl, rfl⟩ | 3, hp, hx => cases hp; cases hx; exact ⟨rfl, .inl ⟨rfl, rfl⟩, rfl, rfl⟩ | _ + 4, hp, hx => cases hp) zero_34 rfl places_34_ok (cs := [.lit (.int .i64 3), .str [98], .lit (.int .i64 2), .lit (.int .i64 3)]) rfl) ?_
  refine AOps.call (args := [.lit (.int .i64 0), encE (⟨3, [98], 2, 3⟩ : Ev)]) trivial rfl (by decide) rfl rfl Tryd.call22 (args_ok rfl) rfl (by intro j x v hx hv; match j, hx, hv with | 0, hx, hv => cases hx; cases hv; exact .inl ⟨rfl, rfl⟩ | 1, hx, hv => cases hx; cases hv; exact .inl ⟨rfl, rfl⟩ | _ + 2, hx, hv => cases hx) (lla_1 M) ?_
  rintro _ _ ⟨rfl, rfl⟩
  refine AOps.read trivial rfl (by decide) (Reader.move (.inl rfl) (ok_const rfl) (v := .tuple [.str [48, 32, 114, 101, 106, 101, 99, 116, 32, 98, 32, 112, 114, 101, 115, 115, 117, 114, 101, 32, 112, 105, 100], .lit (.int .i64 0)]) rfl) ?_
  refine AOps.read trivial rfl (by decide) (Reader.extract (v := .str [48, 32, 114, 101, 106, 101, 99, 116, 32, 98, 32, 112, 114, 101, 115, 115, 117, 114, 101, 32, 112, 105, 100]) rfl rfl rfl rfl) ?_
  refine AOps.read trivial rfl (by decide) (Reader.extract (v := .lit (.int .i64 0)) rfl rfl rfl rfl) ?_
  refine AOps.read trivial rfl (by decide) (Reader.move (.inr rfl) (ok_const rfl) (v := .str [48, 32, 114, 101, 106, 101, 99, 116, 32, 98, 32, 112, 114, 101, 115, 115, 117, 114, 101, 32, 112, 105, 100]) rfl) ?_
  refine AOps.read trivial rfl (by decide) (Reader.move (.inr rfl) (ok_const rfl) (v := .lit (.int .i64 0)) rfl) ?_
  refine AOps.nil ?_
  refine AWp.seq (AWp.region ?_)
  refine AOps.read trivial rfl (by decide) (Reader.build (xs := []) (Es := []) (places := places_34) rfl Tryd.underlying34 (by refine ⟨rfl, fun j p x hp hx => ?_⟩; match j, hp, hx with | _ + 0, hp, hx => cases hp) zero_34 rfl places_34_ok (cs := [.lit (.int .i64 0), .str [], .lit (.int .i64 0), .lit (.int .i64 0)]) rfl) ?_
  refine AOps.call (args := [.lit (.int .i64 1), encE (⟨0, [], 0, 0⟩ : Ev)]) trivial rfl (by decide) rfl rfl Tryd.call22 (args_ok rfl) rfl (by intro j x v hx hv; match j, hx, hv with | 0, hx, hv => cases hx; cases hv; exact .inl ⟨rfl, rfl⟩ | 1, hx, hv => cases hx; cases hv; exact .inl ⟨rfl, rfl⟩ | _ + 2, hx, hv => cases hx) (lla_2 M) ?_
  rintro _ _ ⟨rfl, rfl⟩
  refine AOps.read trivial rfl (by decide) (Reader.move (.inl rfl) (ok_const rfl) (v := .tuple [.str [], .lit (.int .i64 1)]) rfl) ?_
  refine AOps.read trivial rfl (by decide) (Reader.extract (v := .str []) rfl rfl rfl rfl) ?_
  refine AOps.read trivial rfl (by decide) (Reader.extract (v := .lit (.int .i64 1)) rfl rfl rfl rfl) ?_
  refine AOps.read trivial rfl (by decide) (Reader.move (.inr rfl) (ok_const rfl) (v := .str []) rfl) ?_
  refine AOps.read trivial rfl (by decide) (Reader.move (.inr rfl) (ok_const rfl) (v := .lit (.int .i64 1)) rfl) ?_
  refine AOps.nil ?_
  refine AWp.seq (AWp.region ?_)
  refine AOps.call (args := [.str [49, 50, 32, 112, 117, 108, 108, 32, 119, 101, 98, 32, 50, 48, 52, 56]]) trivial rfl (by decide) rfl rfl Tryd.call25 (args_ok rfl) rfl (by intro j x v hx hv; match j, hx, hv with | 0, hx, hv => cases hx; cases hv; exact .inl ⟨rfl, rfl⟩ | _ + 1, hx, hv => cases hx) (lra_0 M) ?_
  rintro _ _ ⟨rfl, rfl⟩
  refine AOps.read trivial rfl (by decide) (Reader.move (.inl rfl) (ok_const rfl) (v := .tuple [.lit (.int .i64 12), encE (⟨9, [119, 101, 98], 0, 2048⟩ : Ev), .lit (.int .i64 0)]) rfl) ?_
  refine AOps.read trivial rfl (by decide) (Reader.extract (v := .lit (.int .i64 12)) rfl rfl rfl rfl) ?_
  refine AOps.read trivial rfl (by decide) (Reader.extract (v := encE (⟨9, [119, 101, 98], 0, 2048⟩ : Ev)) rfl rfl rfl rfl) ?_
  refine AOps.read trivial rfl (by decide) (Reader.extract (v := .lit (.int .i64 0)) rfl rfl rfl rfl) ?_
  refine AOps.alloc (Es := []) trivial rfl (by decide) rfl (noL rfl) rfl zero_34 rfl (cells := [.lit (.int .i64 0), .str [], .lit (.int .i64 0), .lit (.int .i64 0)]) rfl (all_scalar rfl) (all_flat rfl) ?_
  refine AOps.read trivial rfl (by decide) (Reader.move (.inr rfl) (ok_const rfl) (v := .lit (.int .i64 12)) rfl) ?_
  refine AOps.storeL trivial rfl rfl rfl rfl sizeOf_34 (.inl ⟨rfl, rfl⟩) rfl (v := encE (⟨9, [119, 101, 98], 0, 2048⟩ : Ev)) rfl (all_flat rfl) rfl (Nat.le_of_ble_eq_true rfl) ?_
  refine AOps.read trivial rfl (by decide) (Reader.move (.inr rfl) (ok_const rfl) (v := .lit (.int .i64 0)) rfl) ?_
  refine AOps.nil ?_
  refine AWp.seq (AWp.region ?_)
  refine AOps.call (args := [.str [49, 50, 32, 112, 117, 108, 108, 32, 119, 101, 98]]) trivial rfl (by decide) rfl rfl Tryd.call25 (args_ok rfl) rfl (by intro j x v hx hv; match j, hx, hv with | 0, hx, hv => cases hx; cases hv; exact .inl ⟨rfl, rfl⟩ | _ + 1, hx, hv => cases hx) (lra_1 M) ?_
  rintro _ _ ⟨rfl, rfl⟩
  refine AOps.read trivial rfl (by decide) (Reader.move (.inl rfl) (ok_const rfl) (v := .tuple [.lit (.int .i64 0), encE (⟨0, [], 0, 0⟩ : Ev), .lit (.int .i64 2)]) rfl) ?_
  refine AOps.read trivial rfl (by decide) (Reader.extract (v := .lit (.int .i64 0)) rfl rfl rfl rfl) ?_
  refine AOps.read trivial rfl (by decide) (Reader.extract (v := encE (⟨0, [], 0, 0⟩ : Ev)) rfl rfl rfl rfl) ?_
  refine AOps.read trivial rfl (by decide) (Reader.extract (v := .lit (.int .i64 2)) rfl rfl rfl rfl) ?_
  refine AOps.alloc (Es := []) trivial rfl (by decide) rfl (noL rfl) rfl zero_34 rfl (cells := [.lit (.int .i64 0), .str [], .lit (.int .i64 0), .lit (.int .i64 0)]) rfl (all_scalar rfl) (all_flat rfl) ?_
  refine AOps.read trivial rfl (by decide) (Reader.move (.inr rfl) (ok_const rfl) (v := .lit (.int .i64 0)) rfl) ?_
  refine AOps.storeL trivial rfl rfl rfl rfl sizeOf_34 (.inl ⟨rfl, rfl⟩) rfl (v := encE (⟨0, [], 0, 0⟩ : Ev)) rfl (all_flat rfl) rfl (Nat.le_of_ble_eq_true rfl) ?_
  refine AOps.read trivial rfl (by decide) (Reader.move (.inr rfl) (ok_const rfl) (v := .lit (.int .i64 2)) rfl) ?_
  refine AOps.nil ?_
  refine AWp.seq (AWp.region ?_)
  refine AOps.read trivial rfl (by decide) (Reader.build (xs := [(0, .lit (.int .i64 3))]) (Es := [199]) (places := places_55) rfl Tryd.underlying55 (by refine ⟨rfl, fun j p x hp hx => ?_⟩; match j, hp, hx with | 0, hp, hx => cases hp; cases hx; exact ⟨rfl, .inl ⟨rfl, rfl⟩, rfl, rfl⟩ | _ + 1, hp, hx => cases hp) zero_55 rfl places_55_ok (cs := [.lit (.int .i64 3), .list false 199 [], .lit (.bool false), .lit (.bool false), .lit (.bool false)]) rfl) ?_
  refine AOps.read trivial rfl (by decide) (Reader.build (xs := [(0, .lit (.int .i64 6))]) (Es := []) (places := places_34) rfl Tryd.underlying34 (by refine ⟨rfl, fun j p x hp hx => ?_⟩; match j, hp, hx with | 0, hp, hx => cases hp; cases hx; exact ⟨rfl, .inl ⟨rfl, rfl⟩, rfl, rfl⟩ | _ + 1, hp, hx => cases hp) zero_34 rfl places_34_ok (cs := [.lit (.int .i64 6), .str [], .lit (.int .i64 0), .lit (.int .i64 0)]) rfl) ?_
  refine AOps.read trivial rfl (by decide) (Reader.build (xs := [(0, .lit (.int .i64 10)), (1, .str [112])]) (Es := []) (places := places_34) rfl Tryd.underlying34 (by refine ⟨rfl, fun j p x hp hx => ?_⟩; match j, hp, hx with | 0, hp, hx => cases hp; cases hx; exact ⟨rfl, .inl ⟨rfl, rfl⟩, rfl, rfl⟩ | 1, hp, hx => cases hp; cases hx; exact ⟨rfl, .inl ⟨rfl, rfl⟩, rfl, rfl⟩ | _ + 2, hp, hx => cases hp) zero_34 rfl places_34_ok (cs := [.lit (.int .i64 10), .str [112], .lit (.int .i64 0), .lit (.int .i64 0)]) rfl) ?_
  refine AOps.buildSlice (ys := [(0, .agg [.lit (.int .i64 6), .str [], .lit (.int .i64 0), .lit (.int .i64 0)]), (1, .agg [.lit (.int .i64 10), .str [112], .lit (.int .i64 0), .lit (.int .i64 0)])]) (Es := []) (cs := [.lit (.int .i64 6), .str [], .lit (.int .i64 0), .lit (.int .i64 0), .lit (.int .i64 10), .str [112], .lit (.int .i64 0), .lit (.int .i64 0)]) (xs := [.agg [.lit (.int .i64 6), .str [], .lit (.int .i64 0), .lit (.int .i64 0)], .agg [.lit (.int .i64 10), .str [112], .lit (.int .i64 0), .lit (.int .i64 0)]]) trivial rfl (by decide) rfl Tryd.underlying51 Tryd.i34 rfl rfl rfl (by decide) (by refine ⟨rfl, fun j p x hp hx => ?_⟩; match j, hp, hx with | 0, hp, hx => cases hp; cases hx; exact ⟨rfl, .inl ⟨rfl, rfl⟩, rfl, rfl⟩ | 1, hp, hx => cases hp; cases hx; exact ⟨rfl, .inl ⟨rfl, rfl⟩, rfl, rfl⟩ | _ + 2, hp, hx => cases hp) rfl rfl rfl (all_len rfl) (all_sc rfl) rfl ?_
  refine AOps.read trivial rfl (by decide) (Reader.build (xs := [(2, .agg [.lit (.int .i64 3), .list false 199 [], .lit (.bool false), .lit (.bool false), .lit (.bool false)]), (1, .list false 34 [.agg [.lit (.int .i64 6), .str [], .lit (.int .i64 0), .lit (.int .i64 0)], .agg [.lit (.int .i64 10), .str [112], .lit (.int .i64 0), .lit (.int .i64 0)]])]) (Es := [34, 199]) (places := places_57) rfl Tryd.underlying57 (by refine ⟨rfl, fun j p x hp hx => ?_⟩; match j, hp, hx with | 0, hp, hx => cases hp; cases hx; exact ⟨rfl, .inl ⟨rfl, rfl⟩, rfl, rfl⟩ | 1, hp, hx => cases hp; cases hx; exact ⟨rfl, .inl ⟨rfl, rfl⟩, rfl, rfl⟩ | _ + 2, hp, hx => cases hp) zero_57 rfl places_57_ok (cs := [.lit (.int .i64 0), .list false 34 [.agg [.lit (.int .i64 6), .str [], .lit (.int .i64 0), .lit (.int .i64 0)], .agg [.lit (.int .i64 10), .str [112], .lit (.int .i64 0), .lit (.int .i64 0)]], .lit (.int .i64 3), .list false 199 [], .lit (.bool false), .lit (.bool false), .lit (.bool false)]) rfl) ?_
  refine AOps.buildSlice (ys := [(0, .agg [.lit (.int .i64 0), .list false 34 [.agg [.lit (.int .i64 6), .str [], .lit (.int .i64 0), .lit (.int .i64 0)], .agg [.lit (.int .i64 10), .str [112], .lit (.int .i64 0), .lit (.int .i64 0)]], .lit (.int .i64 3), .list false 199 [], .lit (.bool false), .lit (.bool false), .lit (.bool false)])]) (Es := [34, 199]) (cs := [.lit (.int .i64 0), .list false 34 [.agg [.lit (.int .i64 6), .str [], .lit (.int .i64 0), .lit (.int .i64 0)], .agg [.lit (.int .i64 10), .str [112], .lit (.int .i64 0), .lit (.int .i64 0)]], .lit (.int .i64 3), .list false 199 [], .lit (.bool false), .lit (.bool false), .lit (.bool false)]) (xs := [.agg [.lit (.int .i64 0), .list false 34 [.agg [.lit (.int .i64 6), .str [], .lit (.int .i64 0), .lit (.int .i64 0)], .agg [.lit (.int .i64 10), .str [112], .lit (.int .i64 0), .lit (.int .i64 0)]], .lit (.int .i64 3), .list false 199 [], .lit (.bool false), .lit (.bool false), .lit (.bool false)]]) trivial rfl (by decide) rfl Tryd.underlying48 Tryd.i57 rfl rfl rfl (by decide) (by refine ⟨rfl, fun j p x hp hx => ?_⟩; match j, hp, hx with | 0, hp, hx => cases hp; cases hx; exact ⟨rfl, .inl ⟨rfl, rfl⟩, rfl, rfl⟩ | _ + 1, hp, hx => cases hp) rfl rfl rfl (all_len rfl) (all_sc rfl) rfl ?_
  refine AOps.call (args := [.list false 57 (([⟨0, [⟨6, [], 0, 0⟩, ⟨10, [112], 0, 0⟩], 3, [], false, false, false⟩] : List Stp).map encS)]) trivial rfl (by decide) rfl rfl Tryd.call28 (args_ok rfl) rfl (by intro j x v hx hv; match j, hx, hv with | 0, hx, hv => cases hx; cases hv; exact .inl ⟨rfl, rfl⟩ | _ + 1, hx, hv => cases hx) (llsa M) ?_
  rintro _ _ ⟨rfl, rfl⟩
  refine AOps.read trivial rfl (by decide) (Reader.move (.inl rfl) (ok_const rfl) (v := .tuple [.list false 9 (([[51, 32, 111, 110, 32, 109, 101, 109, 111, 114, 121], [51, 32, 117, 112, 32, 112]] : List (List UInt8)).map AV.str), .lit (.int .i64 0)]) rfl) ?_
  refine AOps.read trivial rfl (by decide) (Reader.extract (v := .list false 9 (([[51, 32, 111, 110, 32, 109, 101, 109, 111, 114, 121], [51, 32, 117, 112, 32, 112]] : List (List UInt8)).map AV.str)) rfl rfl rfl rfl) ?_
  refine AOps.read trivial rfl (by decide) (Reader.extract (v := .lit (.int .i64 0)) rfl rfl rfl rfl) ?_
  refine AOps.read trivial rfl (by decide) (Reader.move (.inr rfl) (ok_const rfl) (v := .list false 9 (([[51, 32, 111, 110, 32, 109, 101, 109, 111, 114, 121], [51, 32, 117, 112, 32, 112]] : List (List UInt8)).map AV.str)) rfl) ?_
  refine AOps.read trivial rfl (by decide) (Reader.move (.inr rfl) (ok_const rfl) (v := .lit (.int .i64 0)) rfl) ?_
  refine AOps.nil ?_
  refine AWp.seq (AWp.region ?_)
  refine AOps.read trivial rfl (by decide) (Reader.build (xs := [(0, .lit (.int .i64 6))]) (Es := []) (places := places_34) rfl Tryd.underlying34 (by refine ⟨rfl, fun j p x hp hx => ?_⟩; match j, hp, hx with | 0, hp, hx => cases hp; cases hx; exact ⟨rfl, .inl ⟨rfl, rfl⟩, rfl, rfl⟩ | _ + 1, hp, hx => cases hp) zero_34 rfl places_34_ok (cs := [.lit (.int .i64 6), .str [], .lit (.int .i64 0), .lit (.int .i64 0)]) rfl) ?_
  refine AOps.read trivial rfl (by decide) (Reader.build (xs := [(0, .lit (.int .i64 99))]) (Es := []) (places := places_34) rfl Tryd.underlying34 (by refine ⟨rfl, fun j p x hp hx => ?_⟩; match j, hp, hx with | 0, hp, hx => cases hp; cases hx; exact ⟨rfl, .inl ⟨rfl, rfl⟩, rfl, rfl⟩ | _ + 1, hp, hx => cases hp) zero_34 rfl places_34_ok (cs := [.lit (.int .i64 99), .str [], .lit (.int .i64 0), .lit (.int .i64 0)]) rfl) ?_
  refine AOps.read trivial rfl (by decide) (Reader.build (xs := [(0, .lit (.int .i64 6))]) (Es := []) (places := places_34) rfl Tryd.underlying34 (by refine ⟨rfl, fun j p x hp hx => ?_⟩; match j, hp, hx with | 0, hp, hx => cases hp; cases hx; exact ⟨rfl, .inl ⟨rfl, rfl⟩, rfl, rfl⟩ | _ + 1, hp, hx => cases hp) zero_34 rfl places_34_ok (cs := [.lit (.int .i64 6), .str [], .lit (.int .i64 0), .lit (.int .i64 0)]) rfl) ?_
  refine AOps.buildSlice (ys := [(0, .agg [.lit (.int .i64 6), .str [], .lit (.int .i64 0), .lit (.int .i64 0)]), (1, .agg [.lit (.int .i64 99), .str [], .lit (.int .i64 0), .lit (.int .i64 0)]), (2, .agg [.lit (.int .i64 6), .str [], .lit (.int .i64 0), .lit (.int .i64 0)])]) (Es := []) (cs := [.lit (.int .i64 6), .str [], .lit (.int .i64 0), .lit (.int .i64 0), .lit (.int .i64 99), .str [], .lit (.int .i64 0), .lit (.int .i64 0), .lit (.int .i64 6), .str [], .lit (.int .i64 0), .lit (.int .i64 0)]) (xs := [.agg [.lit (.int .i64 6), .str [], .lit (.int .i64 0), .lit (.int .i64 0)], .agg [.lit (.int .i64 99), .str [], .lit (.int .i64 0), .lit (.int .i64 0)], .agg [.lit (.int .i64 6), .str [], .lit (.int .i64 0), .lit (.int .i64 0)]]) trivial rfl (by decide) rfl Tryd.underlying51 Tryd.i34 rfl rfl rfl (by decide) (by refine ⟨rfl, fun j p x hp hx => ?_⟩; match j, hp, hx with | 0, hp, hx => cases hp; cases hx; exact ⟨rfl, .inl ⟨rfl, rfl⟩, rfl, rfl⟩ | 1, hp, hx => cases hp; cases hx; exact ⟨rfl, .inl ⟨rfl, rfl⟩, rfl, rfl⟩ | 2, hp, hx => cases hp; cases hx; exact ⟨rfl, .inl ⟨rfl, rfl⟩, rfl, rfl⟩ | _ + 3, hp, hx => cases hp) rfl rfl rfl (all_len rfl) (all_sc rfl) rfl ?_
  refine AOps.read trivial rfl (by decide) (Reader.build (xs := [(1, .list false 34 [.agg [.lit (.int .i64 6), .str [], .lit (.int .i64 0), .lit (.int .i64 0)], .agg [.lit (.int .i64 99), .str [], .lit (.int .i64 0), .lit (.int .i64 0)], .agg [.lit (.int .i64 6), .str [], .lit (.int .i64 0), .lit (.int .i64 0)]])]) (Es := [34, 199]) (places := places_57) rfl Tryd.underlying57 (by refine ⟨rfl, fun j p x hp hx => ?_⟩; match j, hp, hx with | 0, hp, hx => cases hp; cases hx; exact ⟨rfl, .inl ⟨rfl, rfl⟩, rfl, rfl⟩ | _ + 1, hp, hx => cases hp) zero_57 rfl places_57_ok (cs := [.lit (.int .i64 0), .list false 34 [.agg [.lit (.int .i64 6), .str [], .lit (.int .i64 0), .lit (.int .i64 0)], .agg [.lit (.int .i64 99), .str [], .lit (.int .i64 0), .lit (.int .i64 0)], .agg [.lit (.int .i64 6), .str [], .lit (.int .i64 0), .lit (.int .i64 0)]], .lit (.int .i64 0), .list false 199 [], .lit (.bool false), .lit (.bool false), .lit (.bool false)]) rfl) ?_
  refine AOps.buildSlice (ys := [(0, .agg [.lit (.int .i64 0), .list false 34 [.agg [.lit (.int .i64 6), .str [], .lit (.int .i64 0), .lit (.int .i64 0)], .agg [.lit (.int .i64 99), .str [], .lit (.int .i64 0), .lit (.int .i64 0)], .agg [.lit (.int .i64 6), .str [], .lit (.int .i64 0), .lit (.int .i64 0)]], .lit (.int .i64 0), .list false 199 [], .lit (.bool false), .lit (.bool false), .lit (.bool false)])]) (Es := [34, 199]) (cs := [.lit (.int .i64 0), .list false 34 [.agg [.lit (.int .i64 6), .str [], .lit (.int .i64 0), .lit (.int .i64 0)], .agg [.lit (.int .i64 99), .str [], .lit (.int .i64 0), .lit (.int .i64 0)], .agg [.lit (.int .i64 6), .str [], .lit (.int .i64 0), .lit (.int .i64 0)]], .lit (.int .i64 0), .list false 199 [], .lit (.bool false), .lit (.bool false), .lit (.bool false)]) (xs := [.agg [.lit (.int .i64 0), .list false 34 [.agg [.lit (.int .i64 6), .str [], .lit (.int .i64 0), .lit (.int .i64 0)], .agg [.lit (.int .i64 99), .str [], .lit (.int .i64 0), .lit (.int .i64 0)], .agg [.lit (.int .i64 6), .str [], .lit (.int .i64 0), .lit (.int .i64 0)]], .lit (.int .i64 0), .list false 199 [], .lit (.bool false), .lit (.bool false), .lit (.bool false)]]) trivial rfl (by decide) rfl Tryd.underlying48 Tryd.i57 rfl rfl rfl (by decide) (by refine ⟨rfl, fun j p x hp hx => ?_⟩; match j, hp, hx with | 0, hp, hx => cases hp; cases hx; exact ⟨rfl, .inl ⟨rfl, rfl⟩, rfl, rfl⟩ | _ + 1, hp, hx => cases hp) rfl rfl rfl (all_len rfl) (all_sc rfl) rfl ?_
  refine AOps.call (args := [.list false 57 (([⟨0, [⟨6, [], 0, 0⟩, ⟨99, [], 0, 0⟩, ⟨6, [], 0, 0⟩], 0, [], false, false, false⟩] : List Stp).map encS)]) trivial rfl (by decide) rfl rfl Tryd.call29 (args_ok rfl) rfl (by intro j x v hx hv; match j, hx, hv with | 0, hx, hv => cases hx; cases hv; exact .inl ⟨rfl, rfl⟩ | _ + 1, hx, hv => cases hx) (lca M) ?_
  rintro _ _ ⟨rfl, rfl⟩
  refine AOps.alloc (Es := []) trivial rfl (by decide) rfl (noL rfl) rfl zero_50 rfl (cells := [.lit (.int .i64 0), .lit (.int .i64 0), .lit (.int .i64 0), .lit (.int .i64 0), .lit (.int .i64 0), .lit (.int .i64 0), .lit (.int .i64 0), .lit (.int .i64 0), .lit (.int .i64 0), .lit (.int .i64 0), .lit (.int .i64 0), .lit (.int .i64 0), .lit (.int .i64 0), .lit (.int .i64 0), .lit (.int .i64 0), .lit (.int .i64 0), .lit (.int .i64 0)]) rfl (all_scalar rfl) (all_flat rfl) ?_
  refine AOps.storeL trivial rfl rfl rfl rfl sizeOf_50 (.inl ⟨rfl, rfl⟩) rfl (v := .agg [.lit (.int .i64 0), .lit (.int .i64 0), .lit (.int .i64 0), .lit (.int .i64 0), .lit (.int .i64 0), .lit (.int .i64 0), .lit (.int .i64 2), .lit (.int .i64 0), .lit (.int .i64 0), .lit (.int .i64 0), .lit (.int .i64 0), .lit (.int .i64 0), .lit (.int .i64 0), .lit (.int .i64 0), .lit (.int .i64 0), .lit (.int .i64 0), .lit (.int .i64 0)]) rfl (all_flat rfl) rfl (Nat.le_of_ble_eq_true rfl) ?_
  refine AOps.nil ?_
  refine AWp.regionJ [0, 1, 2, 3, 4, 6, 8, 7, 9, 12, 13, 14, 15] [8, 11, 15] (fun z => ⟨(0, .lit (.bool z)) :: [(1, .str [55, 32, 101, 118, 105, 99, 116, 32, 97, 32, 100, 105, 115, 107]), (2, .lit (.int .i64 0)), (3, .str [48, 32, 114, 101, 106, 101, 99, 116, 32, 98, 32, 112, 114, 101, 115, 115, 117, 114, 101, 32, 112, 105, 100]), (4, .lit (.int .i64 0)), (6, .lit (.int .i64 1)), (8, .lptr 8 0), (7, .lit (.int .i64 12)), (9, .lit (.int .i64 0)), (12, .lit (.int .i64 2)), (13, .list false 9 (([[51, 32, 111, 110, 32, 109, 101, 109, 111, 114, 121], [51, 32, 117, 112, 32, 112]] : List (List UInt8)).map AV.str)), (14, .lit (.int .i64 0)), (15, .lptr 15 0)], [(8, [.lit (.int .i64 9), .str [119, 101, 98], .lit (.int .i64 0), .lit (.int .i64 2048)]), (11, [.lit (.int .i64 0), .str [], .lit (.int .i64 0), .lit (.int .i64 0)]), (15, [.lit (.int .i64 0), .lit (.int .i64 0), .lit (.int .i64 0), .lit (.int .i64 0), .lit (.int .i64 0), .lit (.int .i64 0), .lit (.int .i64 2), .lit (.int .i64 0), .lit (.int .i64 0), .lit (.int .i64 0), .lit (.int .i64 0), .lit (.int .i64 0), .lit (.int .i64 0), .lit (.int .i64 0), .lit (.int .i64 0), .lit (.int .i64 0), .lit (.int .i64 0)])], M⟩) (z := true) ?_ ?_
  · skip
    refine AOps.read trivial rfl (by decide) (Reader.move (.inl rfl) (ok_const rfl) (v := .lit (.int .i64 0)) rfl) ?_
    refine AOps.read trivial rfl (by decide) (Reader.int rfl rfl rfl (r := .bool true) rfl) ?_
    refine AOps.read trivial rfl (by decide) (Reader.move (.inl rfl) (ok_const rfl) (v := .lit (.bool true)) rfl) ?_
    refine AOps.read ⟨60, rfl, rfl⟩ rfl (by decide) (Reader.move (.inl rfl) (ok_const rfl) (v := .str [55, 32, 101, 118, 105, 99, 116, 32, 97, 32, 100, 105, 115, 107]) rfl) ?_
    refine AOps.read ⟨60, rfl, rfl⟩ rfl (by decide) (Reader.strs rfl rfl rfl (r := true) rfl) ?_
    refine AOps.read trivial rfl (by decide) (Reader.pick rfl (b := true) rfl (ok_const rfl) (ok_const rfl) (v := .lit (.bool true)) rfl) ?_
    refine AOps.read trivial rfl (by decide) (Reader.move (.inl rfl) (ok_const rfl) (v := .lit (.bool true)) rfl) ?_
    refine AOps.read ⟨64, rfl, rfl⟩ rfl (by decide) (Reader.move (.inl rfl) (ok_const rfl) (v := .lit (.int .i64 0)) rfl) ?_
    refine AOps.read ⟨64, rfl, rfl⟩ rfl (by decide) (Reader.int rfl rfl rfl (r := .bool true) rfl) ?_
    refine AOps.read trivial rfl (by decide) (Reader.pick rfl (b := true) rfl (ok_const rfl) (ok_const rfl) (v := .lit (.bool true)) rfl) ?_
    refine AOps.read trivial rfl (by decide) (Reader.move (.inl rfl) (ok_const rfl) (v := .lit (.bool true)) rfl) ?_
    refine AOps.read ⟨68, rfl, rfl⟩ rfl (by decide) (Reader.move (.inl rfl) (ok_const rfl) (v := .str [48, 32, 114, 101, 106, 101, 99, 116, 32, 98, 32, 112, 114, 101, 115, 115, 117, 114, 101, 32, 112, 105, 100]) rfl) ?_
    refine AOps.read ⟨68, rfl, rfl⟩ rfl (by decide) (Reader.strs rfl rfl rfl (r := true) rfl) ?_
    refine AOps.read trivial rfl (by decide) (Reader.pick rfl (b := true) rfl (ok_const rfl) (ok_const rfl) (v := .lit (.bool true)) rfl) ?_
    refine AOps.read trivial rfl (by decide) (Reader.move (.inl rfl) (ok_const rfl) (v := .lit (.bool true)) rfl) ?_
    refine AOps.read ⟨72, rfl, rfl⟩ rfl (by decide) (Reader.move (.inl rfl) (ok_const rfl) (v := .lit (.int .i64 1)) rfl) ?_
    refine AOps.read ⟨72, rfl, rfl⟩ rfl (by decide) (Reader.int rfl rfl rfl (r := .bool true) rfl) ?_
    refine AOps.read trivial rfl (by decide) (Reader.pick rfl (b := true) rfl (ok_const rfl) (ok_const rfl) (v := .lit (.bool true)) rfl) ?_
    refine AOps.read trivial rfl (by decide) (Reader.move (.inl rfl) (ok_const rfl) (v := .lit (.bool true)) rfl) ?_
    refine AOps.read ⟨76, rfl, rfl⟩ rfl (by decide) (Reader.move (.inl rfl) (ok_const rfl) (v := .lit (.int .i64 0)) rfl) ?_
    refine AOps.read ⟨76, rfl, rfl⟩ rfl (by decide) (Reader.int rfl rfl rfl (r := .bool true) rfl) ?_
    refine AOps.read trivial rfl (by decide) (Reader.pick rfl (b := true) rfl (ok_const rfl) (ok_const rfl) (v := .lit (.bool true)) rfl) ?_
    refine AOps.read trivial rfl (by decide) (Reader.move (.inl rfl) (ok_const rfl) (v := .lit (.bool true)) rfl) ?_
    refine AOps.read ⟨80, rfl, rfl⟩ rfl (by decide) (Reader.move (.inl rfl) (ok_const rfl) (v := .lit (.int .i64 12)) rfl) ?_
    refine AOps.read ⟨80, rfl, rfl⟩ rfl (by decide) (Reader.int rfl rfl rfl (r := .bool true) rfl) ?_
    refine AOps.read trivial rfl (by decide) (Reader.pick rfl (b := true) rfl (ok_const rfl) (ok_const rfl) (v := .lit (.bool true)) rfl) ?_
    refine AOps.read trivial rfl (by decide) (Reader.move (.inl rfl) (ok_const rfl) (v := .lit (.bool true)) rfl) ?_
    refine AOps.read ⟨84, rfl, rfl⟩ rfl (by decide) (Reader.loadL rfl Tryd.underlying34 sizeOf_34 rfl rfl (v := .agg [.lit (.int .i64 9), .str [119, 101, 98], .lit (.int .i64 0), .lit (.int .i64 2048)]) rfl rfl) ?_
    refine AOps.read ⟨84, rfl, rfl⟩ rfl (by decide) (Reader.build (xs := [(0, .lit (.int .i64 9)), (1, .str [119, 101, 98]), (3, .lit (.int .i64 2048))]) (Es := []) (places := places_34) rfl Tryd.underlying34 (by refine ⟨rfl, fun j p x hp hx => ?_⟩; match j, hp, hx with | 0, hp, hx => cases hp; cases hx; exact ⟨rfl, .inl ⟨rfl, rfl⟩, rfl, rfl⟩ | 1, hp, hx => cases hp; cases hx; exact ⟨rfl, .inl ⟨rfl, rfl⟩, rfl, rfl⟩ | 2, hp, hx => cases hp; cases hx; exact ⟨rfl, .inl ⟨rfl, rfl⟩, rfl, rfl⟩ | _ + 3, hp, hx => cases hp) zero_34 rfl places_34_ok (cs := [.lit (.int .i64 9), .str [119, 101, 98], .lit (.int .i64 0), .lit (.int .i64 2048)]) rfl) ?_
    refine AOps.read ⟨84, rfl, rfl⟩ rfl (by decide) (Reader.eqAgg (us := [(.int .i64 9), .string ⟨([119, 101, 98]).toArray⟩, (.int .i64 0), (.int .i64 2048)]) (vs := [(.int .i64 9), .string ⟨([119, 101, 98]).toArray⟩, (.int .i64 0), (.int .i64 2048)]) (b := ((9 == 9) && (([119, 101, 98] == [119, 101, 98]) && ((0 == 0) && ((2048 == 2048) && true))))) (r := true) 9 rfl rfl rfl ⟨_, rfl⟩ ⟨_, rfl⟩ Tryd.underlying34 rfl eqg_34 (by decide) rfl rfl (eqV_34 9 9 [119, 101, 98] [119, 101, 98] 0 0 2048 2048) (.inl ⟨rfl, (by decide)⟩)) ?_
    refine AOps.read trivial rfl (by decide) (Reader.pick rfl (b := true) rfl (ok_const rfl) (ok_const rfl) (v := .lit (.bool true)) rfl) ?_
    refine AOps.read trivial rfl (by decide) (Reader.move (.inl rfl) (ok_const rfl) (v := .lit (.bool true)) rfl) ?_
    refine AOps.read ⟨89, rfl, rfl⟩ rfl (by decide) (Reader.move (.inl rfl) (ok_const rfl) (v := .lit (.int .i64 2)) rfl) ?_
    refine AOps.read ⟨89, rfl, rfl⟩ rfl (by decide) (Reader.int rfl rfl rfl (r := .bool true) rfl) ?_
    refine AOps.read trivial rfl (by decide) (Reader.pick rfl (b := true) rfl (ok_const rfl) (ok_const rfl) (v := .lit (.bool true)) rfl) ?_
    refine AOps.read trivial rfl (by decide) (Reader.move (.inl rfl) (ok_const rfl) (v := .lit (.bool true)) rfl) ?_
    refine AOps.read ⟨93, rfl, rfl⟩ rfl (by decide) (Reader.move (.inl rfl) (ok_const rfl) (v := .lit (.int .i64 0)) rfl) ?_
    refine AOps.read ⟨93, rfl, rfl⟩ rfl (by decide) (Reader.int rfl rfl rfl (r := .bool true) rfl) ?_
    refine AOps.read trivial rfl (by decide) (Reader.pick rfl (b := true) rfl (ok_const rfl) (ok_const rfl) (v := .lit (.bool true)) rfl) ?_
    refine AOps.read trivial rfl (by decide) (Reader.move (.inl rfl) (ok_const rfl) (v := .lit (.bool true)) rfl) ?_
    refine AOps.read ⟨97, rfl, rfl⟩ rfl (by decide) (Reader.move (.inl rfl) (ok_const rfl) (v := .list false 9 (([[51, 32, 111, 110, 32, 109, 101, 109, 111, 114, 121], [51, 32, 117, 112, 32, 112]] : List (List UInt8)).map AV.str)) rfl) ?_
    refine AOps.read ⟨97, rfl, rfl⟩ rfl (by decide) (Reader.len' (xs := ([[51, 32, 111, 110, 32, 109, 101, 109, 111, 114, 121], [51, 32, 117, 112, 32, 112]] : List (List UInt8)).map AV.str) rfl rfl rfl rfl Tryd.underlying23 rfl (m := 2) rfl) ?_
    refine AOps.read ⟨97, rfl, rfl⟩ rfl (by decide) (Reader.int rfl rfl rfl (r := .bool true) rfl) ?_
    refine AOps.read trivial rfl (by decide) (Reader.pick rfl (b := true) rfl (ok_const rfl) (ok_const rfl) (v := .lit (.bool true)) rfl) ?_
    refine AOps.read trivial rfl (by decide) (Reader.move (.inl rfl) (ok_const rfl) (v := .lit (.bool true)) rfl) ?_
    refine AOps.read ⟨102, rfl, rfl⟩ rfl (by decide) (Reader.move (.inl rfl) (ok_const rfl) (v := .list false 9 (([[51, 32, 111, 110, 32, 109, 101, 109, 111, 114, 121], [51, 32, 117, 112, 32, 112]] : List (List UInt8)).map AV.str)) rfl) ?_
    refine AOps.read ⟨102, rfl, rfl⟩ rfl (by decide) (Reader.elemAddr (m := 0) rfl Tryd.underlying23 sizeOf_9 rfl rfl rfl (e := .str [51, 32, 111, 110, 32, 109, 101, 109, 111, 114, 121]) rfl) ?_
    refine AOps.read ⟨102, rfl, rfl⟩ rfl (by decide) (Reader.loadE rfl Tryd.underlying9 sizeOf_9 rfl (v := .str [51, 32, 111, 110, 32, 109, 101, 109, 111, 114, 121]) rfl rfl) ?_
    refine AOps.read ⟨102, rfl, rfl⟩ rfl (by decide) (Reader.strs rfl rfl rfl (r := true) rfl) ?_
    refine AOps.read trivial rfl (by decide) (Reader.pick rfl (b := true) rfl (ok_const rfl) (ok_const rfl) (v := .lit (.bool true)) rfl) ?_
    refine AOps.read trivial rfl (by decide) (Reader.move (.inl rfl) (ok_const rfl) (v := .lit (.bool true)) rfl) ?_
    refine AOps.read ⟨108, rfl, rfl⟩ rfl (by decide) (Reader.move (.inl rfl) (ok_const rfl) (v := .list false 9 (([[51, 32, 111, 110, 32, 109, 101, 109, 111, 114, 121], [51, 32, 117, 112, 32, 112]] : List (List UInt8)).map AV.str)) rfl) ?_
    refine AOps.read ⟨108, rfl, rfl⟩ rfl (by decide) (Reader.elemAddr (m := 1) rfl Tryd.underlying23 sizeOf_9 rfl rfl rfl (e := .str [51, 32, 117, 112, 32, 112]) rfl) ?_
    refine AOps.read ⟨108, rfl, rfl⟩ rfl (by decide) (Reader.loadE rfl Tryd.underlying9 sizeOf_9 rfl (v := .str [51, 32, 117, 112, 32, 112]) rfl rfl) ?_
    refine AOps.read ⟨108, rfl, rfl⟩ rfl (by decide) (Reader.strs rfl rfl rfl (r := true) rfl) ?_
    refine AOps.read trivial rfl (by decide) (Reader.pick rfl (b := true) rfl (ok_const rfl) (ok_const rfl) (v := .lit (.bool true)) rfl) ?_
    refine AOps.read trivial rfl (by decide) (Reader.move (.inl rfl) (ok_const rfl) (v := .lit (.bool true)) rfl) ?_
    refine AOps.read ⟨114, rfl, rfl⟩ rfl (by decide) (Reader.indexL (m := 6) rfl Tryd.underlying50 sizeOf_3 rfl rfl rfl (by decide)) ?_
    refine AOps.read ⟨114, rfl, rfl⟩ rfl (by decide) (Reader.loadL rfl Tryd.underlying3 sizeOf_3 rfl rfl (v := .lit (.int .i64 2)) rfl rfl) ?_
    refine AOps.read ⟨114, rfl, rfl⟩ rfl (by decide) (Reader.int rfl rfl rfl (r := .bool true) rfl) ?_
    refine AOps.read trivial rfl (by decide) (Reader.pick rfl (b := true) rfl (ok_const rfl) (ok_const rfl) (v := .lit (.bool true)) rfl) ?_
    refine AOps.read trivial rfl (by decide) (Reader.move (.inl rfl) (ok_const rfl) (v := .lit (.bool true)) rfl) ?_
    refine AOps.read ⟨119, rfl, rfl⟩ rfl (by decide) (Reader.indexL (m := 0) rfl Tryd.underlying50 sizeOf_3 rfl rfl rfl (by decide)) ?_
    refine AOps.read ⟨119, rfl, rfl⟩ rfl (by decide) (Reader.loadL rfl Tryd.underlying3 sizeOf_3 rfl rfl (v := .lit (.int .i64 0)) rfl rfl) ?_
    refine AOps.read ⟨119, rfl, rfl⟩ rfl (by decide) (Reader.int rfl rfl rfl (r := .bool true) rfl) ?_
    refine AOps.read trivial rfl (by decide) (Reader.pick rfl (b := true) rfl (ok_const rfl) (ok_const rfl) (v := .lit (.bool true)) rfl) ?_
    refine AOps.read trivial rfl (by decide) (Reader.move (.inl rfl) (ok_const rfl) (v := .lit (.bool true)) rfl) ?_
    refine AOps.read ⟨124, rfl, rfl⟩ rfl (by decide) (Reader.loadL rfl Tryd.underlying34 sizeOf_34 rfl rfl (v := .agg [.lit (.int .i64 9), .str [119, 101, 98], .lit (.int .i64 0), .lit (.int .i64 2048)]) rfl rfl) ?_
    refine AOps.call (args := [encE (⟨9, [119, 101, 98], 0, 2048⟩ : Ev)]) ⟨124, rfl, rfl⟩ rfl (by decide) rfl rfl Tryd.call24 (args_ok rfl) rfl (by intro j x v hx hv; match j, hx, hv with | 0, hx, hv => cases hx; cases hv; exact .inl ⟨rfl, rfl⟩ | _ + 1, hx, hv => cases hx) (lria M) ?_
    rintro _ _ ⟨rfl, rfl⟩
    refine AOps.read trivial rfl (by decide) (Reader.pick rfl (b := true) rfl (ok_const rfl) (ok_const rfl) (v := .lit (.bool true)) rfl) ?_
    refine AOps.read trivial rfl (by decide) (Reader.move (.inr rfl) (ok_const rfl) (v := .lit (.bool true)) rfl) ?_
    exact AOps.nil rfl
  refine AWp.ret ?_
  exact ⟨.inl rfl, _, ResOf.one 0 (.lit (.bool true)) rfl rfl, ⟨rfl, rfl⟩⟩

end Go.Proofs.YtlpihekflkjkfaaDoor
