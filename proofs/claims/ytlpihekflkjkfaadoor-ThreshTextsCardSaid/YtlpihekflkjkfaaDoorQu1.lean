/- Walks over abstract values, printed by my program av.py. -/
import Derived.Test.YtlpihekflkjkfaaDoorSat
import Derived.Test.YtlpihekflkjkfaaDoorQuP2
namespace Go.Proofs.YtlpihekflkjkfaaDoor
open Go.RowKit

theorem ix_at {t : List UInt8} {i j : Nat} (hno : ∀ j, j < i → (unitL.getD j u0).1 ≠ t) (hji : j ≤ i) (h : (unitL.getD j u0).1 = t) : AV.lit (.int .i64 (j : Int)) = .lit (.int .i64 (i : Int)) := by
  rcases Nat.lt_or_ge j i with h1 | h1
  · exact absurd h (hno j h1)
  · rw [show j = i by omega]
theorem nx_0 {p : Nat → Prop} {i : Nat} (h : ∀ m, m < i → p m) (hi : p i) : ∀ m, m < i + 1 → p m := by
  intro m hm
  rcases Nat.lt_or_ge m i with h1 | h1
  · exact h m h1
  · rw [show m = i by omega]; exact hi

set_option maxRecDepth 20000 in
theorem units_any  (M : Nat → Option (List AV)) : ACall Tryd.prog 43 [] M (fun r M' => r = .list true 83 (unitL.map encU) ∧ M = M') := by
  refine ACall.of Tryd.func43 rfl (n := 10) rfl rfl rfl ?_
  refine AWp.seq (AWp.region ?_)
  refine AOps.nilList 83 trivial rfl (by decide) (.inl rfl) ?_
  refine AOps.nil ?_
  refine AWp.seq (AWp.region ?_)
  refine AOps.read trivial rfl (by decide) (Reader.build (xs := [(0, .str [84, 105]), (1, .lit (.int .i64 1099511627776))]) (Es := []) (places := places_83) rfl Tryd.underlying83 (by refine ⟨rfl, fun j p x hp hx => ?_⟩; match j, hp, hx with | 0, hp, hx => cases hp; cases hx; exact ⟨rfl, .inl ⟨rfl, rfl⟩, rfl, rfl⟩ | 1, hp, hx => cases hp; cases hx; exact ⟨rfl, .inl ⟨rfl, rfl⟩, rfl, rfl⟩ | _ + 2, hp, hx => cases hp) zero_83 rfl places_83_ok (cs := [.str [84, 105], .lit (.int .i64 1099511627776)]) rfl) ?_
  refine AOps.read trivial rfl (by decide) (Reader.build (xs := [(0, .str [84]), (1, .lit (.int .i64 1000000000000))]) (Es := []) (places := places_83) rfl Tryd.underlying83 (by refine ⟨rfl, fun j p x hp hx => ?_⟩; match j, hp, hx with | 0, hp, hx => cases hp; cases hx; exact ⟨rfl, .inl ⟨rfl, rfl⟩, rfl, rfl⟩ | 1, hp, hx => cases hp; cases hx; exact ⟨rfl, .inl ⟨rfl, rfl⟩, rfl, rfl⟩ | _ + 2, hp, hx => cases hp) zero_83 rfl places_83_ok (cs := [.str [84], .lit (.int .i64 1000000000000)]) rfl) ?_
  refine AOps.read trivial rfl (by decide) (Reader.build (xs := [(0, .str [71, 105]), (1, .lit (.int .i64 1073741824))]) (Es := []) (places := places_83) rfl Tryd.underlying83 (by refine ⟨rfl, fun j p x hp hx => ?_⟩; match j, hp, hx with | 0, hp, hx => cases hp; cases hx; exact ⟨rfl, .inl ⟨rfl, rfl⟩, rfl, rfl⟩ | 1, hp, hx => cases hp; cases hx; exact ⟨rfl, .inl ⟨rfl, rfl⟩, rfl, rfl⟩ | _ + 2, hp, hx => cases hp) zero_83 rfl places_83_ok (cs := [.str [71, 105], .lit (.int .i64 1073741824)]) rfl) ?_
  refine AOps.read trivial rfl (by decide) (Reader.build (xs := [(0, .str [71]), (1, .lit (.int .i64 1000000000))]) (Es := []) (places := places_83) rfl Tryd.underlying83 (by refine ⟨rfl, fun j p x hp hx => ?_⟩; match j, hp, hx with | 0, hp, hx => cases hp; cases hx; exact ⟨rfl, .inl ⟨rfl, rfl⟩, rfl, rfl⟩ | 1, hp, hx => cases hp; cases hx; exact ⟨rfl, .inl ⟨rfl, rfl⟩, rfl, rfl⟩ | _ + 2, hp, hx => cases hp) zero_83 rfl places_83_ok (cs := [.str [71], .lit (.int .i64 1000000000)]) rfl) ?_
  refine AOps.read trivial rfl (by decide) (Reader.build (xs := [(0, .str [77, 105]), (1, .lit (.int .i64 1048576))]) (Es := []) (places := places_83) rfl Tryd.underlying83 (by refine ⟨rfl, fun j p x hp hx => ?_⟩; match j, hp, hx with | 0, hp, hx => cases hp; cases hx; exact ⟨rfl, .inl ⟨rfl, rfl⟩, rfl, rfl⟩ | 1, hp, hx => cases hp; cases hx; exact ⟨rfl, .inl ⟨rfl, rfl⟩, rfl, rfl⟩ | _ + 2, hp, hx => cases hp) zero_83 rfl places_83_ok (cs := [.str [77, 105], .lit (.int .i64 1048576)]) rfl) ?_
  refine AOps.read trivial rfl (by decide) (Reader.build (xs := [(0, .str [77]), (1, .lit (.int .i64 1000000))]) (Es := []) (places := places_83) rfl Tryd.underlying83 (by refine ⟨rfl, fun j p x hp hx => ?_⟩; match j, hp, hx with | 0, hp, hx => cases hp; cases hx; exact ⟨rfl, .inl ⟨rfl, rfl⟩, rfl, rfl⟩ | 1, hp, hx => cases hp; cases hx; exact ⟨rfl, .inl ⟨rfl, rfl⟩, rfl, rfl⟩ | _ + 2, hp, hx => cases hp) zero_83 rfl places_83_ok (cs := [.str [77], .lit (.int .i64 1000000)]) rfl) ?_
  refine AOps.read trivial rfl (by decide) (Reader.build (xs := [(0, .str [75, 105]), (1, .lit (.int .i64 1024))]) (Es := []) (places := places_83) rfl Tryd.underlying83 (by refine ⟨rfl, fun j p x hp hx => ?_⟩; match j, hp, hx with | 0, hp, hx => cases hp; cases hx; exact ⟨rfl, .inl ⟨rfl, rfl⟩, rfl, rfl⟩ | 1, hp, hx => cases hp; cases hx; exact ⟨rfl, .inl ⟨rfl, rfl⟩, rfl, rfl⟩ | _ + 2, hp, hx => cases hp) zero_83 rfl places_83_ok (cs := [.str [75, 105], .lit (.int .i64 1024)]) rfl) ?_
  refine AOps.read trivial rfl (by decide) (Reader.build (xs := [(0, .str [107]), (1, .lit (.int .i64 1000))]) (Es := []) (places := places_83) rfl Tryd.underlying83 (by refine ⟨rfl, fun j p x hp hx => ?_⟩; match j, hp, hx with | 0, hp, hx => cases hp; cases hx; exact ⟨rfl, .inl ⟨rfl, rfl⟩, rfl, rfl⟩ | 1, hp, hx => cases hp; cases hx; exact ⟨rfl, .inl ⟨rfl, rfl⟩, rfl, rfl⟩ | _ + 2, hp, hx => cases hp) zero_83 rfl places_83_ok (cs := [.str [107], .lit (.int .i64 1000)]) rfl) ?_
  refine AOps.buildSlice (ys := [(0, .agg [.str [84, 105], .lit (.int .i64 1099511627776)]), (1, .agg [.str [84], .lit (.int .i64 1000000000000)]), (2, .agg [.str [71, 105], .lit (.int .i64 1073741824)]), (3, .agg [.str [71], .lit (.int .i64 1000000000)]), (4, .agg [.str [77, 105], .lit (.int .i64 1048576)]), (5, .agg [.str [77], .lit (.int .i64 1000000)]), (6, .agg [.str [75, 105], .lit (.int .i64 1024)]), (7, .agg [.str [107], .lit (.int .i64 1000)])]) (Es := []) (cs := [.str [84, 105], .lit (.int .i64 1099511627776), .str [84], .lit (.int .i64 1000000000000), .str [71, 105], .lit (.int .i64 1073741824), .str [71], .lit (.int .i64 1000000000), .str [77, 105], .lit (.int .i64 1048576), .str [77], .lit (.int .i64 1000000), .str [75, 105], .lit (.int .i64 1024), .str [107], .lit (.int .i64 1000)]) (xs := [.agg [.str [84, 105], .lit (.int .i64 1099511627776)], .agg [.str [84], .lit (.int .i64 1000000000000)], .agg [.str [71, 105], .lit (.int .i64 1073741824)], .agg [.str [71], .lit (.int .i64 1000000000)], .agg [.str [77, 105], .lit (.int .i64 1048576)], .agg [.str [77], .lit (.int .i64 1000000)], .agg [.str [75, 105], .lit (.int .i64 1024)], .agg [.str [107], .lit (.int .i64 1000)]]) trivial rfl (by decide) rfl Tryd.underlying80 Tryd.i83 rfl rfl rfl (by decide) (by refine ⟨rfl, fun j p x hp hx => ?_⟩; match j, hp, hx with | 0, hp, hx => cases hp; cases hx; exact ⟨rfl, .inl ⟨rfl, rfl⟩, rfl, rfl⟩ | 1, hp, hx => cases hp; cases hx; exact ⟨rfl, .inl ⟨rfl, rfl⟩, rfl, rfl⟩ | 2, hp, hx => cases hp; cases hx; exact ⟨rfl, .inl ⟨rfl, rfl⟩, rfl, rfl⟩ | 3, hp, hx => cases hp; cases hx; exact ⟨rfl, .inl ⟨rfl, rfl⟩, rfl, rfl⟩ | 4, hp, hx => cases hp; cases hx; exact ⟨rfl, .inl ⟨rfl, rfl⟩, rfl, rfl⟩ | 5, hp, hx => cases hp; cases hx; exact ⟨rfl, .inl ⟨rfl, rfl⟩, rfl, rfl⟩ | 6, hp, hx => cases hp; cases hx; exact ⟨rfl, .inl ⟨rfl, rfl⟩, rfl, rfl⟩ | 7, hp, hx => cases hp; cases hx; exact ⟨rfl, .inl ⟨rfl, rfl⟩, rfl, rfl⟩ | _ + 8, hp, hx => cases hp) rfl rfl rfl (all_len rfl) (all_sc rfl) rfl ?_
  refine AOps.steal trivial rfl (by decide) (by decide) (.inr rfl) (v := .list true 83 [.agg [.str [84, 105], .lit (.int .i64 1099511627776)], .agg [.str [84], .lit (.int .i64 1000000000000)], .agg [.str [71, 105], .lit (.int .i64 1073741824)], .agg [.str [71], .lit (.int .i64 1000000000)], .agg [.str [77, 105], .lit (.int .i64 1048576)], .agg [.str [77], .lit (.int .i64 1000000)], .agg [.str [75, 105], .lit (.int .i64 1024)], .agg [.str [107], .lit (.int .i64 1000)]]) rfl ?_
  refine AOps.nil ?_
  refine AWp.ret ?_
  exact ⟨.inl rfl, _, ResOf.one 0 (.list true 83 [.agg [.str [84, 105], .lit (.int .i64 1099511627776)], .agg [.str [84], .lit (.int .i64 1000000000000)], .agg [.str [71, 105], .lit (.int .i64 1073741824)], .agg [.str [71], .lit (.int .i64 1000000000)], .agg [.str [77, 105], .lit (.int .i64 1048576)], .agg [.str [77], .lit (.int .i64 1000000)], .agg [.str [75, 105], .lit (.int .i64 1024)], .agg [.str [107], .lit (.int .i64 1000)]]) rfl rfl, ⟨rfl, rfl⟩⟩

set_option maxRecDepth 20000 in
theorem names_any  (M : Nat → Option (List AV)) : ACall Tryd.prog 92 [] M (fun r M' => r = .list true 9 (namesL.map AV.str) ∧ M = M') := by
  refine ACall.of Tryd.func92 rfl (n := 2) rfl rfl rfl ?_
  refine AWp.seq (AWp.region ?_)
  refine AOps.nilList 9 trivial rfl (by decide) (.inl rfl) ?_
  refine AOps.nil ?_
  refine AWp.seq (AWp.region ?_)
  refine AOps.buildSlice (ys := [(0, .str [84, 105]), (1, .str [84]), (2, .str [71, 105]), (3, .str [71]), (4, .str [77, 105]), (5, .str [77]), (6, .str [75, 105]), (7, .str [107])]) (Es := []) (cs := [.str [84, 105], .str [84], .str [71, 105], .str [71], .str [77, 105], .str [77], .str [75, 105], .str [107]]) (xs := [.str [84, 105], .str [84], .str [71, 105], .str [71], .str [77, 105], .str [77], .str [75, 105], .str [107]]) trivial rfl (by decide) rfl Tryd.underlying23 Tryd.i9 rfl rfl rfl (by decide) (by refine ⟨rfl, fun j p x hp hx => ?_⟩; match j, hp, hx with | 0, hp, hx => cases hp; cases hx; exact ⟨rfl, .inl ⟨rfl, rfl⟩, rfl, rfl⟩ | 1, hp, hx => cases hp; cases hx; exact ⟨rfl, .inl ⟨rfl, rfl⟩, rfl, rfl⟩ | 2, hp, hx => cases hp; cases hx; exact ⟨rfl, .inl ⟨rfl, rfl⟩, rfl, rfl⟩ | 3, hp, hx => cases hp; cases hx; exact ⟨rfl, .inl ⟨rfl, rfl⟩, rfl, rfl⟩ | 4, hp, hx => cases hp; cases hx; exact ⟨rfl, .inl ⟨rfl, rfl⟩, rfl, rfl⟩ | 5, hp, hx => cases hp; cases hx; exact ⟨rfl, .inl ⟨rfl, rfl⟩, rfl, rfl⟩ | 6, hp, hx => cases hp; cases hx; exact ⟨rfl, .inl ⟨rfl, rfl⟩, rfl, rfl⟩ | 7, hp, hx => cases hp; cases hx; exact ⟨rfl, .inl ⟨rfl, rfl⟩, rfl, rfl⟩ | _ + 8, hp, hx => cases hp) rfl rfl rfl (all_len rfl) (all_sc rfl) rfl ?_
  refine AOps.steal trivial rfl (by decide) (by decide) (.inr rfl) (v := .list true 9 [.str [84, 105], .str [84], .str [71, 105], .str [71], .str [77, 105], .str [77], .str [75, 105], .str [107]]) rfl ?_
  refine AOps.nil ?_
  refine AWp.ret ?_
  exact ⟨.inl rfl, _, ResOf.one 0 (.list true 9 [.str [84, 105], .str [84], .str [71, 105], .str [71], .str [77, 105], .str [77], .str [75, 105], .str [107]]) rfl rfl, ⟨rfl, rfl⟩⟩

set_option maxRecDepth 20000 in
theorem Units_any  (M : Nat → Option (List AV)) : ACall Tryd.prog 17 [] M (fun r M' => r = .list true 9 (namesL.map AV.str) ∧ M = M') := by
  refine ACall.of Tryd.func17 rfl (n := 17) rfl rfl rfl ?_
  refine AWp.seq (AWp.region ?_)
  refine AOps.nilList 9 trivial rfl (by decide) (.inl rfl) ?_
  refine AOps.nil ?_
  refine AWp.seq (AWp.region ?_)
  refine AOps.nilList 9 trivial rfl (by decide) (.inl rfl) ?_
  refine AOps.nil ?_
  refine AWp.seq ?_
  refine AWp.seq (AWp.region ?_)
  refine AOps.call (args := []) trivial rfl (by decide) rfl rfl Tryd.call43 (args_ok rfl) rfl (by intro j x v hx hv; match j, hx, hv with  | _ + 0, hx, hv => cases hx) (units_any M) ?_
  rintro _ _ ⟨rfl, rfl⟩
  refine AOps.read trivial rfl (by decide) (Reader.len' (xs := unitL.map encU) rfl rfl rfl rfl Tryd.underlying80 rfl (m := 8) rfl) ?_
  refine AOps.read trivial rfl (by decide) (Reader.move (.inl rfl) (ok_const rfl) (v := .lit (.int .i64 0)) rfl) ?_
  refine AOps.nil ?_
  refine AWp.block ?_
  refine AWp.loopE [1, 4, 5, 6] [] (fun m s => ∃ (i : Nat), m = 8 - i ∧ s = ⟨[(1, .list true 9 ((namesL.take i).map AV.str)), (4, .list true 83 (unitL.map encU)), (5, .lit (.int .i64 (8 : Int))), (6, .lit (.int .i64 (i : Int)))], [], M⟩ ∧ (i ≤ 8)) ?_ ?_
  · exact ⟨_, 0, rfl, rfl, by omega⟩
  · rintro _ _ ⟨i, rfl, rfl, hi⟩
    refine AWp.seq (AWp.region ?_)
    refine AOps.read trivial rfl (by decide) (Reader.int rfl rfl rfl (r := .bool (decide ((i : Int) < (8 : Int)))) rfl) ?_
    refine AOps.nil ?_
    refine AWp.seq ?_
    refine AWp.cond (b := decide ((i : Int) < (8 : Int))) rfl (fun h1 => ?_) (fun h1 => ?_)
    · skip
      have h1' : i < 8 := (by have hh := of_decide_eq_true h1; omega)
      clear h1
      refine AWp.skip ?_
      refine AWp.seq ?_
      refine AWp.block ?_
      refine AWp.seq (AWp.region ?_)
      refine AOps.read trivial rfl (by decide) (Reader.elemAddr (m := i) rfl Tryd.underlying80 sizeOf_83 rfl rfl rfl (e := encU (unitL.getD i u0)) (unit_at (by omega))) ?_
      refine AOps.read trivial rfl (by decide) (Reader.loadE rfl Tryd.underlying83 sizeOf_83 rfl (v := encU (unitL.getD i u0)) rfl rfl) ?_
      refine AOps.alloc (Es := []) trivial rfl (by decide) rfl (noL rfl) rfl zero_83 rfl (cells := [.str [], .lit (.int .i64 0)]) rfl (all_scalar rfl) (all_flat rfl) ?_
      refine AOps.storeL trivial rfl rfl rfl rfl sizeOf_83 (.inl ⟨rfl, rfl⟩) rfl (v := encU (unitL.getD i u0)) rfl (all_flat rfl) rfl (Nat.le_of_ble_eq_true rfl) ?_
      refine AOps.nil ?_
      refine AWp.region ?_
      refine AOps.steal trivial rfl (by decide) (by decide) (.inl rfl) (v := .list true 9 ((namesL.take i).map AV.str)) rfl ?_
      refine AOps.read trivial rfl (by decide) (Reader.fieldL rfl ⟨_, _, Tryd.underlying83, rfl, rfl, rfl, sizeOf_9⟩ (by decide) rfl) ?_
      refine AOps.read trivial rfl (by decide) (Reader.loadL rfl Tryd.underlying9 sizeOf_9 rfl rfl (v := .str ((unitL.getD i u0).1)) rfl rfl) ?_
      refine AOps.buildSlice (ys := [(0, .str ((unitL.getD i u0).1))]) (Es := []) (cs := [.str ((unitL.getD i u0).1)]) (xs := [.str ((unitL.getD i u0).1)]) trivial rfl (by decide) rfl Tryd.underlying23 Tryd.i9 rfl rfl rfl (by decide) (by refine ⟨rfl, fun j p x hp hx => ?_⟩; match j, hp, hx with | 0, hp, hx => cases hp; cases hx; exact ⟨rfl, .inl ⟨rfl, rfl⟩, rfl, rfl⟩ | _ + 1, hp, hx => cases hp) rfl rfl rfl (all_len rfl) (all_sc rfl) rfl ?_
      refine AOps.appL (bytes := 16) trivial rfl (by decide) (by decide) rfl rfl rfl rfl Tryd.underlying23 Tryd.underlying23 Tryd.i9 rfl rfl rfl rfl (xs := ((namesL.take i).map AV.str)) (ys := [.str ((unitL.getD i u0).1)]) (zs := ((namesL.take (i + 1)).map AV.str)) rfl rfl (m1 := i) (m2 := 1) (names_len (by omega)) rfl (by first | omega | (unfold maxLen; omega)) (by omega) (names_snoc (by omega)) ?_
      refine AOps.steal trivial rfl (by decide) (by decide) (.inr rfl) (v := .list true 9 ((namesL.take (i + 1)).map AV.str)) rfl ?_
      refine AOps.nil ?_
      refine AWp.region ?_
      refine AOps.read trivial rfl (by decide) (Reader.sum rfl rfl rfl (m := (i : Int) + 1) (c := ((i + 1 : Nat) : Int)) rfl (by first | exact IntWalk.i64_in _ (by omega) | exact IntWalk.i64_in _ (by constructor <;> omega) | (simp only [];omega))) ?_
      refine AOps.read trivial rfl (by decide) (Reader.move (.inl rfl) (ok_const rfl) (v := .lit (.int .i64 ((i + 1 : Nat) : Int))) rfl) ?_
      refine AOps.nil ?_
      exact ⟨_, by omega, i + 1, rfl, rfl, by omega⟩
    · skip
      have h1' : ¬ (i < 8) := (by have hh := of_decide_eq_false h1; omega)
      clear h1
      refine AWp.exit ?_
      refine AWp.seq (AWp.region ?_)
      refine AOps.steal trivial rfl (by decide) (by decide) (.inl rfl) (v := .list true 9 ((namesL.take i).map AV.str)) rfl ?_
      refine AOps.steal trivial rfl (by decide) (by decide) (.inr rfl) (v := .list true 9 ((namesL.take i).map AV.str)) rfl ?_
      refine AOps.nil ?_
      refine AWp.ret ?_
      exact ⟨.inl rfl, _, ResOf.one 0 (.list true 9 ((namesL.take i).map AV.str)) rfl rfl, ⟨by rw [names_all hi (by omega)], rfl⟩⟩

set_option maxRecDepth 20000 in
theorem unit1_any (M : Nat → Option (List AV)) (id : Nat) (t : List UInt8) (hM : M id = some [.str t]) (nm : List UInt8) (k : Int)  : ACall Tryd.prog 72 [.agg [.str nm, .lit (.int .i64 k)], .gptr id 0] M (fun r M' => r = .lit (.bool (nm == t)) ∧ M = M') := by
  refine ACall.of Tryd.func72 rfl (n := 8) rfl rfl rfl ?_
  refine AWp.seq (AWp.region ?_)
  refine AOps.box trivial rfl (by decide) rfl (noL rfl) rfl (v := .agg [.str nm, .lit (.int .i64 k)]) (.inl ⟨rfl, rfl⟩) rfl rfl (all_flat rfl) ?_
  refine AOps.read trivial rfl (by decide) (Reader.move (.inr rfl) (ok_const rfl) (v := .lit (.bool false)) rfl) ?_
  refine AOps.nil ?_
  refine AWp.seq (AWp.region ?_)
  refine AOps.read trivial rfl (by decide) (Reader.fieldL rfl ⟨_, _, Tryd.underlying83, rfl, rfl, rfl, sizeOf_9⟩ (by decide) rfl) ?_
  refine AOps.read trivial rfl (by decide) (Reader.loadL rfl Tryd.underlying9 sizeOf_9 rfl rfl (v := .str nm) rfl rfl) ?_
  refine AOps.read trivial rfl (by decide) (Reader.loadG rfl Tryd.underlying9 sizeOf_9 rfl hM (v := .str t) rfl rfl) ?_
  refine AOps.read trivial rfl (by decide) (Reader.strs rfl rfl rfl (r := nm == t) rfl) ?_
  refine AOps.read trivial rfl (by decide) (Reader.move (.inr rfl) (ok_const rfl) (v := .lit (.bool (nm == t))) rfl) ?_
  refine AOps.nil ?_
  refine AWp.ret ?_
  exact ⟨.inl rfl, _, ResOf.one 3 (.lit (.bool (nm == t))) rfl rfl, ⟨rfl, rfl⟩⟩

set_option maxRecDepth 20000 in
theorem ixf_none (M : Nat → Option (List AV)) (id : Nat) (t : List UInt8) (hM : M id = some [.str t]) (hno : ∀ j, j < 8 → (unitL.getD j u0).1 ≠ t)  : ACall Tryd.prog 71 [.list false 83 (unitL.map encU), .fn 72 [.gptr id 0]] M (fun r M' => r = .lit (.int .i64 (-1)) ∧ M = M') := by
  refine ACall.of Tryd.func71 rfl (n := 19) rfl rfl rfl ?_
  refine AWp.seq (AWp.region ?_)
  refine AOps.read trivial rfl (by decide) (Reader.move (.inr rfl) (ok_const rfl) (v := .lit (.int .i64 0)) rfl) ?_
  refine AOps.nil ?_
  refine AWp.seq ?_
  refine AWp.seq (AWp.region ?_)
  refine AOps.read trivial rfl (by decide) (Reader.move (.inl rfl) (ok_const rfl) (v := .list false 83 (unitL.map encU)) rfl) ?_
  refine AOps.read trivial rfl (by decide) (Reader.len' (xs := unitL.map encU) rfl rfl rfl rfl Tryd.underlying80 rfl (m := 8) rfl) ?_
  refine AOps.read trivial rfl (by decide) (Reader.move (.inl rfl) (ok_const rfl) (v := .lit (.int .i64 0)) rfl) ?_
  refine AOps.nil ?_
  refine AWp.block ?_
  refine AWp.loopE [0, 1, 7, 8] [] (fun m s => ∃ (j : Nat), m = 8 - j ∧ s = ⟨[(0, .list false 83 (unitL.map encU)), (1, .fn 72 [.gptr id 0]), (7, .lit (.int .i64 (8 : Int))), (8, .lit (.int .i64 (j : Int)))], [], M⟩ ∧ (j ≤ 8)) ?_ ?_
  · exact ⟨_, 0, rfl, rfl, by omega⟩
  · rintro _ _ ⟨j, rfl, rfl, hji⟩
    refine AWp.seq (AWp.region ?_)
    refine AOps.read trivial rfl (by decide) (Reader.int rfl rfl rfl (r := .bool (decide ((j : Int) < (8 : Int)))) rfl) ?_
    refine AOps.nil ?_
    refine AWp.seq ?_
    refine AWp.cond (b := decide ((j : Int) < (8 : Int))) rfl (fun h1 => ?_) (fun h1 => ?_)
    · skip
      have h1' : j < 8 := (by have hh := of_decide_eq_true h1; omega)
      clear h1
      refine AWp.skip ?_
      refine AWp.seq ?_
      refine AWp.block ?_
      refine AWp.seq (AWp.region ?_)
      refine AOps.read trivial rfl (by decide) (Reader.move (.inl rfl) (ok_const rfl) (v := .lit (.int .i64 (j : Int))) rfl) ?_
      refine AOps.read trivial rfl (by decide) (Reader.move (.inr rfl) (ok_const rfl) (v := .lit (.int .i64 (j : Int))) rfl) ?_
      refine AOps.nil ?_
      refine AWp.seq (AWp.region ?_)
      refine AOps.read trivial rfl (by decide) (Reader.move (.inl rfl) (ok_const rfl) (v := .fn 72 [.gptr id 0]) rfl) ?_
      refine AOps.read trivial rfl (by decide) (Reader.move (.inl rfl) (ok_const rfl) (v := .list false 83 (unitL.map encU)) rfl) ?_
      refine AOps.read trivial rfl (by decide) (Reader.move (.inl rfl) (ok_const rfl) (v := .lit (.int .i64 (j : Int))) rfl) ?_
      refine AOps.read trivial rfl (by decide) (Reader.elemAddr (m := j) rfl Tryd.underlying80 sizeOf_83 rfl rfl rfl (e := encU (unitL.getD j u0)) (unit_at (by omega))) ?_
      refine AOps.read trivial rfl (by decide) (Reader.loadE rfl Tryd.underlying83 sizeOf_83 rfl (v := encU (unitL.getD j u0)) rfl rfl) ?_
      refine AOps.callV (ars := [encU (unitL.getD j u0)]) (args := [encU (unitL.getD j u0), .gptr id 0]) trivial rfl (by decide) rfl rfl rfl Tryd.call72 (args_ok rfl) rfl (by intro j x v hx hv; match j, hx, hv with | 0, hx, hv => cases hx; cases hv; exact .inl ⟨rfl, rfl⟩ | _ + 1, hx, hv => cases hx) rfl (unit1_any M id t hM ((unitL.getD j u0).1) _) ?_
      rintro _ _ ⟨rfl, rfl⟩
      refine AOps.nil ?_
      refine AWp.cond (b := ((unitL.getD j u0).1) == t) rfl (fun h2 => ?_) (fun h2 => ?_)
      · skip
        have h2' : ((unitL.getD j u0).1) = t := (eq_of_beq h2)
        clear h2
        refine AWp.seq (AWp.region ?_)
        refine AOps.read trivial rfl (by decide) (Reader.move (.inl rfl) (ok_const rfl) (v := .lit (.int .i64 (j : Int))) rfl) ?_
        refine AOps.read trivial rfl (by decide) (Reader.move (.inr rfl) (ok_const rfl) (v := .lit (.int .i64 (j : Int))) rfl) ?_
        refine AOps.nil ?_
        refine AWp.ret ?_
        exact ⟨.inl rfl, _, ResOf.one 4 (.lit (.int .i64 (j : Int))) rfl rfl, ⟨absurd (by assumption) (hno j (by omega)), rfl⟩⟩
      · skip
        have h2' : ¬ ((unitL.getD j u0).1) = t := (beq_eq_false_iff_ne.1 h2)
        clear h2
        refine AWp.skip ?_
        refine AWp.region ?_
        refine AOps.read trivial rfl (by decide) (Reader.sum rfl rfl rfl (m := (j : Int) + 1) (c := ((j + 1 : Nat) : Int)) rfl (by first | exact IntWalk.i64_in _ (by omega) | exact IntWalk.i64_in _ (by constructor <;> omega) | (simp only [];omega))) ?_
        refine AOps.read trivial rfl (by decide) (Reader.move (.inl rfl) (ok_const rfl) (v := .lit (.int .i64 ((j + 1 : Nat) : Int))) rfl) ?_
        refine AOps.nil ?_
        exact ⟨_, by omega, j + 1, rfl, rfl, by omega⟩
    · skip
      have h1' : ¬ (j < 8) := (by have hh := of_decide_eq_false h1; omega)
      clear h1
      refine AWp.exit ?_
      refine AWp.seq (AWp.region ?_)
      refine AOps.read trivial rfl (by decide) (Reader.move (.inr rfl) (ok_const rfl) (v := .lit (.int .i64 (-1))) rfl) ?_
      refine AOps.nil ?_
      refine AWp.ret ?_
      exact ⟨.inl rfl, _, ResOf.one 4 (.lit (.int .i64 (-1))) rfl rfl, ⟨rfl, rfl⟩⟩

set_option maxRecDepth 20000 in
theorem ixf_some (M : Nat → Option (List AV)) (id : Nat) (t : List UInt8) (hM : M id = some [.str t]) (i : Nat) (hi : i < 8) (hno : ∀ j, j < i → (unitL.getD j u0).1 ≠ t) (he : (unitL.getD i u0).1 = t)  : ACall Tryd.prog 71 [.list false 83 (unitL.map encU), .fn 72 [.gptr id 0]] M (fun r M' => r = .lit (.int .i64 (i : Int)) ∧ M = M') := by
  refine ACall.of Tryd.func71 rfl (n := 19) rfl rfl rfl ?_
  refine AWp.seq (AWp.region ?_)
  refine AOps.read trivial rfl (by decide) (Reader.move (.inr rfl) (ok_const rfl) (v := .lit (.int .i64 0)) rfl) ?_
  refine AOps.nil ?_
  refine AWp.seq ?_
  refine AWp.seq (AWp.region ?_)
  refine AOps.read trivial rfl (by decide) (Reader.move (.inl rfl) (ok_const rfl) (v := .list false 83 (unitL.map encU)) rfl) ?_
  refine AOps.read trivial rfl (by decide) (Reader.len' (xs := unitL.map encU) rfl rfl rfl rfl Tryd.underlying80 rfl (m := 8) rfl) ?_
  refine AOps.read trivial rfl (by decide) (Reader.move (.inl rfl) (ok_const rfl) (v := .lit (.int .i64 0)) rfl) ?_
  refine AOps.nil ?_
  refine AWp.block ?_
  refine AWp.loopE [0, 1, 7, 8] [] (fun m s => ∃ (j : Nat), m = 8 - j ∧ s = ⟨[(0, .list false 83 (unitL.map encU)), (1, .fn 72 [.gptr id 0]), (7, .lit (.int .i64 (8 : Int))), (8, .lit (.int .i64 (j : Int)))], [], M⟩ ∧ (j ≤ i)) ?_ ?_
  · exact ⟨_, 0, rfl, rfl, by omega⟩
  · rintro _ _ ⟨j, rfl, rfl, hji⟩
    refine AWp.seq (AWp.region ?_)
    refine AOps.read trivial rfl (by decide) (Reader.int rfl rfl rfl (r := .bool (decide ((j : Int) < (8 : Int)))) rfl) ?_
    refine AOps.nil ?_
    refine AWp.seq ?_
    refine AWp.cond (b := decide ((j : Int) < (8 : Int))) rfl (fun h1 => ?_) (fun h1 => ?_)
    · skip
      have h1' : j < 8 := (by have hh := of_decide_eq_true h1; omega)
      clear h1
      refine AWp.skip ?_
      refine AWp.seq ?_
      refine AWp.block ?_
      refine AWp.seq (AWp.region ?_)
      refine AOps.read trivial rfl (by decide) (Reader.move (.inl rfl) (ok_const rfl) (v := .lit (.int .i64 (j : Int))) rfl) ?_
      refine AOps.read trivial rfl (by decide) (Reader.move (.inr rfl) (ok_const rfl) (v := .lit (.int .i64 (j : Int))) rfl) ?_
      refine AOps.nil ?_
      refine AWp.seq (AWp.region ?_)
      refine AOps.read trivial rfl (by decide) (Reader.move (.inl rfl) (ok_const rfl) (v := .fn 72 [.gptr id 0]) rfl) ?_
      refine AOps.read trivial rfl (by decide) (Reader.move (.inl rfl) (ok_const rfl) (v := .list false 83 (unitL.map encU)) rfl) ?_
      refine AOps.read trivial rfl (by decide) (Reader.move (.inl rfl) (ok_const rfl) (v := .lit (.int .i64 (j : Int))) rfl) ?_
      refine AOps.read trivial rfl (by decide) (Reader.elemAddr (m := j) rfl Tryd.underlying80 sizeOf_83 rfl rfl rfl (e := encU (unitL.getD j u0)) (unit_at (by omega))) ?_
      refine AOps.read trivial rfl (by decide) (Reader.loadE rfl Tryd.underlying83 sizeOf_83 rfl (v := encU (unitL.getD j u0)) rfl rfl) ?_
      refine AOps.callV (ars := [encU (unitL.getD j u0)]) (args := [encU (unitL.getD j u0), .gptr id 0]) trivial rfl (by decide) rfl rfl rfl Tryd.call72 (args_ok rfl) rfl (by intro j x v hx hv; match j, hx, hv with | 0, hx, hv => cases hx; cases hv; exact .inl ⟨rfl, rfl⟩ | _ + 1, hx, hv => cases hx) rfl (unit1_any M id t hM ((unitL.getD j u0).1) _) ?_
      rintro _ _ ⟨rfl, rfl⟩
      refine AOps.nil ?_
      refine AWp.cond (b := ((unitL.getD j u0).1) == t) rfl (fun h2 => ?_) (fun h2 => ?_)
      · skip
        have h2' : ((unitL.getD j u0).1) = t := (eq_of_beq h2)
        clear h2
        refine AWp.seq (AWp.region ?_)
        refine AOps.read trivial rfl (by decide) (Reader.move (.inl rfl) (ok_const rfl) (v := .lit (.int .i64 (j : Int))) rfl) ?_
        refine AOps.read trivial rfl (by decide) (Reader.move (.inr rfl) (ok_const rfl) (v := .lit (.int .i64 (j : Int))) rfl) ?_
        refine AOps.nil ?_
        refine AWp.ret ?_
        exact ⟨.inl rfl, _, ResOf.one 4 (.lit (.int .i64 (j : Int))) rfl rfl, ⟨ix_at hno hji (by assumption), rfl⟩⟩
      · skip
        have h2' : ¬ ((unitL.getD j u0).1) = t := (beq_eq_false_iff_ne.1 h2)
        clear h2
        refine AWp.skip ?_
        refine AWp.region ?_
        refine AOps.read trivial rfl (by decide) (Reader.sum rfl rfl rfl (m := (j : Int) + 1) (c := ((j + 1 : Nat) : Int)) rfl (by first | exact IntWalk.i64_in _ (by omega) | exact IntWalk.i64_in _ (by constructor <;> omega) | (simp only [];omega))) ?_
        refine AOps.read trivial rfl (by decide) (Reader.move (.inl rfl) (ok_const rfl) (v := .lit (.int .i64 ((j + 1 : Nat) : Int))) rfl) ?_
        refine AOps.nil ?_
        have hne : j ≠ i := fun e => (by assumption : ¬ (unitL.getD j u0).1 = t) (by rw [e]; exact he)
        exact ⟨_, by omega, j + 1, rfl, rfl, by omega⟩
    · skip
      have h1' : ¬ (j < 8) := (by have hh := of_decide_eq_false h1; omega)
      clear h1
      refine AWp.exit ?_
      refine AWp.seq (AWp.region ?_)
      refine AOps.read trivial rfl (by decide) (Reader.move (.inr rfl) (ok_const rfl) (v := .lit (.int .i64 (-1))) rfl) ?_
      refine AOps.nil ?_
      refine AWp.ret ?_
      exact ⟨.inl rfl, _, ResOf.one 4 (.lit (.int .i64 (-1))) rfl rfl, ⟨absurd hji (by omega), rfl⟩⟩

set_option maxRecDepth 20000 in
theorem Unit_nil  (M : Nat → Option (List AV)) : ACall Tryd.prog 42 [.str []] M (fun r M' => r = .lit (.int .i64 1) ∧ M = M') := by
  refine ACall.subM ?_
  refine ACall.of Tryd.func42 rfl (n := 18) rfl rfl rfl ?_
  refine AWp.seq (AWp.region ?_)
  refine AOps.boxG trivial rfl (by decide) (by decide) rfl (v := .str []) (.inl ⟨rfl, rfl⟩) rfl rfl rfl (all_flat rfl) ?_
  intro id1 hid1n hid1t
  refine AOps.read trivial rfl (by decide) (Reader.move (.inr rfl) (ok_const rfl) (v := .lit (.int .i64 0)) rfl) ?_
  refine AOps.nil ?_
  refine AWp.seq ?_
  refine AWp.seq (AWp.region ?_)
  refine AOps.read trivial rfl (by decide) (Reader.loadG rfl Tryd.underlying9 sizeOf_9 rfl setM_get (v := .str []) rfl rfl) ?_
  refine AOps.read trivial rfl (by decide) (Reader.strs rfl rfl rfl (r := true) rfl) ?_
  refine AOps.nil ?_
  refine AWp.cond (b := true) rfl (fun hx => ?_) (fun hx => by cases hx)
  refine AWp.seq (AWp.region ?_)
  refine AOps.read trivial rfl (by decide) (Reader.move (.inr rfl) (ok_const rfl) (v := .lit (.int .i64 1)) rfl) ?_
  refine AOps.nil ?_
  refine AWp.ret ?_
  exact ⟨.inl rfl, _, ResOf.one 2 (.lit (.int .i64 1)) rfl rfl, ⟨M, ⟨rfl, rfl⟩, setM_sub hid1n⟩⟩

set_option maxRecDepth 20000 in
theorem Unit_none (s : List UInt8) (h0 : s ≠ []) (hno : ∀ j, j < 8 → (unitL.getD j u0).1 ≠ s) (M : Nat → Option (List AV)) : ACall Tryd.prog 42 [.str s] M (fun r M' => r = .lit (.int .i64 0) ∧ M = M') := by
  refine ACall.subM ?_
  refine ACall.of Tryd.func42 rfl (n := 18) rfl rfl rfl ?_
  refine AWp.seq (AWp.region ?_)
  refine AOps.boxG trivial rfl (by decide) (by decide) rfl (v := .str s) (.inl ⟨rfl, rfl⟩) rfl rfl rfl (all_flat rfl) ?_
  intro id1 hid1n hid1t
  refine AOps.read trivial rfl (by decide) (Reader.move (.inr rfl) (ok_const rfl) (v := .lit (.int .i64 0)) rfl) ?_
  refine AOps.nil ?_
  refine AWp.seq ?_
  refine AWp.seq (AWp.region ?_)
  refine AOps.read trivial rfl (by decide) (Reader.loadG rfl Tryd.underlying9 sizeOf_9 rfl setM_get (v := .str s) rfl rfl) ?_
  refine AOps.read trivial rfl (by decide) (Reader.strs rfl rfl rfl (r := s == []) rfl) ?_
  refine AOps.nil ?_
  refine AWp.cond (b := s == []) rfl (fun h1 => ?_) (fun h1 => ?_)
  · skip
    have h1' : s = [] := (eq_of_beq h1)
    clear h1
    refine AWp.seq (AWp.region ?_)
    refine AOps.read trivial rfl (by decide) (Reader.move (.inr rfl) (ok_const rfl) (v := .lit (.int .i64 1)) rfl) ?_
    refine AOps.nil ?_
    refine AWp.ret ?_
    exact ⟨.inl rfl, _, ResOf.one 2 (.lit (.int .i64 1)) rfl rfl, ⟨M, ⟨absurd (by assumption) h0, rfl⟩, setM_sub hid1n⟩⟩
  · skip
    have h1' : ¬ (s = []) := (beq_eq_false_iff_ne.1 h1)
    clear h1
    refine AWp.skip ?_
    refine AWp.seq (AWp.region ?_)
    refine AOps.call (args := []) trivial rfl (by decide) rfl rfl Tryd.call43 (args_ok rfl) rfl (by intro j x v hx hv; match j, hx, hv with  | _ + 0, hx, hv => cases hx) (units_any (setM M id1 [.str s])) ?_
    rintro _ _ ⟨rfl, rfl⟩
    refine AOps.steal trivial rfl (by decide) (by decide) (.inr rfl) (v := .list true 83 (unitL.map encU)) rfl ?_
    refine AOps.nil ?_
    refine AWp.seq (AWp.region ?_)
    refine AOps.read trivial rfl (by decide) (Reader.move (.inl rfl) (ok_const rfl) (v := .list false 83 (unitL.map encU)) rfl) ?_
    refine AOps.read trivial rfl (by decide) (Reader.mkFunc rfl rfl) ?_
    refine AOps.call (args := [.list false 83 (unitL.map encU), .fn 72 [.gptr id1 0]]) trivial rfl (by decide) rfl rfl Tryd.call71 (args_ok rfl) rfl (by intro j x v hx hv; match j, hx, hv with | 0, hx, hv => cases hx; cases hv; exact .inl ⟨rfl, rfl⟩ | 1, hx, hv => cases hx; cases hv; exact .inl ⟨rfl, rfl⟩ | _ + 2, hx, hv => cases hx) (ixf_none (setM M id1 [.str s]) id1 s setM_get hno) ?_
    rintro _ _ ⟨rfl, rfl⟩
    refine AOps.read trivial rfl (by decide) (Reader.move (.inr rfl) (ok_const rfl) (v := .lit (.int .i64 (-1))) rfl) ?_
    refine AOps.nil ?_
    refine AWp.seq ?_
    refine AWp.seq (AWp.region ?_)
    refine AOps.read trivial rfl (by decide) (Reader.move (.inl rfl) (ok_const rfl) (v := .lit (.int .i64 (-1))) rfl) ?_
    refine AOps.read trivial rfl (by decide) (Reader.int rfl rfl rfl (r := .bool true) rfl) ?_
    refine AOps.nil ?_
    refine AWp.cond (b := true) rfl (fun hx => ?_) (fun hx => by cases hx)
    refine AWp.seq (AWp.region ?_)
    refine AOps.read trivial rfl (by decide) (Reader.move (.inr rfl) (ok_const rfl) (v := .lit (.int .i64 0)) rfl) ?_
    refine AOps.nil ?_
    refine AWp.ret ?_
    exact ⟨.inl rfl, _, ResOf.one 2 (.lit (.int .i64 0)) rfl rfl, ⟨M, ⟨rfl, rfl⟩, setM_sub hid1n⟩⟩

set_option maxRecDepth 20000 in
theorem Unit_some (s : List UInt8) (h0 : s ≠ []) (i : Nat) (hi : i < 8) (hno : ∀ j, j < i → (unitL.getD j u0).1 ≠ s) (he : (unitL.getD i u0).1 = s) (M : Nat → Option (List AV)) : ACall Tryd.prog 42 [.str s] M (fun r M' => r = .lit (.int .i64 ((unitL.getD i u0).2 : Int)) ∧ M = M') := by
  have hun := unit_n hi
  refine ACall.subM ?_
  refine ACall.of Tryd.func42 rfl (n := 18) rfl rfl rfl ?_
  refine AWp.seq (AWp.region ?_)
  refine AOps.boxG trivial rfl (by decide) (by decide) rfl (v := .str s) (.inl ⟨rfl, rfl⟩) rfl rfl rfl (all_flat rfl) ?_
  intro id1 hid1n hid1t
  refine AOps.read trivial rfl (by decide) (Reader.move (.inr rfl) (ok_const rfl) (v := .lit (.int .i64 0)) rfl) ?_
  refine AOps.nil ?_
  refine AWp.seq ?_
  refine AWp.seq (AWp.region ?_)
  refine AOps.read trivial rfl (by decide) (Reader.loadG rfl Tryd.underlying9 sizeOf_9 rfl setM_get (v := .str s) rfl rfl) ?_
  refine AOps.read trivial rfl (by decide) (Reader.strs rfl rfl rfl (r := s == []) rfl) ?_
  refine AOps.nil ?_
  refine AWp.cond (b := s == []) rfl (fun h1 => ?_) (fun h1 => ?_)
  · skip
    have h1' : s = [] := (eq_of_beq h1)
    clear h1
    refine AWp.seq (AWp.region ?_)
    refine AOps.read trivial rfl (by decide) (Reader.move (.inr rfl) (ok_const rfl) (v := .lit (.int .i64 1)) rfl) ?_
    refine AOps.nil ?_
    refine AWp.ret ?_
    exact ⟨.inl rfl, _, ResOf.one 2 (.lit (.int .i64 1)) rfl rfl, ⟨M, ⟨absurd (by assumption) h0, rfl⟩, setM_sub hid1n⟩⟩
  · skip
    have h1' : ¬ (s = []) := (beq_eq_false_iff_ne.1 h1)
    clear h1
    refine AWp.skip ?_
    refine AWp.seq (AWp.region ?_)
    refine AOps.call (args := []) trivial rfl (by decide) rfl rfl Tryd.call43 (args_ok rfl) rfl (by intro j x v hx hv; match j, hx, hv with  | _ + 0, hx, hv => cases hx) (units_any (setM M id1 [.str s])) ?_
    rintro _ _ ⟨rfl, rfl⟩
    refine AOps.steal trivial rfl (by decide) (by decide) (.inr rfl) (v := .list true 83 (unitL.map encU)) rfl ?_
    refine AOps.nil ?_
    refine AWp.seq (AWp.region ?_)
    refine AOps.read trivial rfl (by decide) (Reader.move (.inl rfl) (ok_const rfl) (v := .list false 83 (unitL.map encU)) rfl) ?_
    refine AOps.read trivial rfl (by decide) (Reader.mkFunc rfl rfl) ?_
    refine AOps.call (args := [.list false 83 (unitL.map encU), .fn 72 [.gptr id1 0]]) trivial rfl (by decide) rfl rfl Tryd.call71 (args_ok rfl) rfl (by intro j x v hx hv; match j, hx, hv with | 0, hx, hv => cases hx; cases hv; exact .inl ⟨rfl, rfl⟩ | 1, hx, hv => cases hx; cases hv; exact .inl ⟨rfl, rfl⟩ | _ + 2, hx, hv => cases hx) (ixf_some (setM M id1 [.str s]) id1 s setM_get i hi hno he) ?_
    rintro _ _ ⟨rfl, rfl⟩
    refine AOps.read trivial rfl (by decide) (Reader.move (.inr rfl) (ok_const rfl) (v := .lit (.int .i64 (i : Int))) rfl) ?_
    refine AOps.nil ?_
    refine AWp.seq ?_
    refine AWp.seq (AWp.region ?_)
    refine AOps.read trivial rfl (by decide) (Reader.move (.inl rfl) (ok_const rfl) (v := .lit (.int .i64 (i : Int))) rfl) ?_
    refine AOps.read trivial rfl (by decide) (Reader.int rfl rfl rfl (r := .bool (decide ((i : Int) < 0))) rfl) ?_
    refine AOps.nil ?_
    refine AWp.cond (b := decide ((i : Int) < 0)) rfl (fun h2 => ?_) (fun h2 => ?_)
    · skip
      have h2' : i < 0 := (by have hh := of_decide_eq_true h2; omega)
      clear h2
      refine AWp.seq (AWp.region ?_)
      refine AOps.read trivial rfl (by decide) (Reader.move (.inr rfl) (ok_const rfl) (v := .lit (.int .i64 0)) rfl) ?_
      refine AOps.nil ?_
      refine AWp.ret ?_
      exact ⟨.inl rfl, _, ResOf.one 2 (.lit (.int .i64 0)) rfl rfl, ⟨M, ⟨absurd (by assumption) (by omega), rfl⟩, setM_sub hid1n⟩⟩
    · skip
      have h2' : ¬ (i < 0) := (by have hh := of_decide_eq_false h2; omega)
      clear h2
      refine AWp.skip ?_
      refine AWp.seq (AWp.region ?_)
      refine AOps.read trivial rfl (by decide) (Reader.move (.inl rfl) (ok_const rfl) (v := .list false 83 (unitL.map encU)) rfl) ?_
      refine AOps.read trivial rfl (by decide) (Reader.move (.inl rfl) (ok_const rfl) (v := .lit (.int .i64 (i : Int))) rfl) ?_
      refine AOps.read trivial rfl (by decide) (Reader.elemAddr (m := i) rfl Tryd.underlying80 sizeOf_83 rfl rfl rfl (e := encU (unitL.getD i u0)) (unit_at (by omega))) ?_
      refine AOps.read trivial rfl (by decide) (Reader.fieldE rfl ⟨_, _, Tryd.underlying83, rfl, rfl, rfl, sizeOf_3⟩ (by decide) rfl) ?_
      refine AOps.read trivial rfl (by decide) (Reader.loadE rfl Tryd.underlying3 sizeOf_3 rfl (v := .lit (.int .i64 (((unitL.getD i u0).2 : Nat) : Int))) rfl rfl) ?_
      refine AOps.read trivial rfl (by decide) (Reader.move (.inr rfl) (ok_const rfl) (v := .lit (.int .i64 (((unitL.getD i u0).2 : Nat) : Int))) rfl) ?_
      refine AOps.nil ?_
      refine AWp.ret ?_
      exact ⟨.inl rfl, _, ResOf.one 2 (.lit (.int .i64 (((unitL.getD i u0).2 : Nat) : Int))) rfl rfl, ⟨M, ⟨rfl, rfl⟩, setM_sub hid1n⟩⟩

theorem Unit_any (s : List UInt8) (M : Nat → Option (List AV)) : ACall Tryd.prog 42 [.str s] M (fun r M' => r = .lit (.int .i64 ((unitOf s : Nat) : Int)) ∧ M = M') := by
  by_cases h0 : s = []
  · subst h0; exact Unit_nil M
  · rcases ix_cases s with h | ⟨i, hi, hno, he⟩
    · have := Unit_none s h0 h M
      rw [unitOf_none h h0]; exact this
    · have := Unit_some s h0 i hi hno he M
      rw [unitOf_some hi he]; exact this

set_option maxRecDepth 20000 in
theorem rUnit_any (t : List UInt8) (M : Nat → Option (List AV)) : ACall Tryd.prog 91 [.str t] M (fun r M' => r = .lit (.int .i64 ((unitOf t : Nat) : Int)) ∧ M = M') := by
  refine ACall.of Tryd.func91 rfl (n := 34) rfl rfl rfl ?_
  refine AWp.seq (AWp.region ?_)
  refine AOps.read trivial rfl (by decide) (Reader.move (.inr rfl) (ok_const rfl) (v := .lit (.int .i64 0)) rfl) ?_
  refine AOps.nil ?_
  refine AWp.seq ?_
  refine AWp.seq (AWp.region ?_)
  refine AOps.read trivial rfl (by decide) (Reader.move (.inl rfl) (ok_const rfl) (v := .str t) rfl) ?_
  refine AOps.read trivial rfl (by decide) (Reader.strs rfl rfl rfl (r := t == []) rfl) ?_
  refine AOps.nil ?_
  refine AWp.cond (b := t == []) rfl (fun h1 => ?_) (fun h1 => ?_)
  · skip
    have h1' : t = [] := (eq_of_beq h1)
    clear h1
    refine AWp.seq (AWp.region ?_)
    refine AOps.read trivial rfl (by decide) (Reader.move (.inr rfl) (ok_const rfl) (v := .lit (.int .i64 1)) rfl) ?_
    refine AOps.nil ?_
    refine AWp.ret ?_
    exact ⟨.inl rfl, _, ResOf.one 2 (.lit (.int .i64 1)) rfl rfl, ⟨by rw [show t = [] by assumption]; rfl, rfl⟩⟩
  · skip
    have h1' : ¬ (t = []) := (beq_eq_false_iff_ne.1 h1)
    clear h1
    refine AWp.skip ?_
    refine AWp.seq (AWp.region ?_)
    refine AOps.call (args := []) trivial rfl (by decide) rfl rfl Tryd.call92 (args_ok rfl) rfl (by intro j x v hx hv; match j, hx, hv with  | _ + 0, hx, hv => cases hx) (names_any M) ?_
    rintro _ _ ⟨rfl, rfl⟩
    refine AOps.steal trivial rfl (by decide) (by decide) (.inr rfl) (v := .list true 9 (namesL.map AV.str)) rfl ?_
    refine AOps.nil ?_
    refine AWp.seq ?_
    refine AWp.seq (AWp.region ?_)
    refine AOps.read trivial rfl (by decide) (Reader.move (.inr rfl) (ok_const rfl) (v := .lit (.int .i64 0)) rfl) ?_
    refine AOps.nil ?_
    refine AWp.block ?_
    refine AWp.loopE [0, 3, 4] [] (fun m s => ∃ (i : Nat), m = 8 - i ∧ s = ⟨[(0, .str t), (3, .list true 9 (namesL.map AV.str)), (4, .lit (.int .i64 (i : Int)))], [], M⟩ ∧ (i ≤ 8) ∧ (t ≠ []) ∧ (∀ j, j < i → (unitL.getD j u0).1 ≠ t)) ?_ ?_
    · exact ⟨_, 0, rfl, rfl, by omega, by assumption, fun j hj => by omega⟩
    · rintro _ _ ⟨i, rfl, rfl, hi, h0, hno⟩
      refine AWp.seq ?_
      refine AWp.seq (AWp.region ?_)
      refine AOps.read trivial rfl (by decide) (Reader.move (.inl rfl) (ok_const rfl) (v := .lit (.int .i64 (i : Int))) rfl) ?_
      refine AOps.read trivial rfl (by decide) (Reader.int rfl rfl rfl (r := .bool (decide ((i : Int) < 8))) rfl) ?_
      refine AOps.nil ?_
      refine AWp.cond (b := decide ((i : Int) < 8)) rfl (fun h2 => ?_) (fun h2 => ?_)
      · skip
        have h2' : i < 8 := (by have hh := of_decide_eq_true h2; omega)
        clear h2
        refine AWp.skip ?_
        refine AWp.seq ?_
        refine AWp.block ?_
        refine AWp.seq (AWp.region ?_)
        refine AOps.read trivial rfl (by decide) (Reader.move (.inl rfl) (ok_const rfl) (v := .list false 9 (namesL.map AV.str)) rfl) ?_
        refine AOps.read trivial rfl (by decide) (Reader.move (.inl rfl) (ok_const rfl) (v := .lit (.int .i64 (i : Int))) rfl) ?_
        refine AOps.read trivial rfl (by decide) (Reader.elemAddr (m := i) rfl Tryd.underlying23 sizeOf_9 rfl rfl rfl (e := .str (namesL.getD i [])) (name_at (by omega))) ?_
        refine AOps.read trivial rfl (by decide) (Reader.loadE rfl Tryd.underlying9 sizeOf_9 rfl (v := .str (namesL.getD i [])) rfl rfl) ?_
        refine AOps.read trivial rfl (by decide) (Reader.move (.inl rfl) (ok_const rfl) (v := .str t) rfl) ?_
        refine AOps.read trivial rfl (by decide) (Reader.strs rfl rfl rfl (r := (namesL.getD i []) == t) rfl) ?_
        refine AOps.nil ?_
        refine AWp.cond (b := (namesL.getD i []) == t) rfl (fun h3 => ?_) (fun h3 => ?_)
        · skip
          have h3' : (namesL.getD i []) = t := (eq_of_beq h3)
          clear h3
          refine AWp.seq (AWp.region ?_)
          refine AOps.read trivial rfl (by decide) (Reader.move (.inr rfl) (ok_const rfl) (v := .lit (.int .i64 1)) rfl) ?_
          refine AOps.nil ?_
          refine AWp.seq ?_
          refine AWp.seq (AWp.region ?_)
          refine AOps.read trivial rfl (by decide) (Reader.move (.inl rfl) (ok_const rfl) (v := .lit (.int .i64 (i : Int))) rfl) ?_
          refine AOps.read trivial rfl (by decide) (Reader.quo rfl rfl rfl (by decide) (c := ((i / 2 : Nat) : Int)) (by rw [show (2 : Int) = ((2 : Nat) : Int) from rfl, nat_quo]; exact IntWalk.i64_in _ (by omega))) ?_
          refine AOps.read trivial rfl (by decide) (Reader.move (.inr rfl) (ok_const rfl) (v := .lit (.int .i64 ((i / 2 : Nat) : Int))) rfl) ?_
          refine AOps.nil ?_
          refine AWp.block ?_
          refine AWp.loopE [0, 3, 4, 5, 6] [] (fun m s => ∃ (k : Nat), m = 4 - k ∧ s = ⟨[(0, .str t), (3, .list true 9 (namesL.map AV.str)), (4, .lit (.int .i64 (i : Int))), (5, .lit (.int .i64 ((pw i k : Nat) : Int))), (6, .lit (.int .i64 (k : Int)))], [], M⟩ ∧ (i / 2 ≤ k) ∧ (k ≤ 4) ∧ (i < 8) ∧ ((unitL.getD i u0).1 = t)) ?_ ?_
          · exact ⟨_, i / 2, rfl, (by rw [pw_0]; rfl), by omega, by omega, by omega, by rw [← name_unit (by omega)]; assumption⟩
          · rintro _ _ ⟨k, rfl, rfl, hk1, hk4, hi8, hnm⟩
            have hpw := pw_le (i := i) (k := k) hk4
            refine AWp.seq ?_
            refine AWp.seq (AWp.region ?_)
            refine AOps.read trivial rfl (by decide) (Reader.move (.inl rfl) (ok_const rfl) (v := .lit (.int .i64 (k : Int))) rfl) ?_
            refine AOps.read trivial rfl (by decide) (Reader.int rfl rfl rfl (r := .bool (decide ((k : Int) < 4))) rfl) ?_
            refine AOps.nil ?_
            refine AWp.cond (b := decide ((k : Int) < 4)) rfl (fun h4 => ?_) (fun h4 => ?_)
            · skip
              have h4' : k < 4 := (by have hh := of_decide_eq_true h4; omega)
              clear h4
              refine AWp.skip ?_
              refine AWp.seq ?_
              refine AWp.block ?_
              refine AWp.seq (AWp.region ?_)
              refine AOps.read trivial rfl (by decide) (Reader.move (.inl rfl) (ok_const rfl) (v := .lit (.int .i64 (i : Int))) rfl) ?_
              refine AOps.read trivial rfl (by decide) (Reader.rem rfl rfl rfl (by decide) (c := ((i % 2 : Nat) : Int)) (by first | rfl | exact nat_rem _ _)) ?_
              refine AOps.read trivial rfl (by decide) (Reader.int rfl rfl rfl (r := .bool (((i % 2 : Nat) : Int) == 0)) rfl) ?_
              refine AOps.nil ?_
              refine AWp.cond (b := ((i % 2 : Nat) : Int) == 0) rfl (fun h5 => ?_) (fun h5 => ?_)
              · skip
                have h5' : (i % 2) = 0 := (by have hh := eq_of_beq h5; omega)
                clear h5
                refine AWp.region ?_
                refine AOps.read trivial rfl (by decide) (Reader.move (.inl rfl) (ok_const rfl) (v := .lit (.int .i64 ((pw i k : Nat) : Int))) rfl) ?_
                refine AOps.read trivial rfl (by decide) (Reader.sum rfl rfl rfl (m := ((pw i k : Nat) : Int) * 1024) (c := (((pw i k) * 1024 : Nat) : Int)) rfl (by first | exact IntWalk.i64_in _ (by omega) | exact IntWalk.i64_in _ (by constructor <;> omega) | (simp only [];omega))) ?_
                refine AOps.read trivial rfl (by decide) (Reader.move (.inr rfl) (ok_const rfl) (v := .lit (.int .i64 (((pw i k) * 1024 : Nat) : Int))) rfl) ?_
                refine AOps.nil ?_
                refine AWp.region ?_
                refine AOps.read trivial rfl (by decide) (Reader.move (.inl rfl) (ok_const rfl) (v := .lit (.int .i64 (k : Int))) rfl) ?_
                refine AOps.read trivial rfl (by decide) (Reader.sum rfl rfl rfl (m := (k : Int) + 1) (c := ((k + 1 : Nat) : Int)) rfl (by first | exact IntWalk.i64_in _ (by omega) | exact IntWalk.i64_in _ (by constructor <;> omega) | (simp only [];omega))) ?_
                refine AOps.read trivial rfl (by decide) (Reader.move (.inr rfl) (ok_const rfl) (v := .lit (.int .i64 ((k + 1 : Nat) : Int))) rfl) ?_
                refine AOps.nil ?_
                have hpk := pw_le (i := i) (k := k) hk4
                first | exact ⟨_, by omega, k + 1, rfl, (by rw [← pw_even hk1 (by assumption)]; rfl), by omega, by omega, hi8, hnm⟩ | exact ⟨_, by omega, k + 1, rfl, (by rw [← pw_odd hk1 (by assumption)]; rfl), by omega, by omega, hi8, hnm⟩
              · skip
                have h5' : ¬ ((i % 2) = 0) := (by have hh := beq_eq_false_iff_ne.1 h5; omega)
                clear h5
                refine AWp.region ?_
                refine AOps.read trivial rfl (by decide) (Reader.move (.inl rfl) (ok_const rfl) (v := .lit (.int .i64 ((pw i k : Nat) : Int))) rfl) ?_
                refine AOps.read trivial rfl (by decide) (Reader.sum rfl rfl rfl (m := ((pw i k : Nat) : Int) * 1000) (c := (((pw i k) * 1000 : Nat) : Int)) rfl (by first | exact IntWalk.i64_in _ (by omega) | exact IntWalk.i64_in _ (by constructor <;> omega) | (simp only [];omega))) ?_
                refine AOps.read trivial rfl (by decide) (Reader.move (.inr rfl) (ok_const rfl) (v := .lit (.int .i64 (((pw i k) * 1000 : Nat) : Int))) rfl) ?_
                refine AOps.nil ?_
                refine AWp.region ?_
                refine AOps.read trivial rfl (by decide) (Reader.move (.inl rfl) (ok_const rfl) (v := .lit (.int .i64 (k : Int))) rfl) ?_
                refine AOps.read trivial rfl (by decide) (Reader.sum rfl rfl rfl (m := (k : Int) + 1) (c := ((k + 1 : Nat) : Int)) rfl (by first | exact IntWalk.i64_in _ (by omega) | exact IntWalk.i64_in _ (by constructor <;> omega) | (simp only [];omega))) ?_
                refine AOps.read trivial rfl (by decide) (Reader.move (.inr rfl) (ok_const rfl) (v := .lit (.int .i64 ((k + 1 : Nat) : Int))) rfl) ?_
                refine AOps.nil ?_
                have hpk := pw_le (i := i) (k := k) hk4
                first | exact ⟨_, by omega, k + 1, rfl, (by rw [← pw_even hk1 (by assumption)]; rfl), by omega, by omega, hi8, hnm⟩ | exact ⟨_, by omega, k + 1, rfl, (by rw [← pw_odd hk1 (by assumption)]; rfl), by omega, by omega, hi8, hnm⟩
            · skip
              have h4' : ¬ (k < 4) := (by have hh := of_decide_eq_false h4; omega)
              clear h4
              refine AWp.exit ?_
              refine AWp.seq (AWp.region ?_)
              refine AOps.read trivial rfl (by decide) (Reader.move (.inl rfl) (ok_const rfl) (v := .lit (.int .i64 ((pw i k : Nat) : Int))) rfl) ?_
              refine AOps.read trivial rfl (by decide) (Reader.move (.inr rfl) (ok_const rfl) (v := .lit (.int .i64 ((pw i k : Nat) : Int))) rfl) ?_
              refine AOps.nil ?_
              refine AWp.ret ?_
              exact ⟨.inl rfl, _, ResOf.one 2 (.lit (.int .i64 ((pw i k : Nat) : Int))) rfl rfl, ⟨by rw [unitOf_some hi8 hnm, ← pw_unit hi8, show k = 4 by omega], rfl⟩⟩
        · skip
          have h3' : ¬ ((namesL.getD i []) = t) := (beq_eq_false_iff_ne.1 h3)
          clear h3
          refine AWp.skip ?_
          refine AWp.region ?_
          refine AOps.read trivial rfl (by decide) (Reader.move (.inl rfl) (ok_const rfl) (v := .lit (.int .i64 (i : Int))) rfl) ?_
          refine AOps.read trivial rfl (by decide) (Reader.sum rfl rfl rfl (m := (i : Int) + 1) (c := ((i + 1 : Nat) : Int)) rfl (by first | exact IntWalk.i64_in _ (by omega) | exact IntWalk.i64_in _ (by constructor <;> omega) | (simp only [];omega))) ?_
          refine AOps.read trivial rfl (by decide) (Reader.move (.inr rfl) (ok_const rfl) (v := .lit (.int .i64 ((i + 1 : Nat) : Int))) rfl) ?_
          refine AOps.nil ?_
          exact ⟨_, by omega, i + 1, rfl, rfl, by omega, h0, nx_0 hno (by rw [← name_unit (by omega)]; assumption)⟩
      · skip
        have h2' : ¬ (i < 8) := (by have hh := of_decide_eq_false h2; omega)
        clear h2
        refine AWp.exit ?_
        refine AWp.seq (AWp.region ?_)
        refine AOps.read trivial rfl (by decide) (Reader.move (.inr rfl) (ok_const rfl) (v := .lit (.int .i64 0)) rfl) ?_
        refine AOps.nil ?_
        refine AWp.ret ?_
        exact ⟨.inl rfl, _, ResOf.one 2 (.lit (.int .i64 0)) rfl rfl, ⟨by rw [unitOf_none (fun j hj => hno j (by omega)) h0]; rfl, rfl⟩⟩

end Go.Proofs.YtlpihekflkjkfaaDoor
