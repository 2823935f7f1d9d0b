/- Walks over abstract values, printed by my program av.py. -/
import Derived.Test.YtkdpehhdbjkljaaDoorLex3
import Derived.Test.YtkdpehhdbjkljaaDoorBldS
namespace Go.Proofs.YtkdpehhdbjkljaaDoor
open Go.RowKit

set_option maxRecDepth 20000 in
theorem join_any (x : List (List Field)) (hx : Small x) (hne : ∀ i k, i < x.length → k < (x.getD i []).length → ((x.getD i []).getD k f0).text ≠ []) (hb : (joinT x).length ≤ 140737488355328) (M : Nat → Option (List AV)) : ACall Tryd.prog 19 [.list false 31 (x.map encL)] M (fun r M' => r = .str (joinT x) ∧ M = M') := by
  have hx1 := hx.1
  refine ACall.of Tryd.func19 rfl (n := 31) rfl rfl rfl ?_
  refine AWp.seq (AWp.region ?_)
  refine AOps.read trivial rfl (by decide) (Reader.move (.inr rfl) (ok_const rfl) (v := .str []) rfl) ?_
  refine AOps.nil ?_
  refine AWp.seq (AWp.region ?_)
  refine AOps.allocG (Es := [0]) trivial rfl (by decide) rfl (by decide) zero_54 rfl (cells := [.lit (.pointer none), .lit (.slice none 0 0)]) rfl (all_scalar rfl) (all_flat rfl) ?_
  intro id1 hid1n hid1t
  refine AOps.nil ?_
  refine AWp.seq ?_
  refine AWp.seq (AWp.region ?_)
  refine AOps.read trivial rfl (by decide) (Reader.move (.inl rfl) (ok_const rfl) (v := .list false 31 (x.map encL)) rfl) ?_
  refine AOps.read trivial rfl (by decide) (Reader.len' (xs := x.map encL) rfl rfl rfl rfl Tryd.underlying24 rfl (m := x.length) (by simp)) ?_
  refine AOps.read trivial rfl (by decide) (Reader.move (.inl rfl) (ok_const rfl) (v := .lit (.int .i64 0)) rfl) ?_
  refine AOps.nil ?_
  refine AWp.block ?_
  refine AWp.loopE [0, 3, 8, 9, 10] [] (fun m s => ∃ (i : Nat) (p : AV), m = x.length - i ∧ s = ⟨[(0, .list false 31 (x.map encL)), (3, .gptr id1 0), (8, .list false 31 (x.map encL)), (9, .lit (.int .i64 (x.length : Int))), (10, .lit (.int .i64 (i : Int)))], [], (setM M id1 [p, bufAV (joinT (x.take i))])⟩ ∧ (i ≤ x.length) ∧ (p = .lit (.pointer none) ∨ p = .gptr id1 0)) ?_ ?_
  · exact ⟨_, 0, _, rfl, rfl, Nat.zero_le _, .inl rfl⟩
  · rintro _ _ ⟨i, p, rfl, rfl, hi, hp⟩
    have hxi := hx.2 i
    refine AWp.seq (AWp.region ?_)
    refine AOps.read trivial rfl (by decide) (Reader.int rfl rfl rfl (r := .bool (decide ((i : Int) < (x.length : Int)))) rfl) ?_
    refine AOps.nil ?_
    refine AWp.seq ?_
    refine AWp.cond (b := decide ((i : Int) < (x.length : Int))) rfl (fun h1 => ?_) (fun h1 => ?_)
    · skip
      have h1' : i < x.length := (by have hh := of_decide_eq_true h1; omega)
      clear h1
      refine AWp.skip ?_
      refine AWp.seq ?_
      refine AWp.block ?_
      refine AWp.seq (AWp.region ?_)
      refine AOps.read trivial rfl (by decide) (Reader.elemAddr (m := i) rfl Tryd.underlying24 sizeOf_31 rfl rfl rfl (e := .list false 33 ((x.getD i []).map encF)) (getD_map (by first | assumption | omega))) ?_
      refine AOps.read trivial rfl (by decide) (Reader.loadE rfl Tryd.underlying31 sizeOf_31 rfl (v := .list false 33 ((x.getD i []).map encF)) rfl rfl) ?_
      refine AOps.read trivial rfl (by decide) (Reader.move (.inr rfl) (ok_const rfl) (v := .list false 33 ((x.getD i []).map encF)) rfl) ?_
      refine AOps.nil ?_
      refine AWp.seq ?_
      refine AWp.seq (AWp.region ?_)
      refine AOps.read trivial rfl (by decide) (Reader.move (.inl rfl) (ok_const rfl) (v := .list false 33 ((x.getD i []).map encF)) rfl) ?_
      refine AOps.read trivial rfl (by decide) (Reader.len' (xs := (x.getD i []).map encF) rfl rfl rfl rfl Tryd.underlying31 rfl (m := (x.getD i []).length) (by simp)) ?_
      refine AOps.read trivial rfl (by decide) (Reader.move (.inl rfl) (ok_const rfl) (v := .lit (.int .i64 0)) rfl) ?_
      refine AOps.nil ?_
      refine AWp.block ?_
      refine AWp.loopE [0, 3, 8, 9, 10, 5, 14, 15, 16] [] (fun m s => ∃ (k : Nat) (p : AV), m = (x.getD i []).length - k ∧ s = ⟨[(0, .list false 31 (x.map encL)), (3, .gptr id1 0), (8, .list false 31 (x.map encL)), (9, .lit (.int .i64 (x.length : Int))), (10, .lit (.int .i64 (i : Int))), (5, .list false 33 ((x.getD i []).map encF)), (14, .list false 33 ((x.getD i []).map encF)), (15, .lit (.int .i64 (((x.getD i []).length : Nat) : Int))), (16, .lit (.int .i64 (k : Int)))], [], (setM M id1 [p, bufAV (joinAt x i k)])⟩ ∧ (k ≤ (x.getD i []).length) ∧ (i < x.length) ∧ (p = .lit (.pointer none) ∨ p = .gptr id1 0)) ?_ ?_
      · exact ⟨_, 0, _, rfl, (by rw [joinAt_0]; rfl), Nat.zero_le _, by assumption, hp⟩
      · rintro _ _ ⟨k, p, rfl, rfl, hk, hi2, hp⟩
        refine AWp.seq (AWp.region ?_)
        refine AOps.read trivial rfl (by decide) (Reader.int rfl rfl rfl (r := .bool (decide ((k : Int) < (((x.getD i []).length : Nat) : Int)))) rfl) ?_
        refine AOps.nil ?_
        refine AWp.seq ?_
        refine AWp.cond (b := decide ((k : Int) < (((x.getD i []).length : Nat) : Int))) rfl (fun h2 => ?_) (fun h2 => ?_)
        · skip
          have h2' : k < ((x.getD i []).length) := (by have hh := of_decide_eq_true h2; omega)
          clear h2
          refine AWp.skip ?_
          refine AWp.seq ?_
          refine AWp.block ?_
          refine AWp.seq (AWp.region ?_)
          refine AOps.read trivial rfl (by decide) (Reader.move (.inl rfl) (ok_const rfl) (v := .lit (.int .i64 (k : Int))) rfl) ?_
          refine AOps.read trivial rfl (by decide) (Reader.elemAddr (m := k) rfl Tryd.underlying31 sizeOf_33 rfl rfl rfl (e := encF ((x.getD i []).getD k f0)) (getD_map (by first | assumption | omega))) ?_
          refine AOps.read trivial rfl (by decide) (Reader.loadE rfl Tryd.underlying33 sizeOf_33 rfl (v := encF ((x.getD i []).getD k f0)) rfl rfl) ?_
          refine AOps.alloc (Es := []) trivial rfl (by decide) rfl (noL rfl) rfl zero_33 rfl (cells := [.str [], .lit (.int .i64 0), .lit (.int .i64 0)]) rfl (all_scalar rfl) (all_flat rfl) ?_
          refine AOps.read trivial rfl (by decide) (Reader.move (.inr rfl) (ok_const rfl) (v := .lit (.int .i64 (k : Int))) rfl) ?_
          refine AOps.storeL trivial rfl rfl rfl rfl sizeOf_33 (.inl ⟨rfl, rfl⟩) rfl (v := encF ((x.getD i []).getD k f0)) rfl (all_flat rfl) rfl (by decide) ?_
          refine AOps.nil ?_
          refine AWp.seq ?_
          refine AWp.seq (AWp.region ?_)
          refine AOps.read trivial rfl (by decide) (Reader.move (.inl rfl) (ok_const rfl) (v := .lit (.int .i64 (k : Int))) rfl) ?_
          refine AOps.read trivial rfl (by decide) (Reader.int rfl rfl rfl (r := .bool (decide ((k : Int) > 0))) rfl) ?_
          refine AOps.nil ?_
          refine AWp.cond (b := decide ((k : Int) > 0)) rfl (fun h3 => ?_) (fun h3 => ?_)
          · skip
            have h3' : k > 0 := (by have hh := of_decide_eq_true h3; omega)
            clear h3
            refine AWp.region ?_
            refine AOps.call (args := [.gptr id1 0, .lit (.int .u8 32)]) trivial rfl (by decide) rfl rfl Tryd.call34 (args_ok rfl) rfl (by intro j x v hx hv; match j, hx, hv with | 0, hx, hv => cases hx; cases hv; exact .inl ⟨rfl, rfl⟩ | 1, hx, hv => cases hx; cases hv; exact .inl ⟨rfl, rfl⟩ | _ + 2, hx, hv => cases hx) (WriteByte_to id1 (by assumption) (joinAt x i k) ((joinAt x i k) ++ [(32 : UInt8)]) (32 : UInt8) rfl (by have hj1 := joinAt_le (x := x) hi2 hk; omega) p (by assumption) (setM M id1 [p, bufAV (joinAt x i k)]) (setM M id1 [.gptr id1 0, bufAV ((joinAt x i k) ++ [(32 : UInt8)])]) setM_get setM_setM) ?_
            rintro _ _ ⟨rfl, rfl⟩
            refine AOps.nil ?_
            refine AWp.region ?_
            refine AOps.read trivial rfl (by decide) (Reader.fieldL rfl ⟨_, _, Tryd.underlying33, rfl, rfl, rfl, sizeOf_9⟩ (by decide) rfl) ?_
            refine AOps.read trivial rfl (by decide) (Reader.loadL rfl Tryd.underlying9 sizeOf_9 rfl rfl (v := .str (((x.getD i []).getD k f0).text)) rfl rfl) ?_
            refine AOps.call (args := [.gptr id1 0, .str (((x.getD i []).getD k f0).text)]) trivial rfl (by decide) rfl rfl Tryd.call35 (args_ok rfl) rfl (by intro j x v hx hv; match j, hx, hv with | 0, hx, hv => cases hx; cases hv; exact .inl ⟨rfl, rfl⟩ | 1, hx, hv => cases hx; cases hv; exact .inl ⟨rfl, rfl⟩ | _ + 2, hx, hv => cases hx) (WriteString_to id1 (by assumption) ((joinAt x i k) ++ [(32 : UInt8)]) (((x.getD i []).getD k f0).text) (joinAt x i (k + 1)) (joinAt_pos (by assumption) (by assumption)) (fun e => hne i k hi2 (by assumption) (List.append_eq_nil_iff.1 e).2) (by have hj2 := joinAt_le2 (x := x) (i := i) (k := k) hi2 (by assumption); split at hj2 <;> (first | omega | (rw [List.length_append]; simp only [List.length_cons, List.length_nil]; omega))) (.gptr id1 0) (.inr rfl) (setM M id1 [.gptr id1 0, bufAV ((joinAt x i k) ++ [(32 : UInt8)])]) (setM M id1 [.gptr id1 0, bufAV (joinAt x i (k + 1))]) setM_get setM_setM) ?_
            rintro _ _ ⟨rfl, rfl⟩
            refine AOps.nil ?_
            refine AWp.region ?_
            refine AOps.read trivial rfl (by decide) (Reader.sum rfl rfl rfl (m := (k : Int) + 1) (c := ((k + 1 : Nat) : Int)) rfl (by first | exact IntWalk.i64_in _ (by omega) | exact IntWalk.i64_in _ (by constructor <;> omega) | (simp only [];omega))) ?_
            refine AOps.read trivial rfl (by decide) (Reader.move (.inl rfl) (ok_const rfl) (v := .lit (.int .i64 ((k + 1 : Nat) : Int))) rfl) ?_
            refine AOps.nil ?_
            exact ⟨_, by omega, k + 1, _, rfl, rfl, by omega, by omega, .inr rfl⟩
          · skip
            have h3' : ¬ (k > 0) := (by have hh := of_decide_eq_false h3; omega)
            clear h3
            refine AWp.skip ?_
            refine AWp.region ?_
            refine AOps.read trivial rfl (by decide) (Reader.fieldL rfl ⟨_, _, Tryd.underlying33, rfl, rfl, rfl, sizeOf_9⟩ (by decide) rfl) ?_
            refine AOps.read trivial rfl (by decide) (Reader.loadL rfl Tryd.underlying9 sizeOf_9 rfl rfl (v := .str (((x.getD i []).getD k f0).text)) rfl rfl) ?_
            refine AOps.call (args := [.gptr id1 0, .str (((x.getD i []).getD k f0).text)]) trivial rfl (by decide) rfl rfl Tryd.call35 (args_ok rfl) rfl (by intro j x v hx hv; match j, hx, hv with | 0, hx, hv => cases hx; cases hv; exact .inl ⟨rfl, rfl⟩ | 1, hx, hv => cases hx; cases hv; exact .inl ⟨rfl, rfl⟩ | _ + 2, hx, hv => cases hx) (WriteString_to id1 (by assumption) (joinAt x i k) (((x.getD i []).getD k f0).text) (joinAt x i (k + 1)) (joinAt_neg (by assumption) (by assumption)) (fun e => hne i k hi2 (by assumption) (List.append_eq_nil_iff.1 e).2) (by have hj2 := joinAt_le2 (x := x) (i := i) (k := k) hi2 (by assumption); split at hj2 <;> (first | omega | (rw [List.length_append]; simp only [List.length_cons, List.length_nil]; omega))) p (by assumption) (setM M id1 [p, bufAV (joinAt x i k)]) (setM M id1 [.gptr id1 0, bufAV (joinAt x i (k + 1))]) setM_get setM_setM) ?_
            rintro _ _ ⟨rfl, rfl⟩
            refine AOps.nil ?_
            refine AWp.region ?_
            refine AOps.read trivial rfl (by decide) (Reader.sum rfl rfl rfl (m := (k : Int) + 1) (c := ((k + 1 : Nat) : Int)) rfl (by first | exact IntWalk.i64_in _ (by omega) | exact IntWalk.i64_in _ (by constructor <;> omega) | (simp only [];omega))) ?_
            refine AOps.read trivial rfl (by decide) (Reader.move (.inl rfl) (ok_const rfl) (v := .lit (.int .i64 ((k + 1 : Nat) : Int))) rfl) ?_
            refine AOps.nil ?_
            exact ⟨_, by omega, k + 1, _, rfl, rfl, by omega, by omega, .inr rfl⟩
        · skip
          have h2' : ¬ (k < ((x.getD i []).length)) := (by have hh := of_decide_eq_false h2; omega)
          clear h2
          refine AWp.exit ?_
          refine AWp.region ?_
          refine AOps.call (args := [.gptr id1 0, .lit (.int .u8 10)]) trivial rfl (by decide) rfl rfl Tryd.call34 (args_ok rfl) rfl (by intro j x v hx hv; match j, hx, hv with | 0, hx, hv => cases hx; cases hv; exact .inl ⟨rfl, rfl⟩ | 1, hx, hv => cases hx; cases hv; exact .inl ⟨rfl, rfl⟩ | _ + 2, hx, hv => cases hx) (WriteByte_to id1 (by assumption) (joinAt x i k) (joinT (x.take (i + 1))) (10 : UInt8) (joinAt_end hi2 hk (by assumption)) (by have hj1 := joinAt_le (x := x) hi2 hk; omega) p (by assumption) (setM M id1 [p, bufAV (joinAt x i k)]) (setM M id1 [.gptr id1 0, bufAV (joinT (x.take (i + 1)))]) setM_get setM_setM) ?_
          rintro _ _ ⟨rfl, rfl⟩
          refine AOps.nil ?_
          refine AWp.region ?_
          refine AOps.read trivial rfl (by decide) (Reader.sum rfl rfl rfl (m := (i : Int) + 1) (c := ((i + 1 : Nat) : Int)) rfl (by first | exact IntWalk.i64_in _ (by omega) | exact IntWalk.i64_in _ (by constructor <;> omega) | (simp only [];omega))) ?_
          refine AOps.read trivial rfl (by decide) (Reader.move (.inl rfl) (ok_const rfl) (v := .lit (.int .i64 ((i + 1 : Nat) : Int))) rfl) ?_
          refine AOps.nil ?_
          exact ⟨_, by omega, i + 1, _, rfl, rfl, by omega, .inr rfl⟩
    · skip
      have h1' : ¬ (i < x.length) := (by have hh := of_decide_eq_false h1; omega)
      clear h1
      refine AWp.exit ?_
      refine AWp.seq (AWp.region ?_)
      refine AOps.call (args := [.gptr id1 0]) trivial rfl (by decide) rfl rfl Tryd.call36 (args_ok rfl) rfl (by intro j x v hx hv; match j, hx, hv with | 0, hx, hv => cases hx; cases hv; exact .inl ⟨rfl, rfl⟩ | _ + 1, hx, hv => cases hx) (String_any id1 (by assumption) (joinT (x.take i)) (by rw [join_done (by assumption) (by assumption)]; exact hb) p (setM M id1 [p, bufAV (joinT (x.take i))]) M setM_get (delM_set hid1n)) ?_
      rintro _ _ ⟨rfl, rfl⟩
      refine AOps.read trivial rfl (by decide) (Reader.move (.inr rfl) (ok_const rfl) (v := .str (joinT (x.take i))) rfl) ?_
      refine AOps.nil ?_
      refine AWp.ret ?_
      exact ⟨.inl rfl, _, ResOf.one 2 (.str (joinT (x.take i))) rfl rfl, ⟨congrArg AV.str (join_done (by assumption) (by assumption)), rfl⟩⟩

end Go.Proofs.YtkdpehhdbjkljaaDoor
