/- Walks over abstract values, printed by my program av.py. -/
import Derived.Test.YtkdpehhdbjkljaaDoorLex2
import Derived.Test.YtkdpehhdbjkljaaDoorLexP3
namespace Go.Proofs.YtkdpehhdbjkljaaDoor
open Go.RowKit


set_option maxRecDepth 20000 in
theorem same_any (x y : List (List Field)) (hx : Small x) (hy : Small y) (M : Nat → Option (List AV)) : ACall Tryd.prog 17 [.list false 31 (x.map encL), .list false 31 (y.map encL)] M (fun r M' => r = .lit (.bool (decide (x = y))) ∧ M = M') := by
  have hx1 := hx.1
  have hy1 := hy.1
  refine ACall.of Tryd.func17 rfl (n := 53) rfl rfl rfl ?_
  refine AWp.seq (AWp.region ?_)
  refine AOps.read trivial rfl (by decide) (Reader.move (.inr rfl) (ok_const rfl) (v := .lit (.bool false)) rfl) ?_
  refine AOps.nil ?_
  refine AWp.seq ?_
  refine AWp.seq (AWp.region ?_)
  refine AOps.read trivial rfl (by decide) (Reader.move (.inl rfl) (ok_const rfl) (v := .list false 31 (x.map encL)) rfl) ?_
  refine AOps.read trivial rfl (by decide) (Reader.len' (xs := x.map encL) rfl rfl rfl rfl Tryd.underlying24 rfl (m := x.length) (by simp)) ?_
  refine AOps.read trivial rfl (by decide) (Reader.move (.inl rfl) (ok_const rfl) (v := .list false 31 (y.map encL)) rfl) ?_
  refine AOps.read trivial rfl (by decide) (Reader.len' (xs := y.map encL) rfl rfl rfl rfl Tryd.underlying24 rfl (m := y.length) (by simp)) ?_
  refine AOps.read trivial rfl (by decide) (Reader.int rfl rfl rfl (r := .bool ((x.length : Int) != (y.length : Int))) rfl) ?_
  refine AOps.nil ?_
  refine AWp.cond (b := (x.length : Int) != (y.length : Int)) rfl (fun h1 => ?_) (fun h1 => ?_)
  · skip
    have h1' : x.length ≠ y.length := (by have hh := bne_iff_ne.1 h1; omega)
    clear h1
    refine AWp.seq (AWp.region ?_)
    refine AOps.read trivial rfl (by decide) (Reader.move (.inr rfl) (ok_const rfl) (v := .lit (.bool false)) rfl) ?_
    refine AOps.nil ?_
    refine AWp.ret ?_
    exact ⟨.inl rfl, _, ResOf.one 4 (.lit (.bool false)) rfl rfl, ⟨congrArg (fun b => AV.lit (.bool b)) (by first | exact same_len (by assumption) | exact same_in (by assumption) | exact same_f (by assumption)), rfl⟩⟩
  · skip
    have h1' : ¬ (x.length ≠ y.length) := (by have hh := bne_eq_false_iff_eq.1 h1; omega)
    clear h1
    refine AWp.skip ?_
    refine AWp.seq ?_
    refine AWp.seq (AWp.region ?_)
    refine AOps.read trivial rfl (by decide) (Reader.move (.inr rfl) (ok_const rfl) (v := .lit (.int .i64 0)) rfl) ?_
    refine AOps.nil ?_
    refine AWp.block ?_
    refine AWp.loopE [0, 1, 5] [] (fun m s => ∃ (i : Nat), m = x.length - i ∧ s = ⟨[(0, .list false 31 (x.map encL)), (1, .list false 31 (y.map encL)), (5, .lit (.int .i64 (i : Int)))], [], M⟩ ∧ (i ≤ x.length) ∧ (∀ m, m < i → x.getD m [] = y.getD m [])) ?_ ?_
    · exact ⟨_, 0, rfl, rfl, Nat.zero_le _, fun m hm => by omega⟩
    · rintro _ _ ⟨i, rfl, rfl, hi, hs⟩
      have hxi := hx.2 i
      have hyi := hy.2 i
      refine AWp.seq ?_
      refine AWp.seq (AWp.region ?_)
      refine AOps.read trivial rfl (by decide) (Reader.move (.inl rfl) (ok_const rfl) (v := .lit (.int .i64 (i : Int))) rfl) ?_
      refine AOps.read trivial rfl (by decide) (Reader.move (.inl rfl) (ok_const rfl) (v := .list false 31 (x.map encL)) rfl) ?_
      refine AOps.read trivial rfl (by decide) (Reader.len' (xs := x.map encL) rfl rfl rfl rfl Tryd.underlying24 rfl (m := x.length) (by simp)) ?_
      refine AOps.read trivial rfl (by decide) (Reader.int rfl rfl rfl (r := .bool (decide ((i : Int) < (x.length : Int)))) rfl) ?_
      refine AOps.nil ?_
      refine AWp.cond (b := decide ((i : Int) < (x.length : Int))) rfl (fun h2 => ?_) (fun h2 => ?_)
      · skip
        have h2' : i < x.length := (by have hh := of_decide_eq_true h2; omega)
        clear h2
        refine AWp.skip ?_
        refine AWp.seq ?_
        refine AWp.block ?_
        refine AWp.seq ?_
        refine AWp.seq (AWp.drawnAll (by kernel_rfl) (by kernel_rfl) ?_)
        refine AOpsE.read trivial rfl (by decide) (Reader.move (.inl rfl) (ok_const rfl) (v := .list false 31 (x.map encL)) rfl) ?_
        refine AOpsE.read trivial rfl (by decide) (Reader.move (.inl rfl) (ok_const rfl) (v := .lit (.int .i64 (i : Int))) rfl) ?_
        refine AOpsE.read trivial rfl (by decide) (Reader.elemAddr (m := i) rfl Tryd.underlying24 sizeOf_31 rfl rfl rfl (e := .list false 33 ((x.getD i []).map encF)) (getD_map (by first | assumption | omega))) ?_
        refine AOpsE.read trivial rfl (by decide) (Reader.loadE rfl Tryd.underlying31 sizeOf_31 rfl (v := .list false 33 ((x.getD i []).map encF)) rfl rfl) ?_
        refine AOpsE.read trivial rfl (by decide) (Reader.len' (xs := (x.getD i []).map encF) rfl rfl rfl rfl Tryd.underlying31 rfl (m := (x.getD i []).length) (by simp)) ?_
        refine AOpsE.read trivial rfl (by decide) (Reader.move (.inl rfl) (ok_const rfl) (v := .list false 31 (y.map encL)) rfl) ?_
        refine AOpsE.read trivial rfl (by decide) (Reader.move (.inl rfl) (ok_const rfl) (v := .lit (.int .i64 (i : Int))) rfl) ?_
        refine AOpsE.read trivial rfl (by decide) (Reader.elemAddr (m := i) rfl Tryd.underlying24 sizeOf_31 rfl rfl rfl (e := .list false 33 ((y.getD i []).map encF)) (getD_map (by first | assumption | omega))) ?_
        refine AOpsE.read trivial rfl (by decide) (Reader.loadE rfl Tryd.underlying31 sizeOf_31 rfl (v := .list false 33 ((y.getD i []).map encF)) rfl rfl) ?_
        refine AOpsE.read trivial rfl (by decide) (Reader.len' (xs := (y.getD i []).map encF) rfl rfl rfl rfl Tryd.underlying31 rfl (m := (y.getD i []).length) (by simp)) ?_
        refine AOpsE.read trivial rfl (by decide) (Reader.int rfl rfl rfl (r := .bool ((((x.getD i []).length : Nat) : Int) != (((y.getD i []).length : Nat) : Int))) rfl) ?_
        refine AOpsE.nil ?_
        refine AWp.cond (b := (((x.getD i []).length : Nat) : Int) != (((y.getD i []).length : Nat) : Int)) rfl (fun h3 => ?_) (fun h3 => ?_)
        · skip
          have h3' : ((x.getD i []).length) ≠ ((y.getD i []).length) := (by have hh := bne_iff_ne.1 h3; omega)
          clear h3
          refine AWp.seq (AWp.region ?_)
          refine AOps.read trivial rfl (by decide) (Reader.move (.inr rfl) (ok_const rfl) (v := .lit (.bool false)) rfl) ?_
          refine AOps.nil ?_
          refine AWp.ret ?_
          exact ⟨.inl rfl, _, ResOf.one 4 (.lit (.bool false)) rfl rfl, ⟨congrArg (fun b => AV.lit (.bool b)) (by first | exact same_len (by assumption) | exact same_in (by assumption) | exact same_f (by assumption)), rfl⟩⟩
        · skip
          have h3' : ¬ (((x.getD i []).length) ≠ ((y.getD i []).length)) := (by have hh := bne_eq_false_iff_eq.1 h3; omega)
          clear h3
          refine AWp.skip ?_
          refine AWp.seq (AWp.region ?_)
          refine AOps.read trivial rfl (by decide) (Reader.move (.inr rfl) (ok_const rfl) (v := .lit (.int .i64 0)) rfl) ?_
          refine AOps.nil ?_
          refine AWp.block ?_
          refine AWp.loopE [0, 1, 5, 6] [] (fun m s => ∃ (k : Nat), m = (x.getD i []).length - k ∧ s = ⟨[(0, .list false 31 (x.map encL)), (1, .list false 31 (y.map encL)), (5, .lit (.int .i64 (i : Int))), (6, .lit (.int .i64 (k : Int)))], [], M⟩ ∧ (k ≤ (x.getD i []).length) ∧ (∀ m, m < k → (x.getD i []).getD m f0 = (y.getD i []).getD m f0)) ?_ ?_
          · exact ⟨_, 0, rfl, rfl, Nat.zero_le _, fun m hm => by omega⟩
          · rintro _ _ ⟨k, rfl, rfl, hk, hk2⟩
            refine AWp.seq ?_
            refine AWp.seq (AWp.region ?_)
            refine AOps.read trivial rfl (by decide) (Reader.move (.inl rfl) (ok_const rfl) (v := .lit (.int .i64 (k : Int))) rfl) ?_
            refine AOps.read trivial rfl (by decide) (Reader.move (.inl rfl) (ok_const rfl) (v := .list false 31 (x.map encL)) rfl) ?_
            refine AOps.read trivial rfl (by decide) (Reader.move (.inl rfl) (ok_const rfl) (v := .lit (.int .i64 (i : Int))) rfl) ?_
            refine AOps.read trivial rfl (by decide) (Reader.elemAddr (m := i) rfl Tryd.underlying24 sizeOf_31 rfl rfl rfl (e := .list false 33 ((x.getD i []).map encF)) (getD_map (by first | assumption | omega))) ?_
            refine AOps.read trivial rfl (by decide) (Reader.loadE rfl Tryd.underlying31 sizeOf_31 rfl (v := .list false 33 ((x.getD i []).map encF)) rfl rfl) ?_
            refine AOps.read trivial rfl (by decide) (Reader.len' (xs := (x.getD i []).map encF) rfl rfl rfl rfl Tryd.underlying31 rfl (m := (x.getD i []).length) (by simp)) ?_
            refine AOps.read trivial rfl (by decide) (Reader.int rfl rfl rfl (r := .bool (decide ((k : Int) < (((x.getD i []).length : Nat) : Int)))) rfl) ?_
            refine AOps.nil ?_
            refine AWp.cond (b := decide ((k : Int) < (((x.getD i []).length : Nat) : Int))) rfl (fun h4 => ?_) (fun h4 => ?_)
            · skip
              have h4' : k < ((x.getD i []).length) := (by have hh := of_decide_eq_true h4; omega)
              clear h4
              refine AWp.skip ?_
              refine AWp.seq ?_
              refine AWp.block ?_
              refine AWp.seq (AWp.drawnAll (by kernel_rfl) (by kernel_rfl) ?_)
              refine AOpsE.read trivial rfl (by decide) (Reader.move (.inl rfl) (ok_const rfl) (v := .list false 31 (x.map encL)) rfl) ?_
              refine AOpsE.read trivial rfl (by decide) (Reader.move (.inl rfl) (ok_const rfl) (v := .lit (.int .i64 (i : Int))) rfl) ?_
              refine AOpsE.read trivial rfl (by decide) (Reader.elemAddr (m := i) rfl Tryd.underlying24 sizeOf_31 rfl rfl rfl (e := .list false 33 ((x.getD i []).map encF)) (getD_map (by first | assumption | omega))) ?_
              refine AOpsE.read trivial rfl (by decide) (Reader.loadE rfl Tryd.underlying31 sizeOf_31 rfl (v := .list false 33 ((x.getD i []).map encF)) rfl rfl) ?_
              refine AOpsE.read trivial rfl (by decide) (Reader.move (.inl rfl) (ok_const rfl) (v := .lit (.int .i64 (k : Int))) rfl) ?_
              refine AOpsE.read trivial rfl (by decide) (Reader.elemAddr (m := k) rfl Tryd.underlying31 sizeOf_33 rfl rfl rfl (e := encF ((x.getD i []).getD k f0)) (getD_map (by first | assumption | omega))) ?_
              refine AOpsE.read trivial rfl (by decide) (Reader.loadE rfl Tryd.underlying33 sizeOf_33 rfl (v := encF ((x.getD i []).getD k f0)) rfl rfl) ?_
              refine AOpsE.read trivial rfl (by decide) (Reader.move (.inl rfl) (ok_const rfl) (v := .list false 31 (y.map encL)) rfl) ?_
              refine AOpsE.read trivial rfl (by decide) (Reader.move (.inl rfl) (ok_const rfl) (v := .lit (.int .i64 (i : Int))) rfl) ?_
              refine AOpsE.read trivial rfl (by decide) (Reader.elemAddr (m := i) rfl Tryd.underlying24 sizeOf_31 rfl rfl rfl (e := .list false 33 ((y.getD i []).map encF)) (getD_map (by first | assumption | omega))) ?_
              refine AOpsE.read trivial rfl (by decide) (Reader.loadE rfl Tryd.underlying31 sizeOf_31 rfl (v := .list false 33 ((y.getD i []).map encF)) rfl rfl) ?_
              refine AOpsE.read trivial rfl (by decide) (Reader.move (.inl rfl) (ok_const rfl) (v := .lit (.int .i64 (k : Int))) rfl) ?_
              refine AOpsE.read trivial rfl (by decide) (Reader.elemAddr (m := k) rfl Tryd.underlying31 sizeOf_33 rfl rfl rfl (e := encF ((y.getD i []).getD k f0)) (getD_map (by first | assumption | omega))) ?_
              refine AOpsE.read trivial rfl (by decide) (Reader.loadE rfl Tryd.underlying33 sizeOf_33 rfl (v := encF ((y.getD i []).getD k f0)) rfl rfl) ?_
              refine AOpsE.read trivial rfl (by decide) (Reader.eqAgg (us := [.string ⟨(((x.getD i []).getD k f0).text).toArray⟩, (.int .i64 ((((x.getD i []).getD k f0).line : Nat) : Int)), (.int .i64 ((((x.getD i []).getD k f0).col : Nat) : Int))]) (vs := [.string ⟨(((y.getD i []).getD k f0).text).toArray⟩, (.int .i64 ((((y.getD i []).getD k f0).line : Nat) : Int)), (.int .i64 ((((y.getD i []).getD k f0).col : Nat) : Int))]) (b := (((((x.getD i []).getD k f0).text) == (((y.getD i []).getD k f0).text)) && ((((((x.getD i []).getD k f0).line : Nat) : Int) == ((((y.getD i []).getD k f0).line : Nat) : Int)) && ((((((x.getD i []).getD k f0).col : Nat) : Int) == ((((y.getD i []).getD k f0).col : Nat) : Int)) && true)))) (r := !(decide (((x.getD i []).getD k f0) = ((y.getD i []).getD k f0)))) 9 rfl rfl rfl ⟨_, rfl⟩ ⟨_, rfl⟩ Tryd.underlying33 rfl eqg_33 (by decide) rfl rfl (eqV_33 (((x.getD i []).getD k f0).text) (((y.getD i []).getD k f0).text) ((((x.getD i []).getD k f0).line : Nat) : Int) ((((y.getD i []).getD k f0).line : Nat) : Int) ((((x.getD i []).getD k f0).col : Nat) : Int) ((((y.getD i []).getD k f0).col : Nat) : Int)) (.inr ⟨rfl, (congrArg (!·) (fieldEq _ _).symm)⟩)) ?_
              refine AOpsE.nil ?_
              refine AWp.cond (b := !(decide (((x.getD i []).getD k f0) = ((y.getD i []).getD k f0)))) rfl (fun h5 => ?_) (fun h5 => ?_)
              · skip
                have h5' : ¬ ((x.getD i []).getD k f0) = ((y.getD i []).getD k f0) := (of_decide_eq_false (bnot_t h5))
                clear h5
                refine AWp.seq (AWp.region ?_)
                refine AOps.read trivial rfl (by decide) (Reader.move (.inr rfl) (ok_const rfl) (v := .lit (.bool false)) rfl) ?_
                refine AOps.nil ?_
                refine AWp.ret ?_
                exact ⟨.inl rfl, _, ResOf.one 4 (.lit (.bool false)) rfl rfl, ⟨congrArg (fun b => AV.lit (.bool b)) (by first | exact same_len (by assumption) | exact same_in (by assumption) | exact same_f (by assumption)), rfl⟩⟩
              · skip
                have h5' : ((x.getD i []).getD k f0) = ((y.getD i []).getD k f0) := (of_decide_eq_true (bnot_f h5))
                clear h5
                refine AWp.skip ?_
                refine AWp.region ?_
                refine AOps.read trivial rfl (by decide) (Reader.move (.inl rfl) (ok_const rfl) (v := .lit (.int .i64 (k : Int))) rfl) ?_
                refine AOps.read trivial rfl (by decide) (Reader.sum rfl rfl rfl (m := (k : Int) + 1) (c := ((k + 1 : Nat) : Int)) rfl (by first | exact IntWalk.i64_in _ (by omega) | exact IntWalk.i64_in _ (by constructor <;> omega) | (simp only [];omega))) ?_
                refine AOps.read trivial rfl (by decide) (Reader.move (.inr rfl) (ok_const rfl) (v := .lit (.int .i64 ((k + 1 : Nat) : Int))) rfl) ?_
                refine AOps.nil ?_
                exact ⟨_, by omega, k + 1, rfl, rfl, by omega, next_0 hk2 (by assumption)⟩
            · skip
              have h4' : ¬ (k < ((x.getD i []).length)) := (by have hh := of_decide_eq_false h4; omega)
              clear h4
              refine AWp.exit ?_
              refine AWp.region ?_
              refine AOps.read trivial rfl (by decide) (Reader.move (.inl rfl) (ok_const rfl) (v := .lit (.int .i64 (i : Int))) rfl) ?_
              refine AOps.read trivial rfl (by decide) (Reader.sum rfl rfl rfl (m := (i : Int) + 1) (c := ((i + 1 : Nat) : Int)) rfl (by first | exact IntWalk.i64_in _ (by omega) | exact IntWalk.i64_in _ (by constructor <;> omega) | (simp only [];omega))) ?_
              refine AOps.read trivial rfl (by decide) (Reader.move (.inr rfl) (ok_const rfl) (v := .lit (.int .i64 ((i + 1 : Nat) : Int))) rfl) ?_
              refine AOps.nil ?_
              exact ⟨_, by omega, i + 1, rfl, rfl, by omega, next_0 hs (ext_getD (by omega) (fun m hm => hk2 m (by omega)))⟩
      · skip
        have h2' : ¬ (i < x.length) := (by have hh := of_decide_eq_false h2; omega)
        clear h2
        refine AWp.exit ?_
        refine AWp.seq (AWp.region ?_)
        refine AOps.read trivial rfl (by decide) (Reader.move (.inr rfl) (ok_const rfl) (v := .lit (.bool true)) rfl) ?_
        refine AOps.nil ?_
        refine AWp.ret ?_
        exact ⟨.inl rfl, _, ResOf.one 4 (.lit (.bool true)) rfl rfl, ⟨congrArg (fun b => AV.lit (.bool b)) (same_all (by omega) (fun m hm => hs m (by omega))), rfl⟩⟩

set_option maxRecDepth 20000 in
theorem rjoin_any (x : List (List Field)) (hx : Small x) (hb : (joinT x).length ≤ 140737488355328) (M : Nat → Option (List AV)) : ACall Tryd.prog 20 [.list false 31 (x.map encL)] M (fun r M' => r = .str (joinT x) ∧ M = M') := by
  have hx1 := hx.1
  refine ACall.of Tryd.func20 rfl (n := 38) rfl rfl rfl ?_
  refine AWp.seq (AWp.region ?_)
  refine AOps.read trivial rfl (by decide) (Reader.move (.inr rfl) (ok_const rfl) (v := .str []) rfl) ?_
  refine AOps.nil ?_
  refine AWp.seq (AWp.region ?_)
  refine AOps.read trivial rfl (by decide) (Reader.move (.inr rfl) (ok_const rfl) (v := .str []) rfl) ?_
  refine AOps.nil ?_
  refine AWp.seq ?_
  refine AWp.seq (AWp.region ?_)
  refine AOps.read trivial rfl (by decide) (Reader.move (.inr rfl) (ok_const rfl) (v := .lit (.int .i64 0)) rfl) ?_
  refine AOps.nil ?_
  refine AWp.block ?_
  refine AWp.loopE [0, 3, 4] [] (fun m s => ∃ (i : Nat), m = x.length - i ∧ s = ⟨[(0, .list false 31 (x.map encL)), (3, .str (joinT (x.take i))), (4, .lit (.int .i64 (i : Int)))], [], M⟩ ∧ (i ≤ x.length)) ?_ ?_
  · exact ⟨_, 0, rfl, rfl, Nat.zero_le _⟩
  · rintro _ _ ⟨i, rfl, rfl, hi⟩
    have hxi := hx.2 i
    refine AWp.seq ?_
    refine AWp.seq (AWp.region ?_)
    refine AOps.read trivial rfl (by decide) (Reader.move (.inl rfl) (ok_const rfl) (v := .lit (.int .i64 (i : Int))) rfl) ?_
    refine AOps.read trivial rfl (by decide) (Reader.move (.inl rfl) (ok_const rfl) (v := .list false 31 (x.map encL)) rfl) ?_
    refine AOps.read trivial rfl (by decide) (Reader.len' (xs := x.map encL) rfl rfl rfl rfl Tryd.underlying24 rfl (m := x.length) (by simp)) ?_
    refine AOps.read trivial rfl (by decide) (Reader.int rfl rfl rfl (r := .bool (decide ((i : Int) < (x.length : Int)))) rfl) ?_
    refine AOps.nil ?_
    refine AWp.cond (b := decide ((i : Int) < (x.length : Int))) rfl (fun h1 => ?_) (fun h1 => ?_)
    · skip
      have h1' : i < x.length := (by have hh := of_decide_eq_true h1; omega)
      clear h1
      refine AWp.skip ?_
      refine AWp.seq ?_
      refine AWp.block ?_
      refine AWp.seq ?_
      refine AWp.seq (AWp.region ?_)
      refine AOps.read trivial rfl (by decide) (Reader.move (.inr rfl) (ok_const rfl) (v := .lit (.int .i64 0)) rfl) ?_
      refine AOps.nil ?_
      refine AWp.block ?_
      refine AWp.loopE [0, 3, 4, 5] [] (fun m s => ∃ (k : Nat), m = (x.getD i []).length - k ∧ s = ⟨[(0, .list false 31 (x.map encL)), (3, .str (joinAt x i k)), (4, .lit (.int .i64 (i : Int))), (5, .lit (.int .i64 (k : Int)))], [], M⟩ ∧ (k ≤ (x.getD i []).length) ∧ (i < x.length)) ?_ ?_
      · exact ⟨_, 0, rfl, (by rw [joinAt_0]; rfl), Nat.zero_le _, by assumption⟩
      · rintro _ _ ⟨k, rfl, rfl, hk, hi2⟩
        refine AWp.seq ?_
        refine AWp.seq (AWp.region ?_)
        refine AOps.read trivial rfl (by decide) (Reader.move (.inl rfl) (ok_const rfl) (v := .lit (.int .i64 (k : Int))) rfl) ?_
        refine AOps.read trivial rfl (by decide) (Reader.move (.inl rfl) (ok_const rfl) (v := .list false 31 (x.map encL)) rfl) ?_
        refine AOps.read trivial rfl (by decide) (Reader.move (.inl rfl) (ok_const rfl) (v := .lit (.int .i64 (i : Int))) rfl) ?_
        refine AOps.read trivial rfl (by decide) (Reader.elemAddr (m := i) rfl Tryd.underlying24 sizeOf_31 rfl rfl rfl (e := .list false 33 ((x.getD i []).map encF)) (getD_map (by first | assumption | omega))) ?_
        refine AOps.read trivial rfl (by decide) (Reader.loadE rfl Tryd.underlying31 sizeOf_31 rfl (v := .list false 33 ((x.getD i []).map encF)) rfl rfl) ?_
        refine AOps.read trivial rfl (by decide) (Reader.len' (xs := (x.getD i []).map encF) rfl rfl rfl rfl Tryd.underlying31 rfl (m := (x.getD i []).length) (by simp)) ?_
        refine AOps.read trivial rfl (by decide) (Reader.int rfl rfl rfl (r := .bool (decide ((k : Int) < (((x.getD i []).length : Nat) : Int)))) rfl) ?_
        refine AOps.nil ?_
        refine AWp.cond (b := decide ((k : Int) < (((x.getD i []).length : Nat) : Int))) rfl (fun h2 => ?_) (fun h2 => ?_)
        · skip
          have h2' : k < ((x.getD i []).length) := (by have hh := of_decide_eq_true h2; omega)
          clear h2
          refine AWp.skip ?_
          refine AWp.seq ?_
          refine AWp.block ?_
          refine AWp.seq ?_
          refine AWp.seq (AWp.region ?_)
          refine AOps.read trivial rfl (by decide) (Reader.move (.inl rfl) (ok_const rfl) (v := .lit (.int .i64 (k : Int))) rfl) ?_
          refine AOps.read trivial rfl (by decide) (Reader.int rfl rfl rfl (r := .bool (decide ((k : Int) > 0))) rfl) ?_
          refine AOps.nil ?_
          refine AWp.cond (b := decide ((k : Int) > 0)) rfl (fun h3 => ?_) (fun h3 => ?_)
          · skip
            have h3' : k > 0 := (by have hh := of_decide_eq_true h3; omega)
            clear h3
            refine AWp.region ?_
            refine AOps.read trivial rfl (by decide) (Reader.move (.inl rfl) (ok_const rfl) (v := .str (joinAt x i k)) rfl) ?_
            refine AOps.read trivial rfl (by decide) (Reader.cat rfl rfl rfl (by have := joinAt_le (x := x) hi2 hk; simp; omega) (c := joinAt x i k ++ [32]) rfl) ?_
            refine AOps.read trivial rfl (by decide) (Reader.move (.inr rfl) (ok_const rfl) (v := .str (joinAt x i k ++ [32])) rfl) ?_
            refine AOps.nil ?_
            refine AWp.region ?_
            refine AOps.read trivial rfl (by decide) (Reader.move (.inl rfl) (ok_const rfl) (v := .str (joinAt x i k ++ [32])) rfl) ?_
            refine AOps.read trivial rfl (by decide) (Reader.move (.inl rfl) (ok_const rfl) (v := .list false 31 (x.map encL)) rfl) ?_
            refine AOps.read trivial rfl (by decide) (Reader.move (.inl rfl) (ok_const rfl) (v := .lit (.int .i64 (i : Int))) rfl) ?_
            refine AOps.read trivial rfl (by decide) (Reader.elemAddr (m := i) rfl Tryd.underlying24 sizeOf_31 rfl rfl rfl (e := .list false 33 ((x.getD i []).map encF)) (getD_map (by first | assumption | omega))) ?_
            refine AOps.read trivial rfl (by decide) (Reader.loadE rfl Tryd.underlying31 sizeOf_31 rfl (v := .list false 33 ((x.getD i []).map encF)) rfl rfl) ?_
            refine AOps.read trivial rfl (by decide) (Reader.move (.inl rfl) (ok_const rfl) (v := .lit (.int .i64 (k : Int))) rfl) ?_
            refine AOps.read trivial rfl (by decide) (Reader.elemAddr (m := k) rfl Tryd.underlying31 sizeOf_33 rfl rfl rfl (e := encF ((x.getD i []).getD k f0)) (getD_map (by first | assumption | omega))) ?_
            refine AOps.read trivial rfl (by decide) (Reader.fieldE rfl ⟨_, _, Tryd.underlying33, rfl, rfl, rfl, sizeOf_9⟩ (by decide) rfl) ?_
            refine AOps.read trivial rfl (by decide) (Reader.loadE rfl Tryd.underlying9 sizeOf_9 rfl (v := .str (((x.getD i []).getD k f0).text)) rfl rfl) ?_
            refine AOps.read trivial rfl (by decide) (Reader.cat rfl rfl rfl (by have hj2 := joinAt_le2 (x := x) (i := i) (k := k) hi2 (by assumption); split at hj2 <;> (first | omega | (rw [List.length_append]; simp only [List.length_cons, List.length_nil]; omega))) (c := joinAt x i (k + 1)) (joinAt_pos (by assumption) (by assumption))) ?_
            refine AOps.read trivial rfl (by decide) (Reader.move (.inr rfl) (ok_const rfl) (v := .str (joinAt x i (k + 1))) rfl) ?_
            refine AOps.nil ?_
            refine AWp.region ?_
            refine AOps.read trivial rfl (by decide) (Reader.move (.inl rfl) (ok_const rfl) (v := .lit (.int .i64 (k : Int))) rfl) ?_
            refine AOps.read trivial rfl (by decide) (Reader.sum rfl rfl rfl (m := (k : Int) + 1) (c := ((k + 1 : Nat) : Int)) rfl (by first | exact IntWalk.i64_in _ (by omega) | exact IntWalk.i64_in _ (by constructor <;> omega) | (simp only [];omega))) ?_
            refine AOps.read trivial rfl (by decide) (Reader.move (.inr rfl) (ok_const rfl) (v := .lit (.int .i64 ((k + 1 : Nat) : Int))) rfl) ?_
            refine AOps.nil ?_
            exact ⟨_, by omega, k + 1, rfl, rfl, by omega, by omega⟩
          · skip
            have h3' : ¬ (k > 0) := (by have hh := of_decide_eq_false h3; omega)
            clear h3
            refine AWp.skip ?_
            refine AWp.region ?_
            refine AOps.read trivial rfl (by decide) (Reader.move (.inl rfl) (ok_const rfl) (v := .str (joinAt x i k)) rfl) ?_
            refine AOps.read trivial rfl (by decide) (Reader.move (.inl rfl) (ok_const rfl) (v := .list false 31 (x.map encL)) rfl) ?_
            refine AOps.read trivial rfl (by decide) (Reader.move (.inl rfl) (ok_const rfl) (v := .lit (.int .i64 (i : Int))) rfl) ?_
            refine AOps.read trivial rfl (by decide) (Reader.elemAddr (m := i) rfl Tryd.underlying24 sizeOf_31 rfl rfl rfl (e := .list false 33 ((x.getD i []).map encF)) (getD_map (by first | assumption | omega))) ?_
            refine AOps.read trivial rfl (by decide) (Reader.loadE rfl Tryd.underlying31 sizeOf_31 rfl (v := .list false 33 ((x.getD i []).map encF)) rfl rfl) ?_
            refine AOps.read trivial rfl (by decide) (Reader.move (.inl rfl) (ok_const rfl) (v := .lit (.int .i64 (k : Int))) rfl) ?_
            refine AOps.read trivial rfl (by decide) (Reader.elemAddr (m := k) rfl Tryd.underlying31 sizeOf_33 rfl rfl rfl (e := encF ((x.getD i []).getD k f0)) (getD_map (by first | assumption | omega))) ?_
            refine AOps.read trivial rfl (by decide) (Reader.fieldE rfl ⟨_, _, Tryd.underlying33, rfl, rfl, rfl, sizeOf_9⟩ (by decide) rfl) ?_
            refine AOps.read trivial rfl (by decide) (Reader.loadE rfl Tryd.underlying9 sizeOf_9 rfl (v := .str (((x.getD i []).getD k f0).text)) rfl rfl) ?_
            refine AOps.read trivial rfl (by decide) (Reader.cat rfl rfl rfl (by have hj2 := joinAt_le2 (x := x) (i := i) (k := k) hi2 (by assumption); split at hj2 <;> (first | omega | (rw [List.length_append]; simp only [List.length_cons, List.length_nil]; omega))) (c := joinAt x i (k + 1)) (joinAt_neg (by assumption) (by assumption))) ?_
            refine AOps.read trivial rfl (by decide) (Reader.move (.inr rfl) (ok_const rfl) (v := .str (joinAt x i (k + 1))) rfl) ?_
            refine AOps.nil ?_
            refine AWp.region ?_
            refine AOps.read trivial rfl (by decide) (Reader.move (.inl rfl) (ok_const rfl) (v := .lit (.int .i64 (k : Int))) rfl) ?_
            refine AOps.read trivial rfl (by decide) (Reader.sum rfl rfl rfl (m := (k : Int) + 1) (c := ((k + 1 : Nat) : Int)) rfl (by first | exact IntWalk.i64_in _ (by omega) | exact IntWalk.i64_in _ (by constructor <;> omega) | (simp only [];omega))) ?_
            refine AOps.read trivial rfl (by decide) (Reader.move (.inr rfl) (ok_const rfl) (v := .lit (.int .i64 ((k + 1 : Nat) : Int))) rfl) ?_
            refine AOps.nil ?_
            exact ⟨_, by omega, k + 1, rfl, rfl, by omega, by omega⟩
        · skip
          have h2' : ¬ (k < ((x.getD i []).length)) := (by have hh := of_decide_eq_false h2; omega)
          clear h2
          refine AWp.exit ?_
          refine AWp.region ?_
          refine AOps.read trivial rfl (by decide) (Reader.move (.inl rfl) (ok_const rfl) (v := .str (joinAt x i k)) rfl) ?_
          refine AOps.read trivial rfl (by decide) (Reader.cat rfl rfl rfl (by have := joinAt_le (x := x) hi2 hk; simp; omega) (c := joinT (x.take (i + 1))) (joinAt_end hi2 hk (by assumption))) ?_
          refine AOps.read trivial rfl (by decide) (Reader.move (.inr rfl) (ok_const rfl) (v := .str (joinT (x.take (i + 1)))) rfl) ?_
          refine AOps.nil ?_
          refine AWp.region ?_
          refine AOps.read trivial rfl (by decide) (Reader.move (.inl rfl) (ok_const rfl) (v := .lit (.int .i64 (i : Int))) rfl) ?_
          refine AOps.read trivial rfl (by decide) (Reader.sum rfl rfl rfl (m := (i : Int) + 1) (c := ((i + 1 : Nat) : Int)) rfl (by first | exact IntWalk.i64_in _ (by omega) | exact IntWalk.i64_in _ (by constructor <;> omega) | (simp only [];omega))) ?_
          refine AOps.read trivial rfl (by decide) (Reader.move (.inr rfl) (ok_const rfl) (v := .lit (.int .i64 ((i + 1 : Nat) : Int))) rfl) ?_
          refine AOps.nil ?_
          exact ⟨_, by omega, i + 1, rfl, rfl, by omega⟩
    · skip
      have h1' : ¬ (i < x.length) := (by have hh := of_decide_eq_false h1; omega)
      clear h1
      refine AWp.exit ?_
      refine AWp.seq (AWp.region ?_)
      refine AOps.read trivial rfl (by decide) (Reader.move (.inl rfl) (ok_const rfl) (v := .str (joinT (x.take i))) rfl) ?_
      refine AOps.read trivial rfl (by decide) (Reader.move (.inr rfl) (ok_const rfl) (v := .str (joinT (x.take i))) rfl) ?_
      refine AOps.nil ?_
      refine AWp.ret ?_
      exact ⟨.inl rfl, _, ResOf.one 2 (.str (joinT (x.take i))) rfl rfl, ⟨congrArg AV.str (join_done (by assumption) (by assumption)), rfl⟩⟩

end Go.Proofs.YtkdpehhdbjkljaaDoor
