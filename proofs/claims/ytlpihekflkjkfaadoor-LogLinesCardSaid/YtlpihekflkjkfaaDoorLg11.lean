/- Walks over abstract values, printed by my program av.py. -/
import Derived.Test.YtlpihekflkjkfaaDoorLg9
import Derived.Test.YtlpihekflkjkfaaDoorLg6
namespace Go.Proofs.YtlpihekflkjkfaaDoor
open Go.RowKit

theorem llines_r {e : Ev} (h : (!(decide (RightE e) == decide (HasLine 0 e))) = true) : False := by
  have : decide (RightE e) = decide (HasLine 0 e) := by
    rw [Bool.eq_iff_iff, decide_eq_true_iff, decide_eq_true_iff]
    exact ⟨fun h => ⟨h, by omega, by omega⟩, fun h => h.1⟩
  rw [this] at h; simp at h
theorem llines_no {r : Int} {e : Ev} (h : ¬ HasLine r e) : (bif errE r e == 1 then textE r e == [] else false) = true := by rw [errE_no h, textE_no h]; rfl
theorem llines_ok {r : Int} {e : Ev} {x : List UInt8} (h : HasLine r e) (hx : HasLine r e → x = lineE r e) : (bif errE r e == 0 then textE r e == x else false) = true := by rw [errE_yes h, textE_yes h, hx h]; simp

set_option maxRecDepth 20000 in
theorem LogLines_any (r : Int) (e : Ev) (we : -9223372036854775808 ≤ e.n ∧ e.n ≤ 9223372036854775807) (M : Nat → Option (List AV)) : ACall Tryd.prog 5 [.lit (.int .i64 r), encE e] M (fun r M' => r = .lit (.bool true) ∧ M = M') := by
  refine ACall.of Tryd.func5 rfl (n := 56) rfl rfl rfl ?_
  refine AWp.seq (AWp.region ?_)
  refine AOps.box trivial rfl (by decide) rfl (noL rfl) rfl (v := encE e) (.inl ⟨rfl, rfl⟩) rfl rfl (all_flat rfl) ?_
  refine AOps.read trivial rfl (by decide) (Reader.move (.inr rfl) (ok_const rfl) (v := .lit (.bool false)) rfl) ?_
  refine AOps.nil ?_
  refine AWp.seq ?_
  refine AWp.regionJ [18, 0, 1, 3, 4] [3] (fun z => ⟨(18, .lit (.bool z)) :: [(0, .lit (.int .i64 r)), (1, encE e), (3, .lptr 3 0), (4, .lit (.bool false))], [(3, [.lit (.int .i64 e.kind), .str e.id, .lit (.int .i64 e.sig), .lit (.int .i64 e.n)])], M⟩) (z := decide ((e.id.length : Int) > 80)) ?_ ?_
  · skip
    refine AOps.call (args := []) trivial rfl (by decide) rfl rfl Tryd.call21 (args_ok rfl) rfl (by intro j x v hx hv; match j, hx, hv with  | _ + 0, hx, hv => cases hx) (lawake_any M) ?_
    rintro _ _ ⟨rfl, rfl⟩
    refine AOps.read trivial rfl (by decide) (Reader.not (b := true) rfl rfl) ?_
    refine AOps.read trivial rfl (by decide) (Reader.move (.inl rfl) (ok_const rfl) (v := .lit (.bool false)) rfl) ?_
    refine AOps.read ⟨13, rfl, rfl⟩ rfl (by decide) (Reader.fieldL rfl ⟨_, _, Tryd.underlying34, rfl, rfl, rfl, sizeOf_9⟩ (by decide) rfl) ?_
    refine AOps.read ⟨13, rfl, rfl⟩ rfl (by decide) (Reader.loadL rfl Tryd.underlying9 sizeOf_9 rfl rfl (v := .str e.id) rfl rfl) ?_
    refine AOps.read ⟨13, rfl, rfl⟩ rfl (by decide) (Reader.lenStr' (l := e.id) rfl rfl rfl rfl Tryd.underlying9 rfl (m := e.id.length) (by first | rfl | simp)) ?_
    refine AOps.read ⟨13, rfl, rfl⟩ rfl (by decide) (Reader.int rfl rfl rfl (r := .bool (decide ((e.id.length : Int) > 80))) rfl) ?_
    refine AOps.read trivial rfl (by decide) (Reader.pick rfl (b := false) rfl (ok_const rfl) (ok_const rfl) (v := .lit (.bool (decide ((e.id.length : Int) > 80)))) rfl) ?_
    exact AOps.nil rfl
  refine AWp.cond (b := decide ((e.id.length : Int) > 80)) rfl (fun h1 => ?_) (fun h1 => ?_)
  · skip
    have h1' : (e.id.length : Int) > 80 := (of_decide_eq_true h1)
    clear h1
    refine AWp.seq (AWp.region ?_)
    refine AOps.call (args := []) trivial rfl (by decide) rfl rfl Tryd.call21 (args_ok rfl) rfl (by intro j x v hx hv; match j, hx, hv with  | _ + 0, hx, hv => cases hx) (lawake_any M) ?_
    rintro _ _ ⟨rfl, rfl⟩
    refine AOps.read trivial rfl (by decide) (Reader.move (.inr rfl) (ok_const rfl) (v := .lit (.bool true)) rfl) ?_
    refine AOps.nil ?_
    refine AWp.ret ?_
    exact ⟨.inl rfl, _, ResOf.one 4 (.lit (.bool true)) rfl rfl, ⟨rfl, rfl⟩⟩
  · skip
    have h1' : ¬ ((e.id.length : Int) > 80) := (of_decide_eq_false h1)
    clear h1
    refine AWp.skip ?_
    refine AWp.seq (AWp.region ?_)
    refine AOps.read trivial rfl (by decide) (Reader.move (.inl rfl) (ok_const rfl) (v := .lit (.int .i64 r)) rfl) ?_
    refine AOps.read trivial rfl (by decide) (Reader.loadL rfl Tryd.underlying34 sizeOf_34 rfl rfl (v := .agg [.lit (.int .i64 e.kind), .str e.id, .lit (.int .i64 e.sig), .lit (.int .i64 e.n)]) rfl rfl) ?_
    refine AOps.call (args := [.lit (.int .i64 r), encE e]) trivial rfl (by decide) rfl rfl Tryd.call22 (args_ok rfl) rfl (by intro j x v hx hv; match j, hx, hv with | 0, hx, hv => cases hx; cases hv; exact .inl ⟨rfl, rfl⟩ | 1, hx, hv => cases hx; cases hv; exact .inl ⟨rfl, rfl⟩ | _ + 2, hx, hv => cases hx) (lline_any r e (by omega) we M) ?_
    rintro _ _ ⟨rfl, rfl⟩
    refine AOps.read trivial rfl (by decide) (Reader.move (.inl rfl) (ok_const rfl) (v := .tuple [.str (textE r e), .lit (.int .i64 (errE r e))]) rfl) ?_
    refine AOps.read trivial rfl (by decide) (Reader.extract (v := .str (textE r e)) rfl rfl rfl rfl) ?_
    refine AOps.read trivial rfl (by decide) (Reader.extract (v := .lit (.int .i64 (errE r e))) rfl rfl rfl rfl) ?_
    refine AOps.read trivial rfl (by decide) (Reader.move (.inr rfl) (ok_const rfl) (v := .str (textE r e)) rfl) ?_
    refine AOps.read trivial rfl (by decide) (Reader.move (.inr rfl) (ok_const rfl) (v := .lit (.int .i64 (errE r e))) rfl) ?_
    refine AOps.nil ?_
    refine AWp.seq (AWp.region ?_)
    refine AOps.read trivial rfl (by decide) (Reader.move (.inl rfl) (ok_const rfl) (v := .lit (.int .i64 r)) rfl) ?_
    refine AOps.read trivial rfl (by decide) (Reader.loadL rfl Tryd.underlying34 sizeOf_34 rfl rfl (v := .agg [.lit (.int .i64 e.kind), .str e.id, .lit (.int .i64 e.sig), .lit (.int .i64 e.n)]) rfl rfl) ?_
    refine AOps.call (args := [.lit (.int .i64 r), encE e]) trivial rfl (by decide) rfl rfl Tryd.call23 (args_ok rfl) rfl (by intro j x v hx hv; match j, hx, hv with | 0, hx, hv => cases hx; cases hv; exact .inl ⟨rfl, rfl⟩ | 1, hx, hv => cases hx; cases hv; exact .inl ⟨rfl, rfl⟩ | _ + 2, hx, hv => cases hx) (rline_any r e (by omega) we M) ?_
    rintro _ _ ⟨⟨x1, rfl, hx1⟩, rfl⟩
    refine AOps.read trivial rfl (by decide) (Reader.move (.inl rfl) (ok_const rfl) (v := .tuple [.str x1, .lit (.bool (decide (HasLine r e)))]) rfl) ?_
    refine AOps.read trivial rfl (by decide) (Reader.extract (v := .str x1) rfl rfl rfl rfl) ?_
    refine AOps.read trivial rfl (by decide) (Reader.extract (v := .lit (.bool (decide (HasLine r e)))) rfl rfl rfl rfl) ?_
    refine AOps.read trivial rfl (by decide) (Reader.move (.inr rfl) (ok_const rfl) (v := .str x1) rfl) ?_
    refine AOps.read trivial rfl (by decide) (Reader.move (.inr rfl) (ok_const rfl) (v := .lit (.bool (decide (HasLine r e)))) rfl) ?_
    refine AOps.nil ?_
    refine AWp.seq (AWp.region ?_)
    refine AOps.read trivial rfl (by decide) (Reader.loadL rfl Tryd.underlying34 sizeOf_34 rfl rfl (v := .agg [.lit (.int .i64 e.kind), .str e.id, .lit (.int .i64 e.sig), .lit (.int .i64 e.n)]) rfl rfl) ?_
    refine AOps.call (args := [.lit (.int .i64 0), encE e]) trivial rfl (by decide) rfl rfl Tryd.call23 (args_ok rfl) rfl (by intro j x v hx hv; match j, hx, hv with | 0, hx, hv => cases hx; cases hv; exact .inl ⟨rfl, rfl⟩ | 1, hx, hv => cases hx; cases hv; exact .inl ⟨rfl, rfl⟩ | _ + 2, hx, hv => cases hx) (rline_any 0 e (by omega) we M) ?_
    rintro _ _ ⟨⟨x2, rfl, hx2⟩, rfl⟩
    refine AOps.read trivial rfl (by decide) (Reader.move (.inl rfl) (ok_const rfl) (v := .tuple [.str x2, .lit (.bool (decide (HasLine 0 e)))]) rfl) ?_
    refine AOps.read trivial rfl (by decide) (Reader.extract (v := .str x2) rfl rfl rfl rfl) ?_
    refine AOps.read trivial rfl (by decide) (Reader.extract (v := .lit (.bool (decide (HasLine 0 e)))) rfl rfl rfl rfl) ?_
    refine AOps.read trivial rfl (by decide) (Reader.move (.inr rfl) (ok_const rfl) (v := .str x2) rfl) ?_
    refine AOps.read trivial rfl (by decide) (Reader.move (.inr rfl) (ok_const rfl) (v := .lit (.bool (decide (HasLine 0 e)))) rfl) ?_
    refine AOps.nil ?_
    refine AWp.seq ?_
    refine AWp.seq (AWp.region ?_)
    refine AOps.read trivial rfl (by decide) (Reader.loadL rfl Tryd.underlying34 sizeOf_34 rfl rfl (v := .agg [.lit (.int .i64 e.kind), .str e.id, .lit (.int .i64 e.sig), .lit (.int .i64 e.n)]) rfl rfl) ?_
    refine AOps.call (args := [encE e]) trivial rfl (by decide) rfl rfl Tryd.call24 (args_ok rfl) rfl (by intro j x v hx hv; match j, hx, hv with | 0, hx, hv => cases hx; cases hv; exact .inl ⟨rfl, rfl⟩ | _ + 1, hx, hv => cases hx) (lright_any e (by omega) we M) ?_
    rintro _ _ ⟨rfl, rfl⟩
    refine AOps.read trivial rfl (by decide) (Reader.move (.inl rfl) (ok_const rfl) (v := .lit (.bool (decide (HasLine 0 e)))) rfl) ?_
    refine AOps.read trivial rfl (by decide) (Reader.bools (r := !((decide (RightE e)) == (decide (HasLine 0 e)))) rfl Tryd.underlying4 rfl rfl (.inr ⟨rfl, rfl⟩)) ?_
    refine AOps.nil ?_
    refine AWp.cond (b := !((decide (RightE e)) == (decide (HasLine 0 e)))) rfl (fun h2 => ?_) (fun h2 => ?_)
    · skip
      refine AWp.seq (AWp.region ?_)
      refine AOps.read trivial rfl (by decide) (Reader.move (.inr rfl) (ok_const rfl) (v := .lit (.bool false)) rfl) ?_
      refine AOps.nil ?_
      refine AWp.ret ?_
      exact ⟨.inl rfl, _, ResOf.one 4 (.lit (.bool false)) rfl rfl, ⟨False.elim (llines_r (by assumption)), rfl⟩⟩
    · skip
      refine AWp.skip ?_
      refine AWp.seq ?_
      refine AWp.seq (AWp.region ?_)
      refine AOps.read trivial rfl (by decide) (Reader.move (.inl rfl) (ok_const rfl) (v := .lit (.bool (decide (HasLine r e)))) rfl) ?_
      refine AOps.read trivial rfl (by decide) (Reader.not (b := decide (HasLine r e)) rfl rfl) ?_
      refine AOps.nil ?_
      refine AWp.cond (b := !(decide (HasLine r e))) rfl (fun h3 => ?_) (fun h3 => ?_)
      · skip
        have h3' : ¬ HasLine r e := (of_decide_eq_false (bnot_t h3))
        clear h3
        refine AWp.regionJ [4, 18, 0, 1, 3, 5, 6, 7, 8, 10, 40, 42] [3] (fun z => ⟨(4, .lit (.bool z)) :: [(18, .lit (.bool (decide ((e.id.length : Int) > 80)))), (0, .lit (.int .i64 r)), (1, encE e), (3, .lptr 3 0), (5, .str (textE r e)), (6, .lit (.int .i64 (errE r e))), (7, .str x1), (8, .lit (.bool (decide (HasLine r e)))), (10, .lit (.bool (decide (HasLine 0 e)))), (40, .lit (.bool (!((decide (RightE e)) == (decide (HasLine 0 e)))))), (42, .lit (.bool (!(decide (HasLine r e)))))], [(3, [.lit (.int .i64 e.kind), .str e.id, .lit (.int .i64 e.sig), .lit (.int .i64 e.n)])], M⟩) (z := bif ((errE r e) == 1) then ((textE r e) == []) else false) ?_ ?_
        · skip
          refine AOps.read trivial rfl (by decide) (Reader.move (.inl rfl) (ok_const rfl) (v := .lit (.int .i64 (errE r e))) rfl) ?_
          refine AOps.read trivial rfl (by decide) (Reader.int rfl rfl rfl (r := .bool ((errE r e) == 1)) rfl) ?_
          refine AOps.read trivial rfl (by decide) (Reader.move (.inl rfl) (ok_const rfl) (v := .lit (.bool ((errE r e) == 1))) rfl) ?_
          refine AOps.splitJ (t := 45) (b := (errE r e) == 1) (x := ((textE r e) == [])) (y := false) rfl (fun h4 => ?_) (fun h4 => ?_)
          · skip
            have h4' : (errE r e) = 1 := (by have hh := eq_of_beq h4; omega)
            clear h4
            refine AOps.read ⟨45, rfl, rfl⟩ rfl (by decide) (Reader.move (.inl rfl) (ok_const rfl) (v := .str (textE r e)) rfl) ?_
            refine AOps.read ⟨45, rfl, rfl⟩ rfl (by decide) (Reader.strs rfl rfl rfl (r := (textE r e) == []) rfl) ?_
            refine AOps.read trivial rfl (by decide) (Reader.pick rfl (b := true) rfl (ok_const rfl) (ok_const rfl) (v := .lit (.bool ((textE r e) == []))) rfl) ?_
            refine AOps.read trivial rfl (by decide) (Reader.move (.inr rfl) (ok_const rfl) (v := .lit (.bool ((textE r e) == []))) rfl) ?_
            exact AOps.nil rfl
          · skip
            have h4' : ¬ ((errE r e) = 1) := (by have hh := beq_eq_false_iff_ne.1 h4; omega)
            clear h4
            refine AOps.skip ⟨2, true, 45, _, rfl, rfl, rfl, by simp⟩ rfl (by decide) ?_
            refine AOps.skip ⟨2, true, 45, _, rfl, rfl, rfl, by simp⟩ rfl (by decide) ?_
            refine AOps.read trivial rfl (by decide) (Reader.pick rfl (b := false) rfl (ok_const rfl) (ok_const rfl) (v := .lit (.bool false)) rfl) ?_
            refine AOps.read trivial rfl (by decide) (Reader.move (.inr rfl) (ok_const rfl) (v := .lit (.bool false)) rfl) ?_
            exact AOps.nil rfl
        refine AWp.ret ?_
        exact ⟨.inl rfl, _, ResOf.one 4 (.lit (.bool (bif ((errE r e) == 1) then ((textE r e) == []) else false))) rfl rfl, ⟨congrArg (fun b => AV.lit (.bool b)) (llines_no (by assumption)), rfl⟩⟩
      · skip
        have h3' : HasLine r e := (of_decide_eq_true (bnot_f h3))
        clear h3
        refine AWp.skip ?_
        refine AWp.regionJ [4, 18, 0, 1, 3, 5, 6, 7, 8, 10, 40, 42] [3] (fun z => ⟨(4, .lit (.bool z)) :: [(18, .lit (.bool (decide ((e.id.length : Int) > 80)))), (0, .lit (.int .i64 r)), (1, encE e), (3, .lptr 3 0), (5, .str (textE r e)), (6, .lit (.int .i64 (errE r e))), (7, .str x1), (8, .lit (.bool (decide (HasLine r e)))), (10, .lit (.bool (decide (HasLine 0 e)))), (40, .lit (.bool (!((decide (RightE e)) == (decide (HasLine 0 e)))))), (42, .lit (.bool (!(decide (HasLine r e)))))], [(3, [.lit (.int .i64 e.kind), .str e.id, .lit (.int .i64 e.sig), .lit (.int .i64 e.n)])], M⟩) (z := bif ((errE r e) == 0) then ((textE r e) == x1) else false) ?_ ?_
        · skip
          refine AOps.read trivial rfl (by decide) (Reader.move (.inl rfl) (ok_const rfl) (v := .lit (.int .i64 (errE r e))) rfl) ?_
          refine AOps.read trivial rfl (by decide) (Reader.int rfl rfl rfl (r := .bool ((errE r e) == 0)) rfl) ?_
          refine AOps.read trivial rfl (by decide) (Reader.move (.inl rfl) (ok_const rfl) (v := .lit (.bool ((errE r e) == 0))) rfl) ?_
          refine AOps.splitJ (t := 51) (b := (errE r e) == 0) (x := ((textE r e) == x1)) (y := false) rfl (fun h5 => ?_) (fun h5 => ?_)
          · skip
            have h5' : (errE r e) = 0 := (by have hh := eq_of_beq h5; omega)
            clear h5
            refine AOps.read ⟨51, rfl, rfl⟩ rfl (by decide) (Reader.move (.inl rfl) (ok_const rfl) (v := .str (textE r e)) rfl) ?_
            refine AOps.read ⟨51, rfl, rfl⟩ rfl (by decide) (Reader.move (.inl rfl) (ok_const rfl) (v := .str x1) rfl) ?_
            refine AOps.read ⟨51, rfl, rfl⟩ rfl (by decide) (Reader.strs rfl rfl rfl (r := (textE r e) == x1) rfl) ?_
            refine AOps.read trivial rfl (by decide) (Reader.pick rfl (b := true) rfl (ok_const rfl) (ok_const rfl) (v := .lit (.bool ((textE r e) == x1))) rfl) ?_
            refine AOps.read trivial rfl (by decide) (Reader.move (.inr rfl) (ok_const rfl) (v := .lit (.bool ((textE r e) == x1))) rfl) ?_
            exact AOps.nil rfl
          · skip
            have h5' : ¬ ((errE r e) = 0) := (by have hh := beq_eq_false_iff_ne.1 h5; omega)
            clear h5
            refine AOps.skip ⟨2, true, 51, _, rfl, rfl, rfl, by simp⟩ rfl (by decide) ?_
            refine AOps.skip ⟨2, true, 51, _, rfl, rfl, rfl, by simp⟩ rfl (by decide) ?_
            refine AOps.skip ⟨2, true, 51, _, rfl, rfl, rfl, by simp⟩ rfl (by decide) ?_
            refine AOps.read trivial rfl (by decide) (Reader.pick rfl (b := false) rfl (ok_const rfl) (ok_const rfl) (v := .lit (.bool false)) rfl) ?_
            refine AOps.read trivial rfl (by decide) (Reader.move (.inr rfl) (ok_const rfl) (v := .lit (.bool false)) rfl) ?_
            exact AOps.nil rfl
        refine AWp.ret ?_
        exact ⟨.inl rfl, _, ResOf.one 4 (.lit (.bool (bif ((errE r e) == 0) then ((textE r e) == x1) else false))) rfl rfl, ⟨congrArg (fun b => AV.lit (.bool b)) (llines_ok (by assumption) hx1), rfl⟩⟩

end Go.Proofs.YtlpihekflkjkfaaDoor
