/- Walks over abstract values, printed by my program av.py. -/
import Derived.Test.YtlpihekflkjkfaaDoorLg9
import Derived.Test.YtlpihekflkjkfaaDoorLg7
namespace Go.Proofs.YtlpihekflkjkfaaDoor
open Go.RowKit

theorem lreads_ok (t : List UInt8) : (bif rdN t == rdN t then (bif (((rdE t).kind == (rdE t).kind) && (((rdE t).id == (rdE t).id) && (((rdE t).sig == (rdE t).sig) && (((rdE t).n == (rdE t).n) && true)))) then (bif (rdX t == 0) == decide (OkL t) then (bif decide (OkL t) then true else rdX t == 2) else false) else false) else false) = true := by
  by_cases hk : OkL t
  · rw [(rd_ok hk).1, (rd_ok hk).2.1, (rd_ok hk).2.2, decide_eq_true hk]; simp
  · rw [(rd_no hk).1, (rd_no hk).2.1, (rd_no hk).2.2, decide_eq_false hk]; simp

set_option maxRecDepth 20000 in
theorem LogReads_any (t : List UInt8) (M : Nat → Option (List AV)) : ACall Tryd.prog 6 [.str t] M (fun r M' => r = .lit (.bool true) ∧ M = M') := by
  refine ACall.of Tryd.func6 rfl (n := 50) rfl rfl rfl ?_
  refine AWp.seq (AWp.region ?_)
  refine AOps.read trivial rfl (by decide) (Reader.move (.inr rfl) (ok_const rfl) (v := .lit (.bool false)) rfl) ?_
  refine AOps.nil ?_
  refine AWp.seq ?_
  refine AWp.regionJ [15, 0, 2] [] (fun z => ⟨(15, .lit (.bool z)) :: [(0, .str t), (2, .lit (.bool false))], [], M⟩) (z := decide ((t.length : Int) > 200)) ?_ ?_
  · skip
    refine AOps.call (args := []) trivial rfl (by decide) rfl rfl Tryd.call21 (args_ok rfl) rfl (by intro j x v hx hv; match j, hx, hv with  | _ + 0, hx, hv => cases hx) (lawake_any M) ?_
    rintro _ _ ⟨rfl, rfl⟩
    refine AOps.read trivial rfl (by decide) (Reader.not (b := true) rfl rfl) ?_
    refine AOps.read trivial rfl (by decide) (Reader.move (.inl rfl) (ok_const rfl) (v := .lit (.bool false)) rfl) ?_
    refine AOps.read ⟨11, rfl, rfl⟩ rfl (by decide) (Reader.move (.inl rfl) (ok_const rfl) (v := .str t) rfl) ?_
    refine AOps.read ⟨11, rfl, rfl⟩ rfl (by decide) (Reader.lenStr' (l := t) rfl rfl rfl rfl Tryd.underlying9 rfl (m := t.length) (by first | rfl | simp)) ?_
    refine AOps.read ⟨11, rfl, rfl⟩ rfl (by decide) (Reader.int rfl rfl rfl (r := .bool (decide ((t.length : Int) > 200))) rfl) ?_
    refine AOps.read trivial rfl (by decide) (Reader.pick rfl (b := false) rfl (ok_const rfl) (ok_const rfl) (v := .lit (.bool (decide ((t.length : Int) > 200)))) rfl) ?_
    exact AOps.nil rfl
  refine AWp.cond (b := decide ((t.length : Int) > 200)) rfl (fun h1 => ?_) (fun h1 => ?_)
  · skip
    have h1' : (t.length : Int) > 200 := (of_decide_eq_true h1)
    clear h1
    refine AWp.seq (AWp.region ?_)
    refine AOps.call (args := []) trivial rfl (by decide) rfl rfl Tryd.call21 (args_ok rfl) rfl (by intro j x v hx hv; match j, hx, hv with  | _ + 0, hx, hv => cases hx) (lawake_any M) ?_
    rintro _ _ ⟨rfl, rfl⟩
    refine AOps.read trivial rfl (by decide) (Reader.move (.inr rfl) (ok_const rfl) (v := .lit (.bool true)) rfl) ?_
    refine AOps.nil ?_
    refine AWp.ret ?_
    exact ⟨.inl rfl, _, ResOf.one 2 (.lit (.bool true)) rfl rfl, ⟨rfl, rfl⟩⟩
  · skip
    have h1' : ¬ ((t.length : Int) > 200) := (of_decide_eq_false h1)
    clear h1
    refine AWp.skip ?_
    refine AWp.seq (AWp.region ?_)
    refine AOps.read trivial rfl (by decide) (Reader.move (.inl rfl) (ok_const rfl) (v := .str t) rfl) ?_
    refine AOps.call (args := [.str t]) trivial rfl (by decide) rfl rfl Tryd.call25 (args_ok rfl) rfl (by intro j x v hx hv; match j, hx, hv with | 0, hx, hv => cases hx; cases hv; exact .inl ⟨rfl, rfl⟩ | _ + 1, hx, hv => cases hx) (lread_any t (by first | omega | (simp only [List.length_append, List.length_cons, List.length_nil]; omega)) M) ?_
    rintro _ _ ⟨rfl, rfl⟩
    refine AOps.read trivial rfl (by decide) (Reader.move (.inl rfl) (ok_const rfl) (v := .tuple [.lit (.int .i64 (rdN t)), encE (rdE t), .lit (.int .i64 (rdX t))]) rfl) ?_
    refine AOps.read trivial rfl (by decide) (Reader.extract (v := .lit (.int .i64 (rdN t))) rfl rfl rfl rfl) ?_
    refine AOps.read trivial rfl (by decide) (Reader.extract (v := encE (rdE t)) rfl rfl rfl rfl) ?_
    refine AOps.read trivial rfl (by decide) (Reader.extract (v := .lit (.int .i64 (rdX t))) rfl rfl rfl rfl) ?_
    refine AOps.alloc (Es := []) trivial rfl (by decide) rfl (noL rfl) rfl zero_34 rfl (cells := [.lit (.int .i64 0), .str [], .lit (.int .i64 0), .lit (.int .i64 0)]) rfl (all_scalar rfl) (all_flat rfl) ?_
    refine AOps.read trivial rfl (by decide) (Reader.move (.inr rfl) (ok_const rfl) (v := .lit (.int .i64 (rdN t))) rfl) ?_
    refine AOps.storeL trivial rfl rfl rfl rfl sizeOf_34 (.inl ⟨rfl, rfl⟩) rfl (v := encE (rdE t)) rfl (all_flat rfl) rfl (Nat.le_of_ble_eq_true rfl) ?_
    refine AOps.read trivial rfl (by decide) (Reader.move (.inr rfl) (ok_const rfl) (v := .lit (.int .i64 (rdX t))) rfl) ?_
    refine AOps.nil ?_
    refine AWp.seq (AWp.region ?_)
    refine AOps.read trivial rfl (by decide) (Reader.move (.inl rfl) (ok_const rfl) (v := .str t) rfl) ?_
    refine AOps.call (args := [.str t]) trivial rfl (by decide) rfl rfl Tryd.call26 (args_ok rfl) rfl (by intro j x v hx hv; match j, hx, hv with | 0, hx, hv => cases hx; cases hv; exact .inl ⟨rfl, rfl⟩ | _ + 1, hx, hv => cases hx) (rread_any t (by omega) M) ?_
    rintro _ _ ⟨rfl, rfl⟩
    refine AOps.read trivial rfl (by decide) (Reader.move (.inl rfl) (ok_const rfl) (v := .tuple [.lit (.int .i64 (rdN t)), encE (rdE t), .lit (.bool (decide (OkL t)))]) rfl) ?_
    refine AOps.read trivial rfl (by decide) (Reader.extract (v := .lit (.int .i64 (rdN t))) rfl rfl rfl rfl) ?_
    refine AOps.read trivial rfl (by decide) (Reader.extract (v := encE (rdE t)) rfl rfl rfl rfl) ?_
    refine AOps.read trivial rfl (by decide) (Reader.extract (v := .lit (.bool (decide (OkL t)))) rfl rfl rfl rfl) ?_
    refine AOps.alloc (Es := []) trivial rfl (by decide) rfl (noL rfl) rfl zero_34 rfl (cells := [.lit (.int .i64 0), .str [], .lit (.int .i64 0), .lit (.int .i64 0)]) rfl (all_scalar rfl) (all_flat rfl) ?_
    refine AOps.read trivial rfl (by decide) (Reader.move (.inr rfl) (ok_const rfl) (v := .lit (.int .i64 (rdN t))) rfl) ?_
    refine AOps.storeL trivial rfl rfl rfl rfl sizeOf_34 (.inl ⟨rfl, rfl⟩) rfl (v := encE (rdE t)) rfl (all_flat rfl) rfl (Nat.le_of_ble_eq_true rfl) ?_
    refine AOps.read trivial rfl (by decide) (Reader.move (.inr rfl) (ok_const rfl) (v := .lit (.bool (decide (OkL t)))) rfl) ?_
    refine AOps.nil ?_
    refine AWp.regionJ [2, 15, 0, 4, 3, 5, 7, 6, 8] [4, 7] (fun z => ⟨(2, .lit (.bool z)) :: [(15, .lit (.bool (decide ((t.length : Int) > 200)))), (0, .str t), (4, .lptr 4 0), (3, .lit (.int .i64 (rdN t))), (5, .lit (.int .i64 (rdX t))), (7, .lptr 7 0), (6, .lit (.int .i64 (rdN t))), (8, .lit (.bool (decide (OkL t))))], [(4, [.lit (.int .i64 ((rdE t).kind)), .str ((rdE t).id), .lit (.int .i64 ((rdE t).sig)), .lit (.int .i64 ((rdE t).n))]), (7, [.lit (.int .i64 ((rdE t).kind)), .str ((rdE t).id), .lit (.int .i64 ((rdE t).sig)), .lit (.int .i64 ((rdE t).n))])], M⟩) (z := bif ((rdN t) == (rdN t)) then (bif ((((rdE t).kind) == ((rdE t).kind)) && ((((rdE t).id) == ((rdE t).id)) && ((((rdE t).sig) == ((rdE t).sig)) && ((((rdE t).n) == ((rdE t).n)) && true)))) then (bif (((rdX t) == 0) == (decide (OkL t))) then (bif (decide (OkL t)) then true else ((rdX t) == 2)) else false) else false) else false) ?_ ?_
    · skip
      refine AOps.read trivial rfl (by decide) (Reader.move (.inl rfl) (ok_const rfl) (v := .lit (.int .i64 (rdN t))) rfl) ?_
      refine AOps.read trivial rfl (by decide) (Reader.move (.inl rfl) (ok_const rfl) (v := .lit (.int .i64 (rdN t))) rfl) ?_
      refine AOps.read trivial rfl (by decide) (Reader.int rfl rfl rfl (r := .bool ((rdN t) == (rdN t))) rfl) ?_
      refine AOps.read trivial rfl (by decide) (Reader.move (.inl rfl) (ok_const rfl) (v := .lit (.bool ((rdN t) == (rdN t)))) rfl) ?_
      refine AOps.splitJ (t := 32) (b := (rdN t) == (rdN t)) (x := (bif ((((rdE t).kind) == ((rdE t).kind)) && ((((rdE t).id) == ((rdE t).id)) && ((((rdE t).sig) == ((rdE t).sig)) && ((((rdE t).n) == ((rdE t).n)) && true)))) then (bif (((rdX t) == 0) == (decide (OkL t))) then (bif (decide (OkL t)) then true else ((rdX t) == 2)) else false) else false)) (y := false) rfl (fun h2 => ?_) (fun h2 => ?_)
      · skip
        have h2' : (rdN t) = (rdN t) := (by have hh := eq_of_beq h2; omega)
        clear h2
        refine AOps.read ⟨32, rfl, rfl⟩ rfl (by decide) (Reader.loadL rfl Tryd.underlying34 sizeOf_34 rfl rfl (v := .agg [.lit (.int .i64 ((rdE t).kind)), .str ((rdE t).id), .lit (.int .i64 ((rdE t).sig)), .lit (.int .i64 ((rdE t).n))]) rfl rfl) ?_
        refine AOps.read ⟨32, rfl, rfl⟩ rfl (by decide) (Reader.loadL rfl Tryd.underlying34 sizeOf_34 rfl rfl (v := .agg [.lit (.int .i64 ((rdE t).kind)), .str ((rdE t).id), .lit (.int .i64 ((rdE t).sig)), .lit (.int .i64 ((rdE t).n))]) rfl rfl) ?_
        refine AOps.read ⟨32, rfl, rfl⟩ rfl (by decide) (Reader.eqAgg (us := [(.int .i64 ((rdE t).kind)), .string ⟨((rdE t).id).toArray⟩, (.int .i64 ((rdE t).sig)), (.int .i64 ((rdE t).n))]) (vs := [(.int .i64 ((rdE t).kind)), .string ⟨((rdE t).id).toArray⟩, (.int .i64 ((rdE t).sig)), (.int .i64 ((rdE t).n))]) (b := ((((rdE t).kind) == ((rdE t).kind)) && ((((rdE t).id) == ((rdE t).id)) && ((((rdE t).sig) == ((rdE t).sig)) && ((((rdE t).n) == ((rdE t).n)) && true))))) (r := ((((rdE t).kind) == ((rdE t).kind)) && ((((rdE t).id) == ((rdE t).id)) && ((((rdE t).sig) == ((rdE t).sig)) && ((((rdE t).n) == ((rdE t).n)) && true))))) 9 rfl rfl rfl ⟨_, rfl⟩ ⟨_, rfl⟩ Tryd.underlying34 rfl eqg_34 (by decide) rfl rfl (eqV_34 ((rdE t).kind) ((rdE t).kind) ((rdE t).id) ((rdE t).id) ((rdE t).sig) ((rdE t).sig) ((rdE t).n) ((rdE t).n)) (.inl ⟨rfl, rfl⟩)) ?_
        refine AOps.read trivial rfl (by decide) (Reader.pick rfl (b := true) rfl (ok_const rfl) (ok_const rfl) (v := .lit (.bool ((((rdE t).kind) == ((rdE t).kind)) && ((((rdE t).id) == ((rdE t).id)) && ((((rdE t).sig) == ((rdE t).sig)) && ((((rdE t).n) == ((rdE t).n)) && true)))))) rfl) ?_
        refine AOps.read trivial rfl (by decide) (Reader.move (.inl rfl) (ok_const rfl) (v := .lit (.bool ((((rdE t).kind) == ((rdE t).kind)) && ((((rdE t).id) == ((rdE t).id)) && ((((rdE t).sig) == ((rdE t).sig)) && ((((rdE t).n) == ((rdE t).n)) && true)))))) rfl) ?_
        refine AOps.splitJ (t := 37) (b := ((((rdE t).kind) == ((rdE t).kind)) && ((((rdE t).id) == ((rdE t).id)) && ((((rdE t).sig) == ((rdE t).sig)) && ((((rdE t).n) == ((rdE t).n)) && true))))) (x := (bif (((rdX t) == 0) == (decide (OkL t))) then (bif (decide (OkL t)) then true else ((rdX t) == 2)) else false)) (y := false) rfl (fun h3 => ?_) (fun h3 => ?_)
        · skip
          refine AOps.read ⟨37, rfl, rfl⟩ rfl (by decide) (Reader.move (.inl rfl) (ok_const rfl) (v := .lit (.int .i64 (rdX t))) rfl) ?_
          refine AOps.read ⟨37, rfl, rfl⟩ rfl (by decide) (Reader.int rfl rfl rfl (r := .bool ((rdX t) == 0)) rfl) ?_
          refine AOps.read ⟨37, rfl, rfl⟩ rfl (by decide) (Reader.move (.inl rfl) (ok_const rfl) (v := .lit (.bool (decide (OkL t)))) rfl) ?_
          refine AOps.read ⟨37, rfl, rfl⟩ rfl (by decide) (Reader.bools (r := ((rdX t) == 0) == (decide (OkL t))) rfl Tryd.underlying4 rfl rfl (.inl ⟨rfl, rfl⟩)) ?_
          refine AOps.read trivial rfl (by decide) (Reader.pick rfl (b := true) rfl (ok_const rfl) (ok_const rfl) (v := .lit (.bool (((rdX t) == 0) == (decide (OkL t))))) rfl) ?_
          refine AOps.read trivial rfl (by decide) (Reader.move (.inl rfl) (ok_const rfl) (v := .lit (.bool (((rdX t) == 0) == (decide (OkL t))))) rfl) ?_
          refine AOps.splitJ (t := 43) (b := ((rdX t) == 0) == (decide (OkL t))) (x := (bif (decide (OkL t)) then true else ((rdX t) == 2))) (y := false) rfl (fun h4 => ?_) (fun h4 => ?_)
          · skip
            refine AOps.read ⟨43, rfl, rfl⟩ rfl (by decide) (Reader.move (.inl rfl) (ok_const rfl) (v := .lit (.bool (decide (OkL t)))) rfl) ?_
            refine AOps.read ⟨43, rfl, rfl⟩ rfl (by decide) (Reader.move (.inl rfl) (ok_const rfl) (v := .lit (.bool (decide (OkL t)))) rfl) ?_
            refine AOps.splitJ (t := 45) (b := decide (OkL t)) (x := true) (y := ((rdX t) == 2)) rfl (fun h5 => ?_) (fun h5 => ?_)
            · skip
              refine AOps.skip ⟨16, false, 45, _, rfl, rfl, rfl, by simp⟩ rfl (by decide) ?_
              refine AOps.skip ⟨16, false, 45, _, rfl, rfl, rfl, by simp⟩ rfl (by decide) ?_
              refine AOps.read ⟨43, rfl, rfl⟩ rfl (by decide) (Reader.pick rfl (b := true) rfl (ok_const rfl) (ok_const rfl) (v := .lit (.bool true)) rfl) ?_
              refine AOps.read trivial rfl (by decide) (Reader.pick rfl (b := true) rfl (ok_const rfl) (ok_const rfl) (v := .lit (.bool true)) rfl) ?_
              refine AOps.read trivial rfl (by decide) (Reader.move (.inr rfl) (ok_const rfl) (v := .lit (.bool true)) rfl) ?_
              exact AOps.nil rfl
            · skip
              refine AOps.read ⟨45, rfl, rfl⟩ rfl (by decide) (Reader.move (.inl rfl) (ok_const rfl) (v := .lit (.int .i64 (rdX t))) rfl) ?_
              refine AOps.read ⟨45, rfl, rfl⟩ rfl (by decide) (Reader.int rfl rfl rfl (r := .bool ((rdX t) == 2)) rfl) ?_
              refine AOps.read ⟨43, rfl, rfl⟩ rfl (by decide) (Reader.pick rfl (b := false) rfl (ok_const rfl) (ok_const rfl) (v := .lit (.bool ((rdX t) == 2))) rfl) ?_
              refine AOps.read trivial rfl (by decide) (Reader.pick rfl (b := true) rfl (ok_const rfl) (ok_const rfl) (v := .lit (.bool ((rdX t) == 2))) rfl) ?_
              refine AOps.read trivial rfl (by decide) (Reader.move (.inr rfl) (ok_const rfl) (v := .lit (.bool ((rdX t) == 2))) rfl) ?_
              exact AOps.nil rfl
          · skip
            refine AOps.skip ⟨14, true, 43, _, rfl, rfl, rfl, by simp⟩ rfl (by decide) ?_
            refine AOps.skip ⟨14, true, 43, _, rfl, rfl, rfl, by simp⟩ rfl (by decide) ?_
            refine AOps.skip ⟨16, false, 45, _, rfl, rfl, rfl, by simp [undef]⟩ rfl (by decide) ?_
            refine AOps.skip ⟨16, false, 45, _, rfl, rfl, rfl, by simp [undef]⟩ rfl (by decide) ?_
            refine AOps.skip ⟨14, true, 43, _, rfl, rfl, rfl, by simp⟩ rfl (by decide) ?_
            refine AOps.read trivial rfl (by decide) (Reader.pick rfl (b := false) rfl (ok_const rfl) (ok_const rfl) (v := .lit (.bool false)) rfl) ?_
            refine AOps.read trivial rfl (by decide) (Reader.move (.inr rfl) (ok_const rfl) (v := .lit (.bool false)) rfl) ?_
            exact AOps.nil rfl
        · skip
          refine AOps.skip ⟨8, true, 37, _, rfl, rfl, rfl, by simp⟩ rfl (by decide) ?_
          refine AOps.skip ⟨8, true, 37, _, rfl, rfl, rfl, by simp⟩ rfl (by decide) ?_
          refine AOps.skip ⟨8, true, 37, _, rfl, rfl, rfl, by simp⟩ rfl (by decide) ?_
          refine AOps.skip ⟨8, true, 37, _, rfl, rfl, rfl, by simp⟩ rfl (by decide) ?_
          refine AOps.read trivial rfl (by decide) (Reader.pick rfl (b := false) rfl (ok_const rfl) (ok_const rfl) (v := .lit (.bool false)) rfl) ?_
          refine AOps.read trivial rfl (by decide) (Reader.move (.inl rfl) (ok_const rfl) (v := .lit (.bool false)) rfl) ?_
          refine AOps.skip ⟨14, true, 43, _, rfl, rfl, rfl, by simp⟩ rfl (by decide) ?_
          refine AOps.skip ⟨14, true, 43, _, rfl, rfl, rfl, by simp⟩ rfl (by decide) ?_
          refine AOps.skip ⟨16, false, 45, _, rfl, rfl, rfl, by simp [undef]⟩ rfl (by decide) ?_
          refine AOps.skip ⟨16, false, 45, _, rfl, rfl, rfl, by simp [undef]⟩ rfl (by decide) ?_
          refine AOps.skip ⟨14, true, 43, _, rfl, rfl, rfl, by simp⟩ rfl (by decide) ?_
          refine AOps.read trivial rfl (by decide) (Reader.pick rfl (b := false) rfl (ok_const rfl) (ok_const rfl) (v := .lit (.bool false)) rfl) ?_
          refine AOps.read trivial rfl (by decide) (Reader.move (.inr rfl) (ok_const rfl) (v := .lit (.bool false)) rfl) ?_
          exact AOps.nil rfl
      · skip
        have h2' : ¬ ((rdN t) = (rdN t)) := (by have hh := beq_eq_false_iff_ne.1 h2; omega)
        clear h2
        refine AOps.skip ⟨3, true, 32, _, rfl, rfl, rfl, by simp⟩ rfl (by decide) ?_
        refine AOps.skip ⟨3, true, 32, _, rfl, rfl, rfl, by simp⟩ rfl (by decide) ?_
        refine AOps.skip ⟨3, true, 32, _, rfl, rfl, rfl, by simp⟩ rfl (by decide) ?_
        refine AOps.read trivial rfl (by decide) (Reader.pick rfl (b := false) rfl (ok_const rfl) (ok_const rfl) (v := .lit (.bool false)) rfl) ?_
        refine AOps.read trivial rfl (by decide) (Reader.move (.inl rfl) (ok_const rfl) (v := .lit (.bool false)) rfl) ?_
        refine AOps.skip ⟨8, true, 37, _, rfl, rfl, rfl, by simp⟩ rfl (by decide) ?_
        refine AOps.skip ⟨8, true, 37, _, rfl, rfl, rfl, by simp⟩ rfl (by decide) ?_
        refine AOps.skip ⟨8, true, 37, _, rfl, rfl, rfl, by simp⟩ rfl (by decide) ?_
        refine AOps.skip ⟨8, true, 37, _, rfl, rfl, rfl, by simp⟩ rfl (by decide) ?_
        refine AOps.read trivial rfl (by decide) (Reader.pick rfl (b := false) rfl (ok_const rfl) (ok_const rfl) (v := .lit (.bool false)) rfl) ?_
        refine AOps.read trivial rfl (by decide) (Reader.move (.inl rfl) (ok_const rfl) (v := .lit (.bool false)) rfl) ?_
        refine AOps.skip ⟨14, true, 43, _, rfl, rfl, rfl, by simp⟩ rfl (by decide) ?_
        refine AOps.skip ⟨14, true, 43, _, rfl, rfl, rfl, by simp⟩ rfl (by decide) ?_
        refine AOps.skip ⟨16, false, 45, _, rfl, rfl, rfl, by simp [undef]⟩ rfl (by decide) ?_
        refine AOps.skip ⟨16, false, 45, _, rfl, rfl, rfl, by simp [undef]⟩ rfl (by decide) ?_
        refine AOps.skip ⟨14, true, 43, _, rfl, rfl, rfl, by simp⟩ rfl (by decide) ?_
        refine AOps.read trivial rfl (by decide) (Reader.pick rfl (b := false) rfl (ok_const rfl) (ok_const rfl) (v := .lit (.bool false)) rfl) ?_
        refine AOps.read trivial rfl (by decide) (Reader.move (.inr rfl) (ok_const rfl) (v := .lit (.bool false)) rfl) ?_
        exact AOps.nil rfl
    refine AWp.ret ?_
    exact ⟨.inl rfl, _, ResOf.one 2 (.lit (.bool (bif ((rdN t) == (rdN t)) then (bif ((((rdE t).kind) == ((rdE t).kind)) && ((((rdE t).id) == ((rdE t).id)) && ((((rdE t).sig) == ((rdE t).sig)) && ((((rdE t).n) == ((rdE t).n)) && true)))) then (bif (((rdX t) == 0) == (decide (OkL t))) then (bif (decide (OkL t)) then true else ((rdX t) == 2)) else false) else false) else false))) rfl rfl, ⟨congrArg (fun b => AV.lit (.bool b)) (lreads_ok t), rfl⟩⟩

end Go.Proofs.YtlpihekflkjkfaaDoor
