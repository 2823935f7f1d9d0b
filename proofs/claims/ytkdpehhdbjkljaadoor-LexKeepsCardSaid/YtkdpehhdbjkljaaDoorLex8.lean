/- Walks over abstract values, printed by my program av.py. -/
import Derived.Test.YtkdpehhdbjkljaaDoorLex7
import Derived.Test.YtkdpehhdbjkljaaDoorLexM2
namespace Go.Proofs.YtkdpehhdbjkljaaDoor
open Go.RowKit

theorem big_t {b : List UInt8} {n : Nat} (h : decide ((b.length : Int) > n) = true) : b.length > n := by have := of_decide_eq_true h; omega
theorem big_f {b : List UInt8} {n : Nat} (h : decide ((b.length : Int) > n) = false) : b.length ≤ n := by have := of_decide_eq_false h; omega
theorem joins_bad {l m : List (List Field)} {s : List UInt8} (hA : Again l m s) (h : (bif !((joinT l) == (joinT l)) then true else (bif errI s != 0 then true else (bif ((m.length : Nat) : Int) != ((l.length : Nat) : Int) then true else !((joinT m) == s)))) = true) : False := by
  rw [errI_0, hA.rd, hA.len, hA.join] at h
  simp at h
theorem joins_f {a b : List UInt8} {n i : Nat} (h1 : a = b) (h2 : n = i + 1) (h : (bif !(a == b) then true else ((n : Int) != ((i + 1 : Nat) : Int))) = true) : False := by
  subst h1; subst h2; simp at h

set_option maxRecDepth 20000 in
theorem LexJoins_any (b : List UInt8) (M : Nat → Option (List AV)) : ACall Tryd.prog 5 [.list false 5 (byteAVs b)] M (fun r M' => r = .lit (.bool true) ∧ M = M') := by
  have hla := (lex_lens b).1
  have hlm := (lex_lens (joinT (lexLines b))).1
  have hja := join_small b
  have hjm := join_small (joinT (lexLines b))
  refine ACall.of Tryd.func5 rfl (n := 110) rfl rfl rfl ?_
  refine AWp.seq (AWp.region ?_)
  refine AOps.read trivial rfl (by decide) (Reader.move (.inr rfl) (ok_const rfl) (v := .lit (.bool false)) rfl) ?_
  refine AOps.nil ?_
  refine AWp.seq ?_
  refine AWp.regionJ [16, 0, 2] [] (fun z => ⟨(16, .lit (.bool z)) :: [(0, .list false 5 (byteAVs b)), (2, .lit (.bool false))], [], M⟩) (z := decide ((b.length : Int) > 5000)) ?_ ?_
  · skip
    refine AOps.call (args := []) trivial rfl (by decide) rfl rfl Tryd.call14 (args_ok rfl) rfl (by intro j x v hx hv; match j, hx, hv with  | _ + 0, hx, hv => cases hx) (awake_any M) ?_
    rintro _ _ ⟨rfl, rfl⟩
    refine AOps.read trivial rfl (by decide) (Reader.not (b := true) rfl rfl) ?_
    refine AOps.read trivial rfl (by decide) (Reader.move (.inl rfl) (ok_const rfl) (v := .lit (.bool false)) rfl) ?_
    refine AOps.read ⟨12, rfl, rfl⟩ rfl (by decide) (Reader.move (.inl rfl) (ok_const rfl) (v := .list false 5 (byteAVs b)) rfl) ?_
    refine AOps.read ⟨12, rfl, rfl⟩ rfl (by decide) (Reader.len' (xs := byteAVs b) rfl rfl rfl rfl Tryd.underlying22 rfl (m := b.length) (byteAVs_len _)) ?_
    refine AOps.read ⟨12, rfl, rfl⟩ rfl (by decide) (Reader.int rfl rfl rfl (r := .bool (decide ((b.length : Int) > 5000))) rfl) ?_
    refine AOps.read trivial rfl (by decide) (Reader.pick rfl (b := false) rfl (ok_const rfl) (ok_const rfl) (v := .lit (.bool (decide ((b.length : Int) > 5000)))) rfl) ?_
    exact AOps.nil rfl
  refine AWp.cond (b := decide ((b.length : Int) > 5000)) rfl (fun h1 => ?_) (fun h1 => ?_)
  · skip
    have h1' : b.length > 5000 := (big_t h1)
    clear h1
    refine AWp.seq (AWp.region ?_)
    refine AOps.call (args := []) trivial rfl (by decide) rfl rfl Tryd.call14 (args_ok rfl) rfl (by intro j x v hx hv; match j, hx, hv with  | _ + 0, hx, hv => cases hx) (awake_any M) ?_
    rintro _ _ ⟨rfl, rfl⟩
    refine AOps.read trivial rfl (by decide) (Reader.move (.inr rfl) (ok_const rfl) (v := .lit (.bool true)) rfl) ?_
    refine AOps.nil ?_
    refine AWp.ret ?_
    exact ⟨.inl rfl, _, ResOf.one 2 (.lit (.bool true)) rfl rfl, ⟨rfl, rfl⟩⟩
  · skip
    have h1' : b.length ≤ 5000 := (big_f h1)
    clear h1
    refine AWp.skip ?_
    refine AWp.seq (AWp.region ?_)
    refine AOps.read trivial rfl (by decide) (Reader.move (.inl rfl) (ok_const rfl) (v := .list false 5 (byteAVs b)) rfl) ?_
    refine AOps.call (args := [.list false 5 (byteAVs b)]) trivial rfl (by decide) rfl rfl Tryd.call15 (args_ok rfl) rfl (by intro j x v hx hv; match j, hx, hv with | 0, hx, hv => cases hx; cases hv; exact .inl ⟨rfl, rfl⟩ | _ + 1, hx, hv => cases hx) (lines_any b (by first | assumption | omega | decide) M) ?_
    rintro _ _ ⟨rfl, rfl⟩
    refine AOps.read trivial rfl (by decide) (Reader.move (.inl rfl) (ok_const rfl) (v := .tuple [.list false 31 ((lexLines b).map encL), .lit (.int .i64 (errI b))]) rfl) ?_
    refine AOps.read trivial rfl (by decide) (Reader.extract (v := .list false 31 ((lexLines b).map encL)) rfl rfl rfl rfl) ?_
    refine AOps.read trivial rfl (by decide) (Reader.extract (v := .lit (.int .i64 (errI b))) rfl rfl rfl rfl) ?_
    refine AOps.read trivial rfl (by decide) (Reader.move (.inr rfl) (ok_const rfl) (v := .list false 31 ((lexLines b).map encL)) rfl) ?_
    refine AOps.read trivial rfl (by decide) (Reader.move (.inr rfl) (ok_const rfl) (v := .lit (.int .i64 (errI b))) rfl) ?_
    refine AOps.nil ?_
    refine AWp.seq ?_
    refine AWp.seq (AWp.region ?_)
    refine AOps.read trivial rfl (by decide) (Reader.move (.inl rfl) (ok_const rfl) (v := .lit (.int .i64 (errI b))) rfl) ?_
    refine AOps.read trivial rfl (by decide) (Reader.int rfl rfl rfl (r := .bool ((errI b) != 0)) rfl) ?_
    refine AOps.nil ?_
    refine AWp.cond (b := (errI b) != 0) rfl (fun h2 => ?_) (fun h2 => ?_)
    · skip
      have h2' : (errI b) ≠ 0 := (by have hh := bne_iff_ne.1 h2; omega)
      clear h2
      refine AWp.seq (AWp.region ?_)
      refine AOps.read trivial rfl (by decide) (Reader.move (.inr rfl) (ok_const rfl) (v := .lit (.bool true)) rfl) ?_
      refine AOps.nil ?_
      refine AWp.ret ?_
      exact ⟨.inl rfl, _, ResOf.one 2 (.lit (.bool true)) rfl rfl, ⟨rfl, rfl⟩⟩
    · skip
      have h2' : ¬ ((errI b) ≠ 0) := (by have hh := bne_eq_false_iff_eq.1 h2; omega)
      clear h2
      refine AWp.skip ?_
      refine AWp.seq (AWp.region ?_)
      refine AOps.read trivial rfl (by decide) (Reader.move (.inl rfl) (ok_const rfl) (v := .list false 31 ((lexLines b).map encL)) rfl) ?_
      refine AOps.call (args := [.list false 31 ((lexLines b).map encL)]) trivial rfl (by decide) rfl rfl Tryd.call19 (args_ok rfl) rfl (by intro j x v hx hv; match j, hx, hv with | 0, hx, hv => cases hx; cases hv; exact .inl ⟨rfl, rfl⟩ | _ + 1, hx, hv => cases hx) (join_any (lexLines b) (lex_small b) (lex_ne b) (by have := join_small b; omega) M) ?_
      rintro _ _ ⟨rfl, rfl⟩
      refine AOps.read trivial rfl (by decide) (Reader.move (.inr rfl) (ok_const rfl) (v := .str (joinT (lexLines b))) rfl) ?_
      refine AOps.nil ?_
      refine AWp.seq (AWp.region ?_)
      refine AOps.read trivial rfl (by decide) (Reader.move (.inl rfl) (ok_const rfl) (v := .str (joinT (lexLines b))) rfl) ?_
      refine AOps.toBytes (D := .bool) trivial rfl (by decide) rfl Tryd.underlying9 Tryd.underlying22 Tryd.underlying5 rfl (sizeOf_5) (by first | omega | (simp; omega)) ?_
      refine AOps.call (args := [.list false 5 (byteAVs (joinT (lexLines b)))]) trivial rfl (by decide) rfl rfl Tryd.call15 (args_ok rfl) rfl (by intro j x v hx hv; match j, hx, hv with | 0, hx, hv => cases hx; cases hv; exact .inl ⟨rfl, rfl⟩ | _ + 1, hx, hv => cases hx) (lines_any (joinT (lexLines b)) (by first | assumption | omega | decide) M) ?_
      rintro _ _ ⟨rfl, rfl⟩
      refine AOps.read trivial rfl (by decide) (Reader.move (.inl rfl) (ok_const rfl) (v := .tuple [.list false 31 ((lexLines (joinT (lexLines b))).map encL), .lit (.int .i64 (errI (joinT (lexLines b))))]) rfl) ?_
      refine AOps.read trivial rfl (by decide) (Reader.extract (v := .list false 31 ((lexLines (joinT (lexLines b))).map encL)) rfl rfl rfl rfl) ?_
      refine AOps.read trivial rfl (by decide) (Reader.extract (v := .lit (.int .i64 (errI (joinT (lexLines b))))) rfl rfl rfl rfl) ?_
      refine AOps.read trivial rfl (by decide) (Reader.move (.inr rfl) (ok_const rfl) (v := .list false 31 ((lexLines (joinT (lexLines b))).map encL)) rfl) ?_
      refine AOps.read trivial rfl (by decide) (Reader.move (.inr rfl) (ok_const rfl) (v := .lit (.int .i64 (errI (joinT (lexLines b))))) rfl) ?_
      refine AOps.nil ?_
      refine AWp.seq ?_
      refine AWp.regionJ [53, 16, 0, 2, 3, 4, 24, 5, 6, 7] [] (fun z => ⟨(53, .lit (.bool z)) :: [(16, .lit (.bool (decide ((b.length : Int) > 5000)))), (0, .list false 5 (byteAVs b)), (2, .lit (.bool false)), (3, .list false 31 ((lexLines b).map encL)), (4, .lit (.int .i64 (errI b))), (24, .lit (.bool ((errI b) != 0))), (5, .str (joinT (lexLines b))), (6, .list false 31 ((lexLines (joinT (lexLines b))).map encL)), (7, .lit (.int .i64 (errI (joinT (lexLines b)))))], [], M⟩) (z := bif (!((joinT (lexLines b)) == (joinT (lexLines b)))) then true else (bif ((errI (joinT (lexLines b))) != 0) then true else (bif ((((lexLines (joinT (lexLines b))).length : Nat) : Int) != (((lexLines b).length : Nat) : Int)) then true else (!((joinT (lexLines (joinT (lexLines b)))) == (joinT (lexLines b))))))) ?_ ?_
      · skip
        refine AOps.read trivial rfl (by decide) (Reader.move (.inl rfl) (ok_const rfl) (v := .str (joinT (lexLines b))) rfl) ?_
        refine AOps.read trivial rfl (by decide) (Reader.move (.inl rfl) (ok_const rfl) (v := .list false 31 ((lexLines b).map encL)) rfl) ?_
        refine AOps.call (args := [.list false 31 ((lexLines b).map encL)]) trivial rfl (by decide) rfl rfl Tryd.call20 (args_ok rfl) rfl (by intro j x v hx hv; match j, hx, hv with | 0, hx, hv => cases hx; cases hv; exact .inl ⟨rfl, rfl⟩ | _ + 1, hx, hv => cases hx) (rjoin_any (lexLines b) (lex_small b) (by have := join_small b; omega) M) ?_
        rintro _ _ ⟨rfl, rfl⟩
        refine AOps.read trivial rfl (by decide) (Reader.strs rfl rfl rfl (r := !((joinT (lexLines b)) == (joinT (lexLines b)))) rfl) ?_
        refine AOps.read trivial rfl (by decide) (Reader.move (.inl rfl) (ok_const rfl) (v := .lit (.bool (!((joinT (lexLines b)) == (joinT (lexLines b)))))) rfl) ?_
        refine AOps.splitJ (t := 37) (b := !((joinT (lexLines b)) == (joinT (lexLines b)))) (x := true) (y := (bif ((errI (joinT (lexLines b))) != 0) then true else (bif ((((lexLines (joinT (lexLines b))).length : Nat) : Int) != (((lexLines b).length : Nat) : Int)) then true else (!((joinT (lexLines (joinT (lexLines b)))) == (joinT (lexLines b))))))) rfl (fun h3 => ?_) (fun h3 => ?_)
        · skip
          have h3' : ¬ ((joinT (lexLines b)) = (joinT (lexLines b))) := (beq_eq_false_iff_ne.1 (bnot_t h3))
          clear h3
          refine AOps.skip ⟨4, false, 37, _, rfl, rfl, rfl, by simp⟩ rfl (by decide) ?_
          refine AOps.skip ⟨4, false, 37, _, rfl, rfl, rfl, by simp⟩ rfl (by decide) ?_
          refine AOps.read trivial rfl (by decide) (Reader.pick rfl (b := true) rfl (ok_const rfl) (ok_const rfl) (v := .lit (.bool true)) rfl) ?_
          refine AOps.read trivial rfl (by decide) (Reader.move (.inl rfl) (ok_const rfl) (v := .lit (.bool true)) rfl) ?_
          refine AOps.skip ⟨8, false, 41, _, rfl, rfl, rfl, by simp⟩ rfl (by decide) ?_
          refine AOps.skip ⟨8, false, 41, _, rfl, rfl, rfl, by simp⟩ rfl (by decide) ?_
          refine AOps.skip ⟨8, false, 41, _, rfl, rfl, rfl, by simp⟩ rfl (by decide) ?_
          refine AOps.skip ⟨8, false, 41, _, rfl, rfl, rfl, by simp⟩ rfl (by decide) ?_
          refine AOps.skip ⟨8, false, 41, _, rfl, rfl, rfl, by simp⟩ rfl (by decide) ?_
          refine AOps.read trivial rfl (by decide) (Reader.pick rfl (b := true) rfl (ok_const rfl) (ok_const rfl) (v := .lit (.bool true)) rfl) ?_
          refine AOps.read trivial rfl (by decide) (Reader.move (.inl rfl) (ok_const rfl) (v := .lit (.bool true)) rfl) ?_
          refine AOps.skip ⟨15, false, 48, _, rfl, rfl, rfl, by simp⟩ rfl (by decide) ?_
          refine AOps.skip ⟨15, false, 48, _, rfl, rfl, rfl, by simp⟩ rfl (by decide) ?_
          refine AOps.skip ⟨15, false, 48, _, rfl, rfl, rfl, by simp⟩ rfl (by decide) ?_
          refine AOps.skip ⟨15, false, 48, _, rfl, rfl, rfl, by simp⟩ rfl (by decide) ?_
          refine AOps.read trivial rfl (by decide) (Reader.pick rfl (b := true) rfl (ok_const rfl) (ok_const rfl) (v := .lit (.bool true)) rfl) ?_
          exact AOps.nil rfl
        · skip
          have h3' : (joinT (lexLines b)) = (joinT (lexLines b)) := (eq_of_beq (bnot_f h3))
          clear h3
          refine AOps.read ⟨37, rfl, rfl⟩ rfl (by decide) (Reader.move (.inl rfl) (ok_const rfl) (v := .lit (.int .i64 (errI (joinT (lexLines b))))) rfl) ?_
          refine AOps.read ⟨37, rfl, rfl⟩ rfl (by decide) (Reader.int rfl rfl rfl (r := .bool ((errI (joinT (lexLines b))) != 0)) rfl) ?_
          refine AOps.read trivial rfl (by decide) (Reader.pick rfl (b := false) rfl (ok_const rfl) (ok_const rfl) (v := .lit (.bool ((errI (joinT (lexLines b))) != 0))) rfl) ?_
          refine AOps.read trivial rfl (by decide) (Reader.move (.inl rfl) (ok_const rfl) (v := .lit (.bool ((errI (joinT (lexLines b))) != 0))) rfl) ?_
          refine AOps.splitJ (t := 41) (b := (errI (joinT (lexLines b))) != 0) (x := true) (y := (bif ((((lexLines (joinT (lexLines b))).length : Nat) : Int) != (((lexLines b).length : Nat) : Int)) then true else (!((joinT (lexLines (joinT (lexLines b)))) == (joinT (lexLines b)))))) rfl (fun h4 => ?_) (fun h4 => ?_)
          · skip
            have h4' : (errI (joinT (lexLines b))) ≠ 0 := (by have hh := bne_iff_ne.1 h4; omega)
            clear h4
            refine AOps.skip ⟨8, false, 41, _, rfl, rfl, rfl, by simp⟩ rfl (by decide) ?_
            refine AOps.skip ⟨8, false, 41, _, rfl, rfl, rfl, by simp⟩ rfl (by decide) ?_
            refine AOps.skip ⟨8, false, 41, _, rfl, rfl, rfl, by simp⟩ rfl (by decide) ?_
            refine AOps.skip ⟨8, false, 41, _, rfl, rfl, rfl, by simp⟩ rfl (by decide) ?_
            refine AOps.skip ⟨8, false, 41, _, rfl, rfl, rfl, by simp⟩ rfl (by decide) ?_
            refine AOps.read trivial rfl (by decide) (Reader.pick rfl (b := true) rfl (ok_const rfl) (ok_const rfl) (v := .lit (.bool true)) rfl) ?_
            refine AOps.read trivial rfl (by decide) (Reader.move (.inl rfl) (ok_const rfl) (v := .lit (.bool true)) rfl) ?_
            refine AOps.skip ⟨15, false, 48, _, rfl, rfl, rfl, by simp⟩ rfl (by decide) ?_
            refine AOps.skip ⟨15, false, 48, _, rfl, rfl, rfl, by simp⟩ rfl (by decide) ?_
            refine AOps.skip ⟨15, false, 48, _, rfl, rfl, rfl, by simp⟩ rfl (by decide) ?_
            refine AOps.skip ⟨15, false, 48, _, rfl, rfl, rfl, by simp⟩ rfl (by decide) ?_
            refine AOps.read trivial rfl (by decide) (Reader.pick rfl (b := true) rfl (ok_const rfl) (ok_const rfl) (v := .lit (.bool true)) rfl) ?_
            exact AOps.nil rfl
          · skip
            have h4' : ¬ ((errI (joinT (lexLines b))) ≠ 0) := (by have hh := bne_eq_false_iff_eq.1 h4; omega)
            clear h4
            refine AOps.read ⟨41, rfl, rfl⟩ rfl (by decide) (Reader.move (.inl rfl) (ok_const rfl) (v := .list false 31 ((lexLines (joinT (lexLines b))).map encL)) rfl) ?_
            refine AOps.read ⟨41, rfl, rfl⟩ rfl (by decide) (Reader.len' (xs := (lexLines (joinT (lexLines b))).map encL) rfl rfl rfl rfl Tryd.underlying24 rfl (m := (lexLines (joinT (lexLines b))).length) (by simp)) ?_
            refine AOps.read ⟨41, rfl, rfl⟩ rfl (by decide) (Reader.move (.inl rfl) (ok_const rfl) (v := .list false 31 ((lexLines b).map encL)) rfl) ?_
            refine AOps.read ⟨41, rfl, rfl⟩ rfl (by decide) (Reader.len' (xs := (lexLines b).map encL) rfl rfl rfl rfl Tryd.underlying24 rfl (m := (lexLines b).length) (by simp)) ?_
            refine AOps.read ⟨41, rfl, rfl⟩ rfl (by decide) (Reader.int rfl rfl rfl (r := .bool ((((lexLines (joinT (lexLines b))).length : Nat) : Int) != (((lexLines b).length : Nat) : Int))) rfl) ?_
            refine AOps.read trivial rfl (by decide) (Reader.pick rfl (b := false) rfl (ok_const rfl) (ok_const rfl) (v := .lit (.bool ((((lexLines (joinT (lexLines b))).length : Nat) : Int) != (((lexLines b).length : Nat) : Int)))) rfl) ?_
            refine AOps.read trivial rfl (by decide) (Reader.move (.inl rfl) (ok_const rfl) (v := .lit (.bool ((((lexLines (joinT (lexLines b))).length : Nat) : Int) != (((lexLines b).length : Nat) : Int)))) rfl) ?_
            refine AOps.splitJ (t := 48) (b := (((lexLines (joinT (lexLines b))).length : Nat) : Int) != (((lexLines b).length : Nat) : Int)) (x := true) (y := (!((joinT (lexLines (joinT (lexLines b)))) == (joinT (lexLines b))))) rfl (fun h5 => ?_) (fun h5 => ?_)
            · skip
              have h5' : ((lexLines (joinT (lexLines b))).length) ≠ ((lexLines b).length) := (by have hh := bne_iff_ne.1 h5; omega)
              clear h5
              refine AOps.skip ⟨15, false, 48, _, rfl, rfl, rfl, by simp⟩ rfl (by decide) ?_
              refine AOps.skip ⟨15, false, 48, _, rfl, rfl, rfl, by simp⟩ rfl (by decide) ?_
              refine AOps.skip ⟨15, false, 48, _, rfl, rfl, rfl, by simp⟩ rfl (by decide) ?_
              refine AOps.skip ⟨15, false, 48, _, rfl, rfl, rfl, by simp⟩ rfl (by decide) ?_
              refine AOps.read trivial rfl (by decide) (Reader.pick rfl (b := true) rfl (ok_const rfl) (ok_const rfl) (v := .lit (.bool true)) rfl) ?_
              exact AOps.nil rfl
            · skip
              have h5' : ¬ (((lexLines (joinT (lexLines b))).length) ≠ ((lexLines b).length)) := (by have hh := bne_eq_false_iff_eq.1 h5; omega)
              clear h5
              refine AOps.read ⟨48, rfl, rfl⟩ rfl (by decide) (Reader.move (.inl rfl) (ok_const rfl) (v := .list false 31 ((lexLines (joinT (lexLines b))).map encL)) rfl) ?_
              refine AOps.call (args := [.list false 31 ((lexLines (joinT (lexLines b))).map encL)]) ⟨48, rfl, rfl⟩ rfl (by decide) rfl rfl Tryd.call19 (args_ok rfl) rfl (by intro j x v hx hv; match j, hx, hv with | 0, hx, hv => cases hx; cases hv; exact .inl ⟨rfl, rfl⟩ | _ + 1, hx, hv => cases hx) (join_any (lexLines (joinT (lexLines b))) (lex_small (joinT (lexLines b))) (lex_ne (joinT (lexLines b))) (by have := join_small (joinT (lexLines b)); omega) M) ?_
              rintro _ _ ⟨rfl, rfl⟩
              refine AOps.read ⟨48, rfl, rfl⟩ rfl (by decide) (Reader.move (.inl rfl) (ok_const rfl) (v := .str (joinT (lexLines b))) rfl) ?_
              refine AOps.read ⟨48, rfl, rfl⟩ rfl (by decide) (Reader.strs rfl rfl rfl (r := !((joinT (lexLines (joinT (lexLines b)))) == (joinT (lexLines b)))) rfl) ?_
              refine AOps.read trivial rfl (by decide) (Reader.pick rfl (b := false) rfl (ok_const rfl) (ok_const rfl) (v := .lit (.bool (!((joinT (lexLines (joinT (lexLines b)))) == (joinT (lexLines b)))))) rfl) ?_
              exact AOps.nil rfl
      refine AWp.cond (b := bif (!((joinT (lexLines b)) == (joinT (lexLines b)))) then true else (bif ((errI (joinT (lexLines b))) != 0) then true else (bif ((((lexLines (joinT (lexLines b))).length : Nat) : Int) != (((lexLines b).length : Nat) : Int)) then true else (!((joinT (lexLines (joinT (lexLines b)))) == (joinT (lexLines b))))))) rfl (fun h6 => ?_) (fun h6 => ?_)
      · skip
        have h6' : False := (joins_bad (again b (by omega)) h6)
        clear h6
        refine AWp.seq (AWp.region ?_)
        refine AOps.read trivial rfl (by decide) (Reader.move (.inr rfl) (ok_const rfl) (v := .lit (.bool false)) rfl) ?_
        refine AOps.nil ?_
        refine AWp.ret ?_
        exact ⟨.inl rfl, _, ResOf.one 2 (.lit (.bool false)) rfl rfl, ⟨False.elim (by first | assumption | omega), rfl⟩⟩
      · skip
        have h6' : Again (lexLines b) (lexLines (joinT (lexLines b))) (joinT (lexLines b)) := (again b (by omega))
        clear h6
        refine AWp.skip ?_
        refine AWp.seq ?_
        refine AWp.seq (AWp.region ?_)
        refine AOps.read trivial rfl (by decide) (Reader.move (.inr rfl) (ok_const rfl) (v := .lit (.int .i64 0)) rfl) ?_
        refine AOps.nil ?_
        refine AWp.block ?_
        refine AWp.loopE [3, 6, 8] [] (fun m s => ∃ (i : Nat), m = (lexLines b).length - i ∧ s = ⟨[(3, .list false 31 ((lexLines b).map encL)), (6, .list false 31 ((lexLines (joinT (lexLines b))).map encL)), (8, .lit (.int .i64 (i : Int)))], [], M⟩ ∧ (i ≤ (lexLines b).length) ∧ (Again (lexLines b) (lexLines (joinT (lexLines b))) (joinT (lexLines b)))) ?_ ?_
        · exact ⟨_, 0, rfl, rfl, Nat.zero_le _, by assumption⟩
        · rintro _ _ ⟨i, rfl, rfl, hi, hA⟩
          have hAl := hA.len
          have hAi := hA.lens i
          refine AWp.seq ?_
          refine AWp.seq (AWp.region ?_)
          refine AOps.read trivial rfl (by decide) (Reader.move (.inl rfl) (ok_const rfl) (v := .lit (.int .i64 (i : Int))) rfl) ?_
          refine AOps.read trivial rfl (by decide) (Reader.move (.inl rfl) (ok_const rfl) (v := .list false 31 ((lexLines b).map encL)) rfl) ?_
          refine AOps.read trivial rfl (by decide) (Reader.len' (xs := (lexLines b).map encL) rfl rfl rfl rfl Tryd.underlying24 rfl (m := (lexLines b).length) (by simp)) ?_
          refine AOps.read trivial rfl (by decide) (Reader.int rfl rfl rfl (r := .bool (decide ((i : Int) < (((lexLines b).length : Nat) : Int)))) rfl) ?_
          refine AOps.nil ?_
          refine AWp.cond (b := decide ((i : Int) < (((lexLines b).length : Nat) : Int))) rfl (fun h7 => ?_) (fun h7 => ?_)
          · skip
            have h7' : i < ((lexLines b).length) := (by have hh := of_decide_eq_true h7; omega)
            clear h7
            refine AWp.skip ?_
            refine AWp.seq ?_
            refine AWp.block ?_
            refine AWp.seq ?_
            refine AWp.seq (AWp.drawnAll (by kernel_rfl) (by kernel_rfl) ?_)
            refine AOpsE.read trivial rfl (by decide) (Reader.move (.inl rfl) (ok_const rfl) (v := .list false 31 ((lexLines (joinT (lexLines b))).map encL)) rfl) ?_
            refine AOpsE.read trivial rfl (by decide) (Reader.move (.inl rfl) (ok_const rfl) (v := .lit (.int .i64 (i : Int))) rfl) ?_
            refine AOpsE.read trivial rfl (by decide) (Reader.elemAddr (m := i) rfl Tryd.underlying24 sizeOf_31 rfl rfl rfl (e := .list false 33 (((lexLines (joinT (lexLines b))).getD i []).map encF)) (getD_map (by first | assumption | omega))) ?_
            refine AOpsE.read trivial rfl (by decide) (Reader.loadE rfl Tryd.underlying31 sizeOf_31 rfl (v := .list false 33 (((lexLines (joinT (lexLines b))).getD i []).map encF)) rfl rfl) ?_
            refine AOpsE.read trivial rfl (by decide) (Reader.len' (xs := ((lexLines (joinT (lexLines b))).getD i []).map encF) rfl rfl rfl rfl Tryd.underlying31 rfl (m := ((lexLines (joinT (lexLines b))).getD i []).length) (by simp)) ?_
            refine AOpsE.read trivial rfl (by decide) (Reader.move (.inl rfl) (ok_const rfl) (v := .list false 31 ((lexLines b).map encL)) rfl) ?_
            refine AOpsE.read trivial rfl (by decide) (Reader.move (.inl rfl) (ok_const rfl) (v := .lit (.int .i64 (i : Int))) rfl) ?_
            refine AOpsE.read trivial rfl (by decide) (Reader.elemAddr (m := i) rfl Tryd.underlying24 sizeOf_31 rfl rfl rfl (e := .list false 33 (((lexLines b).getD i []).map encF)) (getD_map (by first | assumption | omega))) ?_
            refine AOpsE.read trivial rfl (by decide) (Reader.loadE rfl Tryd.underlying31 sizeOf_31 rfl (v := .list false 33 (((lexLines b).getD i []).map encF)) rfl rfl) ?_
            refine AOpsE.read trivial rfl (by decide) (Reader.len' (xs := ((lexLines b).getD i []).map encF) rfl rfl rfl rfl Tryd.underlying31 rfl (m := ((lexLines b).getD i []).length) (by simp)) ?_
            refine AOpsE.read trivial rfl (by decide) (Reader.int rfl rfl rfl (r := .bool (((((lexLines (joinT (lexLines b))).getD i []).length : Nat) : Int) != ((((lexLines b).getD i []).length : Nat) : Int))) rfl) ?_
            refine AOpsE.nil ?_
            refine AWp.cond (b := ((((lexLines (joinT (lexLines b))).getD i []).length : Nat) : Int) != ((((lexLines b).getD i []).length : Nat) : Int)) rfl (fun h8 => ?_) (fun h8 => ?_)
            · skip
              have h8' : (((lexLines (joinT (lexLines b))).getD i []).length) ≠ (((lexLines b).getD i []).length) := (by have hh := bne_iff_ne.1 h8; omega)
              clear h8
              refine AWp.seq (AWp.region ?_)
              refine AOps.read trivial rfl (by decide) (Reader.move (.inr rfl) (ok_const rfl) (v := .lit (.bool false)) rfl) ?_
              refine AOps.nil ?_
              refine AWp.ret ?_
              exact ⟨.inl rfl, _, ResOf.one 2 (.lit (.bool false)) rfl rfl, ⟨False.elim (by first | assumption | omega), rfl⟩⟩
            · skip
              have h8' : ¬ ((((lexLines (joinT (lexLines b))).getD i []).length) ≠ (((lexLines b).getD i []).length)) := (by have hh := bne_eq_false_iff_eq.1 h8; omega)
              clear h8
              refine AWp.skip ?_
              refine AWp.seq (AWp.region ?_)
              refine AOps.read trivial rfl (by decide) (Reader.move (.inr rfl) (ok_const rfl) (v := .lit (.int .i64 0)) rfl) ?_
              refine AOps.nil ?_
              refine AWp.block ?_
              refine AWp.loopE [3, 6, 8, 9] [] (fun m s => ∃ (k : Nat), m = ((lexLines b).getD i []).length - k ∧ s = ⟨[(3, .list false 31 ((lexLines b).map encL)), (6, .list false 31 ((lexLines (joinT (lexLines b))).map encL)), (8, .lit (.int .i64 (i : Int))), (9, .lit (.int .i64 (k : Int)))], [], M⟩ ∧ (k ≤ ((lexLines b).getD i []).length) ∧ (i < (lexLines b).length) ∧ (Again (lexLines b) (lexLines (joinT (lexLines b))) (joinT (lexLines b)))) ?_ ?_
              · exact ⟨_, 0, rfl, rfl, Nat.zero_le _, by omega, hA⟩
              · rintro _ _ ⟨k, rfl, rfl, hk, hi2, hA⟩
                have hAl := hA.len
                have hAi := hA.lens i
                have hfl := (lex_small b).2 i
                refine AWp.seq ?_
                refine AWp.seq (AWp.region ?_)
                refine AOps.read trivial rfl (by decide) (Reader.move (.inl rfl) (ok_const rfl) (v := .lit (.int .i64 (k : Int))) rfl) ?_
                refine AOps.read trivial rfl (by decide) (Reader.move (.inl rfl) (ok_const rfl) (v := .list false 31 ((lexLines b).map encL)) rfl) ?_
                refine AOps.read trivial rfl (by decide) (Reader.move (.inl rfl) (ok_const rfl) (v := .lit (.int .i64 (i : Int))) rfl) ?_
                refine AOps.read trivial rfl (by decide) (Reader.elemAddr (m := i) rfl Tryd.underlying24 sizeOf_31 rfl rfl rfl (e := .list false 33 (((lexLines b).getD i []).map encF)) (getD_map (by first | assumption | omega))) ?_
                refine AOps.read trivial rfl (by decide) (Reader.loadE rfl Tryd.underlying31 sizeOf_31 rfl (v := .list false 33 (((lexLines b).getD i []).map encF)) rfl rfl) ?_
                refine AOps.read trivial rfl (by decide) (Reader.len' (xs := ((lexLines b).getD i []).map encF) rfl rfl rfl rfl Tryd.underlying31 rfl (m := ((lexLines b).getD i []).length) (by simp)) ?_
                refine AOps.read trivial rfl (by decide) (Reader.int rfl rfl rfl (r := .bool (decide ((k : Int) < ((((lexLines b).getD i []).length : Nat) : Int)))) rfl) ?_
                refine AOps.nil ?_
                refine AWp.cond (b := decide ((k : Int) < ((((lexLines b).getD i []).length : Nat) : Int))) rfl (fun h9 => ?_) (fun h9 => ?_)
                · skip
                  have h9' : k < (((lexLines b).getD i []).length) := (by have hh := of_decide_eq_true h9; omega)
                  clear h9
                  refine AWp.skip ?_
                  refine AWp.seq ?_
                  refine AWp.block ?_
                  refine AWp.drawnJ [109, 3, 6, 8, 9, 77] [] (fun z => ⟨(109, .lit (.bool z)) :: [(3, .list false 31 ((lexLines b).map encL)), (6, .list false 31 ((lexLines (joinT (lexLines b))).map encL)), (8, .lit (.int .i64 (i : Int))), (9, .lit (.int .i64 (k : Int))), (77, .lit (.bool (decide ((k : Int) < ((((lexLines b).getD i []).length : Nat) : Int)))))], [], M⟩) (z := bif (!(((((lexLines (joinT (lexLines b))).getD i []).getD k f0).text) == ((((lexLines b).getD i []).getD k f0).text))) then true else ((((((lexLines (joinT (lexLines b))).getD i []).getD k f0).line : Nat) : Int) != ((i + 1 : Nat) : Int))) (by kernel_rfl) (by kernel_rfl) ?_ ?_
                  · skip
                    refine AOpsE.read trivial rfl (by decide) (Reader.move (.inl rfl) (ok_const rfl) (v := .list false 31 ((lexLines (joinT (lexLines b))).map encL)) rfl) ?_
                    refine AOpsE.read trivial rfl (by decide) (Reader.move (.inl rfl) (ok_const rfl) (v := .lit (.int .i64 (i : Int))) rfl) ?_
                    refine AOpsE.read trivial rfl (by decide) (Reader.elemAddr (m := i) rfl Tryd.underlying24 sizeOf_31 rfl rfl rfl (e := .list false 33 (((lexLines (joinT (lexLines b))).getD i []).map encF)) (getD_map (by first | assumption | omega))) ?_
                    refine AOpsE.read trivial rfl (by decide) (Reader.loadE rfl Tryd.underlying31 sizeOf_31 rfl (v := .list false 33 (((lexLines (joinT (lexLines b))).getD i []).map encF)) rfl rfl) ?_
                    refine AOpsE.read trivial rfl (by decide) (Reader.move (.inl rfl) (ok_const rfl) (v := .lit (.int .i64 (k : Int))) rfl) ?_
                    refine AOpsE.read trivial rfl (by decide) (Reader.elemAddr (m := k) rfl Tryd.underlying31 sizeOf_33 rfl rfl rfl (e := encF (((lexLines (joinT (lexLines b))).getD i []).getD k f0)) (getD_map (by first | assumption | omega))) ?_
                    refine AOpsE.read trivial rfl (by decide) (Reader.fieldE rfl ⟨_, _, Tryd.underlying33, rfl, rfl, rfl, sizeOf_9⟩ (by decide) rfl) ?_
                    refine AOpsE.read trivial rfl (by decide) (Reader.loadE rfl Tryd.underlying9 sizeOf_9 rfl (v := .str ((((lexLines (joinT (lexLines b))).getD i []).getD k f0).text)) rfl rfl) ?_
                    refine AOpsE.read trivial rfl (by decide) (Reader.move (.inl rfl) (ok_const rfl) (v := .list false 31 ((lexLines b).map encL)) rfl) ?_
                    refine AOpsE.read trivial rfl (by decide) (Reader.move (.inl rfl) (ok_const rfl) (v := .lit (.int .i64 (i : Int))) rfl) ?_
                    refine AOpsE.read trivial rfl (by decide) (Reader.elemAddr (m := i) rfl Tryd.underlying24 sizeOf_31 rfl rfl rfl (e := .list false 33 (((lexLines b).getD i []).map encF)) (getD_map (by first | assumption | omega))) ?_
                    refine AOpsE.read trivial rfl (by decide) (Reader.loadE rfl Tryd.underlying31 sizeOf_31 rfl (v := .list false 33 (((lexLines b).getD i []).map encF)) rfl rfl) ?_
                    refine AOpsE.read trivial rfl (by decide) (Reader.move (.inl rfl) (ok_const rfl) (v := .lit (.int .i64 (k : Int))) rfl) ?_
                    refine AOpsE.read trivial rfl (by decide) (Reader.elemAddr (m := k) rfl Tryd.underlying31 sizeOf_33 rfl rfl rfl (e := encF (((lexLines b).getD i []).getD k f0)) (getD_map (by first | assumption | omega))) ?_
                    refine AOpsE.read trivial rfl (by decide) (Reader.fieldE rfl ⟨_, _, Tryd.underlying33, rfl, rfl, rfl, sizeOf_9⟩ (by decide) rfl) ?_
                    refine AOpsE.read trivial rfl (by decide) (Reader.loadE rfl Tryd.underlying9 sizeOf_9 rfl (v := .str ((((lexLines b).getD i []).getD k f0).text)) rfl rfl) ?_
                    refine AOpsE.read trivial rfl (by decide) (Reader.strs rfl rfl rfl (r := !(((((lexLines (joinT (lexLines b))).getD i []).getD k f0).text) == ((((lexLines b).getD i []).getD k f0).text))) rfl) ?_
                    refine AOpsE.read trivial rfl (by decide) (Reader.move (.inl rfl) (ok_const rfl) (v := .lit (.bool (!(((((lexLines (joinT (lexLines b))).getD i []).getD k f0).text) == ((((lexLines b).getD i []).getD k f0).text))))) rfl) ?_
                    refine AOpsE.splitJ (t := 97) (b := !(((((lexLines (joinT (lexLines b))).getD i []).getD k f0).text) == ((((lexLines b).getD i []).getD k f0).text))) (x := true) (y := ((((((lexLines (joinT (lexLines b))).getD i []).getD k f0).line : Nat) : Int) != ((i + 1 : Nat) : Int))) rfl (fun h10 => ?_) (fun h10 => ?_)
                    · skip
                      have h10' : ¬ (((((lexLines (joinT (lexLines b))).getD i []).getD k f0).text) = ((((lexLines b).getD i []).getD k f0).text)) := (beq_eq_false_iff_ne.1 (bnot_t h10))
                      clear h10
                      refine AOpsE.skip ⟨17, false, 97, _, rfl, rfl, rfl, by simp⟩ rfl (by decide) ?_
                      refine AOpsE.skip ⟨17, false, 97, _, rfl, rfl, rfl, by simp⟩ rfl (by decide) ?_
                      refine AOpsE.skip ⟨17, false, 97, _, rfl, rfl, rfl, by simp⟩ rfl (by decide) ?_
                      refine AOpsE.skip ⟨17, false, 97, _, rfl, rfl, rfl, by simp⟩ rfl (by decide) ?_
                      refine AOpsE.skip ⟨17, false, 97, _, rfl, rfl, rfl, by simp⟩ rfl (by decide) ?_
                      refine AOpsE.skip ⟨17, false, 97, _, rfl, rfl, rfl, by simp⟩ rfl (by decide) ?_
                      refine AOpsE.skip ⟨17, false, 97, _, rfl, rfl, rfl, by simp⟩ rfl (by decide) ?_
                      refine AOpsE.skip ⟨17, false, 97, _, rfl, rfl, rfl, by simp⟩ rfl (by decide) ?_
                      refine AOpsE.skip ⟨17, false, 97, _, rfl, rfl, rfl, by simp⟩ rfl (by decide) ?_
                      refine AOpsE.skip ⟨17, false, 97, _, rfl, rfl, rfl, by simp⟩ rfl (by decide) ?_
                      refine AOpsE.skip ⟨17, false, 97, _, rfl, rfl, rfl, by simp⟩ rfl (by decide) ?_
                      refine AOpsE.read trivial rfl (by decide) (Reader.pick rfl (b := true) rfl (ok_const rfl) (ok_const rfl) (v := .lit (.bool true)) rfl) ?_
                      exact AOpsE.nil rfl
                    · skip
                      have h10' : ((((lexLines (joinT (lexLines b))).getD i []).getD k f0).text) = ((((lexLines b).getD i []).getD k f0).text) := (eq_of_beq (bnot_f h10))
                      clear h10
                      refine AOpsE.read ⟨97, rfl, rfl⟩ rfl (by decide) (Reader.move (.inl rfl) (ok_const rfl) (v := .list false 31 ((lexLines (joinT (lexLines b))).map encL)) rfl) ?_
                      refine AOpsE.read ⟨97, rfl, rfl⟩ rfl (by decide) (Reader.move (.inl rfl) (ok_const rfl) (v := .lit (.int .i64 (i : Int))) rfl) ?_
                      refine AOpsE.read ⟨97, rfl, rfl⟩ rfl (by decide) (Reader.elemAddr (m := i) rfl Tryd.underlying24 sizeOf_31 rfl rfl rfl (e := .list false 33 (((lexLines (joinT (lexLines b))).getD i []).map encF)) (getD_map (by first | assumption | omega))) ?_
                      refine AOpsE.read ⟨97, rfl, rfl⟩ rfl (by decide) (Reader.loadE rfl Tryd.underlying31 sizeOf_31 rfl (v := .list false 33 (((lexLines (joinT (lexLines b))).getD i []).map encF)) rfl rfl) ?_
                      refine AOpsE.read ⟨97, rfl, rfl⟩ rfl (by decide) (Reader.move (.inl rfl) (ok_const rfl) (v := .lit (.int .i64 (k : Int))) rfl) ?_
                      refine AOpsE.read ⟨97, rfl, rfl⟩ rfl (by decide) (Reader.elemAddr (m := k) rfl Tryd.underlying31 sizeOf_33 rfl rfl rfl (e := encF (((lexLines (joinT (lexLines b))).getD i []).getD k f0)) (getD_map (by first | assumption | omega))) ?_
                      refine AOpsE.read ⟨97, rfl, rfl⟩ rfl (by decide) (Reader.fieldE rfl ⟨_, _, Tryd.underlying33, rfl, rfl, rfl, sizeOf_3⟩ (by decide) rfl) ?_
                      refine AOpsE.read ⟨97, rfl, rfl⟩ rfl (by decide) (Reader.loadE rfl Tryd.underlying3 sizeOf_3 rfl (v := .lit (.int .i64 (((((lexLines (joinT (lexLines b))).getD i []).getD k f0).line : Nat) : Int))) rfl rfl) ?_
                      refine AOpsE.read ⟨97, rfl, rfl⟩ rfl (by decide) (Reader.move (.inl rfl) (ok_const rfl) (v := .lit (.int .i64 (i : Int))) rfl) ?_
                      refine AOpsE.read ⟨97, rfl, rfl⟩ rfl (by decide) (Reader.sum rfl rfl rfl (m := (i : Int) + 1) (c := ((i + 1 : Nat) : Int)) rfl (by first | exact IntWalk.i64_in _ (by omega) | exact IntWalk.i64_in _ (by constructor <;> omega) | (simp only [];omega))) ?_
                      refine AOpsE.read ⟨97, rfl, rfl⟩ rfl (by decide) (Reader.int rfl rfl rfl (r := .bool ((((((lexLines (joinT (lexLines b))).getD i []).getD k f0).line : Nat) : Int) != ((i + 1 : Nat) : Int))) rfl) ?_
                      refine AOpsE.read trivial rfl (by decide) (Reader.pick rfl (b := false) rfl (ok_const rfl) (ok_const rfl) (v := .lit (.bool ((((((lexLines (joinT (lexLines b))).getD i []).getD k f0).line : Nat) : Int) != ((i + 1 : Nat) : Int)))) rfl) ?_
                      exact AOpsE.nil rfl
                  refine AWp.cond (b := bif (!(((((lexLines (joinT (lexLines b))).getD i []).getD k f0).text) == ((((lexLines b).getD i []).getD k f0).text))) then true else ((((((lexLines (joinT (lexLines b))).getD i []).getD k f0).line : Nat) : Int) != ((i + 1 : Nat) : Int))) rfl (fun h11 => ?_) (fun h11 => ?_)
                  · skip
                    have h11' : False := (joins_f (hA.text i k) (hA.line i k (by omega) (by have := hA.lens i; omega)) h11)
                    clear h11
                    refine AWp.seq (AWp.region ?_)
                    refine AOps.read trivial rfl (by decide) (Reader.move (.inr rfl) (ok_const rfl) (v := .lit (.bool false)) rfl) ?_
                    refine AOps.nil ?_
                    refine AWp.ret ?_
                    exact ⟨.inl rfl, _, ResOf.one 2 (.lit (.bool false)) rfl rfl, ⟨False.elim (by first | assumption | omega), rfl⟩⟩
                  · skip
                    have h11' : True := trivial
                    clear h11
                    refine AWp.skip ?_
                    refine AWp.region ?_
                    refine AOps.read trivial rfl (by decide) (Reader.move (.inl rfl) (ok_const rfl) (v := .lit (.int .i64 (k : Int))) rfl) ?_
                    refine AOps.read trivial rfl (by decide) (Reader.sum rfl rfl rfl (m := (k : Int) + 1) (c := ((k + 1 : Nat) : Int)) rfl (by first | exact IntWalk.i64_in _ (by omega) | exact IntWalk.i64_in _ (by constructor <;> omega) | (simp only [];omega))) ?_
                    refine AOps.read trivial rfl (by decide) (Reader.move (.inr rfl) (ok_const rfl) (v := .lit (.int .i64 ((k + 1 : Nat) : Int))) rfl) ?_
                    refine AOps.nil ?_
                    exact ⟨_, by omega, k + 1, rfl, rfl, by omega, by omega, hA⟩
                · skip
                  have h9' : ¬ (k < (((lexLines b).getD i []).length)) := (by have hh := of_decide_eq_false h9; omega)
                  clear h9
                  refine AWp.exit ?_
                  refine AWp.region ?_
                  refine AOps.read trivial rfl (by decide) (Reader.move (.inl rfl) (ok_const rfl) (v := .lit (.int .i64 (i : Int))) rfl) ?_
                  refine AOps.read trivial rfl (by decide) (Reader.sum rfl rfl rfl (m := (i : Int) + 1) (c := ((i + 1 : Nat) : Int)) rfl (by first | exact IntWalk.i64_in _ (by omega) | exact IntWalk.i64_in _ (by constructor <;> omega) | (simp only [];omega))) ?_
                  refine AOps.read trivial rfl (by decide) (Reader.move (.inr rfl) (ok_const rfl) (v := .lit (.int .i64 ((i + 1 : Nat) : Int))) rfl) ?_
                  refine AOps.nil ?_
                  exact ⟨_, by omega, i + 1, rfl, rfl, by omega, hA⟩
          · skip
            have h7' : ¬ (i < ((lexLines b).length)) := (by have hh := of_decide_eq_false h7; omega)
            clear h7
            refine AWp.exit ?_
            refine AWp.seq (AWp.region ?_)
            refine AOps.read trivial rfl (by decide) (Reader.move (.inr rfl) (ok_const rfl) (v := .lit (.bool true)) rfl) ?_
            refine AOps.nil ?_
            refine AWp.ret ?_
            exact ⟨.inl rfl, _, ResOf.one 2 (.lit (.bool true)) rfl rfl, ⟨rfl, rfl⟩⟩

end Go.Proofs.YtkdpehhdbjkljaaDoor
