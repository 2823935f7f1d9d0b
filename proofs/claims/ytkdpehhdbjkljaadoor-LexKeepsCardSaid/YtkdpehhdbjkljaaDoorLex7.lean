/- Walks over abstract values, printed by my program av.py. -/
import Derived.Test.YtkdpehhdbjkljaaDoorLex6
import Derived.Test.YtkdpehhdbjkljaaDoorLexM
namespace Go.Proofs.YtkdpehhdbjkljaaDoor
open Go.RowKit

theorem two_big {a b : List UInt8} (h : (bif decide ((a.length : Int) > 2000) then true else decide ((b.length : Int) > 2000)) = true) : a.length > 2000 ∨ b.length > 2000 := by
  by_cases h1 : (a.length : Int) > 2000
  · exact .inl (by omega)
  · simp [h1] at h; exact .inr (by omega)
theorem two_fit {a b : List UInt8} (h : (bif decide ((a.length : Int) > 2000) then true else decide ((b.length : Int) > 2000)) = false) : a.length ≤ 2000 ∧ b.length ≤ 2000 := by
  by_cases h1 : (a.length : Int) > 2000
  · simp [h1] at h
  · simp [h1] at h; exact ⟨by omega, by omega⟩
theorem errI_0 {a : List UInt8} : (errI a != 0) = !(readableB a) := by
  unfold errI; cases readableB a <;> rfl
theorem errI_e0 {a : List UInt8} : (errI a == 0) = readableB a := by
  unfold errI; cases readableB a <;> rfl
theorem errI_e2 {a : List UInt8} : (errI a == 2) = !(readableB a) := by
  unfold errI; cases readableB a <;> rfl
theorem two_err {a b : List UInt8} (h : (bif errI a != 0 then true else errI b != 0) = true) : readableB a = false ∨ readableB b = false := by
  rw [errI_0, errI_0] at h
  cases h1 : readableB a <;> cases h2 : readableB b <;> simp_all
theorem two_no {a b : List UInt8} (h : (bif errI a != 0 then true else errI b != 0) = false) : readableB a = true ∧ readableB b = true := by
  rw [errI_0, errI_0] at h
  cases h1 : readableB a <;> cases h2 : readableB b <;> simp_all
theorem two_bad {a b : List UInt8} (ha : a.length ≤ 2000) (hb : b.length ≤ 2000) (h : readableB a = false ∨ readableB b = false) : (errI (a ++ 10 :: b) == 2) = true := by
  rw [errI_e2, readable_app ha hb]
  rcases h with h | h <;> simp [h]
theorem two_ok {a b : List UInt8} (ha : a.length ≤ 2000) (hb : b.length ≤ 2000) (h : readableB a = true ∧ readableB b = true) :
    (bif errI (a ++ 10 :: b) == 0 then (bif ((((lexLines (a ++ 10 :: b)).length : Nat) : Int) == (((lexLines a).length + (lexLines b).length : Nat) : Int)) then (joinT (lexLines (a ++ 10 :: b)) == ((joinT (lexLines a)) ++ (joinT (lexLines b)))) else false) else false) = true := by
  rw [errI_e0, readable_app ha hb, h.1, h.2, two_len ha hb h.1 h.2, two_join ha hb h.1 h.2]
  simp

set_option maxRecDepth 20000 in
theorem LexTwo_any (a b : List UInt8) (M : Nat → Option (List AV)) : ACall Tryd.prog 6 [.list false 5 (byteAVs a), .list false 5 (byteAVs b)] M (fun r M' => r = .lit (.bool true) ∧ M = M') := by
  have hla := (lex_lens a).1
  have hlb := (lex_lens b).1
  have hja := join_small a
  have hjb := join_small b
  refine ACall.of Tryd.func6 rfl (n := 75) rfl rfl rfl ?_
  refine AWp.seq (AWp.region ?_)
  refine AOps.read trivial rfl (by decide) (Reader.move (.inr rfl) (ok_const rfl) (v := .lit (.bool false)) rfl) ?_
  refine AOps.nil ?_
  refine AWp.seq ?_
  refine AWp.regionJ [22, 0, 1, 4] [] (fun z => ⟨(22, .lit (.bool z)) :: [(0, .list false 5 (byteAVs a)), (1, .list false 5 (byteAVs b)), (4, .lit (.bool false))], [], M⟩) (z := bif (decide ((a.length : Int) > 2000)) then true else (decide ((b.length : Int) > 2000))) ?_ ?_
  · skip
    refine AOps.call (args := []) trivial rfl (by decide) rfl rfl Tryd.call14 (args_ok rfl) rfl (by intro j x v hx hv; match j, hx, hv with  | _ + 0, hx, hv => cases hx) (awake_any M) ?_
    rintro _ _ ⟨rfl, rfl⟩
    refine AOps.read trivial rfl (by decide) (Reader.not (b := true) rfl rfl) ?_
    refine AOps.read trivial rfl (by decide) (Reader.move (.inl rfl) (ok_const rfl) (v := .lit (.bool false)) rfl) ?_
    refine AOps.read ⟨13, rfl, rfl⟩ rfl (by decide) (Reader.move (.inl rfl) (ok_const rfl) (v := .list false 5 (byteAVs a)) rfl) ?_
    refine AOps.read ⟨13, rfl, rfl⟩ rfl (by decide) (Reader.len' (xs := byteAVs a) rfl rfl rfl rfl Tryd.underlying22 rfl (m := a.length) (byteAVs_len _)) ?_
    refine AOps.read ⟨13, rfl, rfl⟩ rfl (by decide) (Reader.int rfl rfl rfl (r := .bool (decide ((a.length : Int) > 2000))) rfl) ?_
    refine AOps.read trivial rfl (by decide) (Reader.pick rfl (b := false) rfl (ok_const rfl) (ok_const rfl) (v := .lit (.bool (decide ((a.length : Int) > 2000)))) rfl) ?_
    refine AOps.read trivial rfl (by decide) (Reader.move (.inl rfl) (ok_const rfl) (v := .lit (.bool (decide ((a.length : Int) > 2000)))) rfl) ?_
    refine AOps.splitJ (t := 18) (b := decide ((a.length : Int) > 2000)) (x := true) (y := (decide ((b.length : Int) > 2000))) rfl (fun h1 => ?_) (fun h1 => ?_)
    · skip
      have h1' : a.length > 2000 := (by have hh := of_decide_eq_true h1; omega)
      clear h1
      refine AOps.skip ⟨7, false, 18, _, rfl, rfl, rfl, by simp⟩ rfl (by decide) ?_
      refine AOps.skip ⟨7, false, 18, _, rfl, rfl, rfl, by simp⟩ rfl (by decide) ?_
      refine AOps.skip ⟨7, false, 18, _, rfl, rfl, rfl, by simp⟩ rfl (by decide) ?_
      refine AOps.read trivial rfl (by decide) (Reader.pick rfl (b := true) rfl (ok_const rfl) (ok_const rfl) (v := .lit (.bool true)) rfl) ?_
      exact AOps.nil rfl
    · skip
      have h1' : ¬ (a.length > 2000) := (by have hh := of_decide_eq_false h1; omega)
      clear h1
      refine AOps.read ⟨18, rfl, rfl⟩ rfl (by decide) (Reader.move (.inl rfl) (ok_const rfl) (v := .list false 5 (byteAVs b)) rfl) ?_
      refine AOps.read ⟨18, rfl, rfl⟩ rfl (by decide) (Reader.len' (xs := byteAVs b) rfl rfl rfl rfl Tryd.underlying22 rfl (m := b.length) (byteAVs_len _)) ?_
      refine AOps.read ⟨18, rfl, rfl⟩ rfl (by decide) (Reader.int rfl rfl rfl (r := .bool (decide ((b.length : Int) > 2000))) rfl) ?_
      refine AOps.read trivial rfl (by decide) (Reader.pick rfl (b := false) rfl (ok_const rfl) (ok_const rfl) (v := .lit (.bool (decide ((b.length : Int) > 2000)))) rfl) ?_
      exact AOps.nil rfl
  refine AWp.cond (b := bif (decide ((a.length : Int) > 2000)) then true else (decide ((b.length : Int) > 2000))) rfl (fun h2 => ?_) (fun h2 => ?_)
  · skip
    have h2' : a.length > 2000 ∨ b.length > 2000 := (two_big h2)
    clear h2
    refine AWp.seq (AWp.region ?_)
    refine AOps.call (args := []) trivial rfl (by decide) rfl rfl Tryd.call14 (args_ok rfl) rfl (by intro j x v hx hv; match j, hx, hv with  | _ + 0, hx, hv => cases hx) (awake_any M) ?_
    rintro _ _ ⟨rfl, rfl⟩
    refine AOps.read trivial rfl (by decide) (Reader.move (.inr rfl) (ok_const rfl) (v := .lit (.bool true)) rfl) ?_
    refine AOps.nil ?_
    refine AWp.ret ?_
    exact ⟨.inl rfl, _, ResOf.one 4 (.lit (.bool true)) rfl rfl, ⟨rfl, rfl⟩⟩
  · skip
    have h2' : a.length ≤ 2000 ∧ b.length ≤ 2000 := (two_fit h2)
    clear h2
    refine AWp.skip ?_
    refine AWp.seq (AWp.region ?_)
    refine AOps.read trivial rfl (by decide) (Reader.move (.inl rfl) (ok_const rfl) (v := .list false 5 (byteAVs a)) rfl) ?_
    refine AOps.call (args := [.list false 5 (byteAVs a)]) trivial rfl (by decide) rfl rfl Tryd.call15 (args_ok rfl) rfl (by intro j x v hx hv; match j, hx, hv with | 0, hx, hv => cases hx; cases hv; exact .inl ⟨rfl, rfl⟩ | _ + 1, hx, hv => cases hx) (lines_any a (by first | assumption | omega | decide | (simp only [List.length_append, List.length_cons, List.length_nil]; omega)) M) ?_
    rintro _ _ ⟨rfl, rfl⟩
    refine AOps.read trivial rfl (by decide) (Reader.move (.inl rfl) (ok_const rfl) (v := .tuple [.list false 31 ((lexLines a).map encL), .lit (.int .i64 (errI a))]) rfl) ?_
    refine AOps.read trivial rfl (by decide) (Reader.extract (v := .list false 31 ((lexLines a).map encL)) rfl rfl rfl rfl) ?_
    refine AOps.read trivial rfl (by decide) (Reader.extract (v := .lit (.int .i64 (errI a))) rfl rfl rfl rfl) ?_
    refine AOps.read trivial rfl (by decide) (Reader.move (.inr rfl) (ok_const rfl) (v := .list false 31 ((lexLines a).map encL)) rfl) ?_
    refine AOps.read trivial rfl (by decide) (Reader.move (.inr rfl) (ok_const rfl) (v := .lit (.int .i64 (errI a))) rfl) ?_
    refine AOps.nil ?_
    refine AWp.seq (AWp.region ?_)
    refine AOps.read trivial rfl (by decide) (Reader.move (.inl rfl) (ok_const rfl) (v := .list false 5 (byteAVs b)) rfl) ?_
    refine AOps.call (args := [.list false 5 (byteAVs b)]) trivial rfl (by decide) rfl rfl Tryd.call15 (args_ok rfl) rfl (by intro j x v hx hv; match j, hx, hv with | 0, hx, hv => cases hx; cases hv; exact .inl ⟨rfl, rfl⟩ | _ + 1, hx, hv => cases hx) (lines_any b (by first | assumption | omega | decide | (simp only [List.length_append, List.length_cons, List.length_nil]; omega)) M) ?_
    rintro _ _ ⟨rfl, rfl⟩
    refine AOps.read trivial rfl (by decide) (Reader.move (.inl rfl) (ok_const rfl) (v := .tuple [.list false 31 ((lexLines b).map encL), .lit (.int .i64 (errI b))]) rfl) ?_
    refine AOps.read trivial rfl (by decide) (Reader.extract (v := .list false 31 ((lexLines b).map encL)) rfl rfl rfl rfl) ?_
    refine AOps.read trivial rfl (by decide) (Reader.extract (v := .lit (.int .i64 (errI b))) rfl rfl rfl rfl) ?_
    refine AOps.read trivial rfl (by decide) (Reader.move (.inr rfl) (ok_const rfl) (v := .list false 31 ((lexLines b).map encL)) rfl) ?_
    refine AOps.read trivial rfl (by decide) (Reader.move (.inr rfl) (ok_const rfl) (v := .lit (.int .i64 (errI b))) rfl) ?_
    refine AOps.nil ?_
    refine AWp.seq (AWp.region ?_)
    refine AOps.buildEmpty trivial rfl (by decide) rfl rfl Tryd.underlying22 sizeOf_5 ?_
    refine AOps.read trivial rfl (by decide) (Reader.move (.inl rfl) (ok_const rfl) (v := .list false 5 (byteAVs a)) rfl) ?_
    refine AOps.appL (bytes := 1) trivial rfl (by decide) (by decide) rfl rfl rfl rfl Tryd.underlying22 Tryd.underlying22 Tryd.i5 rfl rfl rfl rfl (xs := []) (ys := (byteAVs a)) (zs := (byteAVs a)) rfl rfl (m1 := 0) (m2 := a.length) rfl (byteAVs_len _) (by first | omega | (unfold maxLen; omega)) (by omega) (by simp [byteAVs]) ?_
    refine AOps.buildSlice (ys := [(0, .lit (.int .u8 10))]) (Es := []) (cs := [.lit (.int .u8 10)]) (xs := (byteAVs [10])) trivial rfl (by decide) rfl Tryd.underlying22 Tryd.i5 rfl rfl rfl (by decide) (by refine ⟨rfl, fun j p x hp hx => ?_⟩; match j, hp, hx with | 0, hp, hx => cases hp; cases hx; exact ⟨rfl, .inl ⟨rfl, rfl⟩, rfl, rfl⟩ | _ + 1, hp, hx => cases hp) rfl rfl rfl (all_len rfl) (all_sc rfl) rfl ?_
    refine AOps.appL (bytes := 1) trivial rfl (by decide) (by decide) rfl rfl rfl rfl Tryd.underlying22 Tryd.underlying22 Tryd.i5 rfl rfl rfl rfl (xs := (byteAVs a)) (ys := (byteAVs [10])) (zs := (byteAVs (a ++ [10]))) rfl rfl (m1 := a.length) (m2 := 1) (by first | (simp only [byteAVs_len, List.length_append, List.length_cons, List.length_nil]; done) | (simp only [byteAVs_len, List.length_append, List.length_cons, List.length_nil]; omega) | (simp [byteAVs_len]; omega)) rfl (by first | omega | (unfold maxLen; omega)) (by omega) (by simp [byteAVs]) ?_
    refine AOps.read trivial rfl (by decide) (Reader.move (.inl rfl) (ok_const rfl) (v := .list false 5 (byteAVs b)) rfl) ?_
    refine AOps.appL (bytes := 1) trivial rfl (by decide) (by decide) rfl rfl rfl rfl Tryd.underlying22 Tryd.underlying22 Tryd.i5 rfl rfl rfl rfl (xs := (byteAVs (a ++ [10]))) (ys := (byteAVs b)) (zs := (byteAVs (a ++ 10 :: b))) rfl rfl (m1 := (a.length + 1)) (m2 := b.length) (by first | (simp only [byteAVs_len, List.length_append, List.length_cons, List.length_nil]; done) | (simp only [byteAVs_len, List.length_append, List.length_cons, List.length_nil]; omega) | (simp [byteAVs_len]; omega)) (byteAVs_len _) (by first | omega | (unfold maxLen; omega)) (by omega) (by simp [byteAVs]) ?_
    refine AOps.call (args := [.list false 5 (byteAVs (a ++ 10 :: b))]) trivial rfl (by decide) rfl rfl Tryd.call15 (args_ok rfl) rfl (by intro j x v hx hv; match j, hx, hv with | 0, hx, hv => cases hx; cases hv; exact .inl ⟨rfl, rfl⟩ | _ + 1, hx, hv => cases hx) (lines_any (a ++ 10 :: b) (by first | assumption | omega | decide | (simp only [List.length_append, List.length_cons, List.length_nil]; omega)) M) ?_
    rintro _ _ ⟨rfl, rfl⟩
    refine AOps.read trivial rfl (by decide) (Reader.move (.inl rfl) (ok_const rfl) (v := .tuple [.list false 31 ((lexLines (a ++ 10 :: b)).map encL), .lit (.int .i64 (errI (a ++ 10 :: b)))]) rfl) ?_
    refine AOps.read trivial rfl (by decide) (Reader.extract (v := .list false 31 ((lexLines (a ++ 10 :: b)).map encL)) rfl rfl rfl rfl) ?_
    refine AOps.read trivial rfl (by decide) (Reader.extract (v := .lit (.int .i64 (errI (a ++ 10 :: b)))) rfl rfl rfl rfl) ?_
    refine AOps.read trivial rfl (by decide) (Reader.move (.inr rfl) (ok_const rfl) (v := .list false 31 ((lexLines (a ++ 10 :: b)).map encL)) rfl) ?_
    refine AOps.read trivial rfl (by decide) (Reader.move (.inr rfl) (ok_const rfl) (v := .lit (.int .i64 (errI (a ++ 10 :: b)))) rfl) ?_
    refine AOps.nil ?_
    refine AWp.seq ?_
    refine AWp.regionJ [50, 22, 0, 1, 4, 5, 6, 7, 8, 9, 10] [] (fun z => ⟨(50, .lit (.bool z)) :: [(22, .lit (.bool (bif (decide ((a.length : Int) > 2000)) then true else (decide ((b.length : Int) > 2000))))), (0, .list false 5 (byteAVs a)), (1, .list false 5 (byteAVs b)), (4, .lit (.bool false)), (5, .list false 31 ((lexLines a).map encL)), (6, .lit (.int .i64 (errI a))), (7, .list false 31 ((lexLines b).map encL)), (8, .lit (.int .i64 (errI b))), (9, .list false 31 ((lexLines (a ++ 10 :: b)).map encL)), (10, .lit (.int .i64 (errI (a ++ 10 :: b))))], [], M⟩) (z := bif ((errI a) != 0) then true else ((errI b) != 0)) ?_ ?_
    · skip
      refine AOps.read trivial rfl (by decide) (Reader.move (.inl rfl) (ok_const rfl) (v := .lit (.int .i64 (errI a))) rfl) ?_
      refine AOps.read trivial rfl (by decide) (Reader.int rfl rfl rfl (r := .bool ((errI a) != 0)) rfl) ?_
      refine AOps.read trivial rfl (by decide) (Reader.move (.inl rfl) (ok_const rfl) (v := .lit (.bool ((errI a) != 0))) rfl) ?_
      refine AOps.splitJ (t := 47) (b := (errI a) != 0) (x := true) (y := ((errI b) != 0)) rfl (fun h3 => ?_) (fun h3 => ?_)
      · skip
        have h3' : (errI a) ≠ 0 := (by have hh := bne_iff_ne.1 h3; omega)
        clear h3
        refine AOps.skip ⟨2, false, 47, _, rfl, rfl, rfl, by simp⟩ rfl (by decide) ?_
        refine AOps.skip ⟨2, false, 47, _, rfl, rfl, rfl, by simp⟩ rfl (by decide) ?_
        refine AOps.read trivial rfl (by decide) (Reader.pick rfl (b := true) rfl (ok_const rfl) (ok_const rfl) (v := .lit (.bool true)) rfl) ?_
        exact AOps.nil rfl
      · skip
        have h3' : ¬ ((errI a) ≠ 0) := (by have hh := bne_eq_false_iff_eq.1 h3; omega)
        clear h3
        refine AOps.read ⟨47, rfl, rfl⟩ rfl (by decide) (Reader.move (.inl rfl) (ok_const rfl) (v := .lit (.int .i64 (errI b))) rfl) ?_
        refine AOps.read ⟨47, rfl, rfl⟩ rfl (by decide) (Reader.int rfl rfl rfl (r := .bool ((errI b) != 0)) rfl) ?_
        refine AOps.read trivial rfl (by decide) (Reader.pick rfl (b := false) rfl (ok_const rfl) (ok_const rfl) (v := .lit (.bool ((errI b) != 0))) rfl) ?_
        exact AOps.nil rfl
    refine AWp.cond (b := bif ((errI a) != 0) then true else ((errI b) != 0)) rfl (fun h4 => ?_) (fun h4 => ?_)
    · skip
      have h4' : readableB a = false ∨ readableB b = false := (two_err h4)
      clear h4
      refine AWp.seq (AWp.region ?_)
      refine AOps.read trivial rfl (by decide) (Reader.move (.inl rfl) (ok_const rfl) (v := .lit (.int .i64 (errI (a ++ 10 :: b)))) rfl) ?_
      refine AOps.read trivial rfl (by decide) (Reader.int rfl rfl rfl (r := .bool ((errI (a ++ 10 :: b)) == 2)) rfl) ?_
      refine AOps.read trivial rfl (by decide) (Reader.move (.inr rfl) (ok_const rfl) (v := .lit (.bool ((errI (a ++ 10 :: b)) == 2))) rfl) ?_
      refine AOps.nil ?_
      refine AWp.ret ?_
      exact ⟨.inl rfl, _, ResOf.one 4 (.lit (.bool ((errI (a ++ 10 :: b)) == 2))) rfl rfl, ⟨congrArg (fun b => AV.lit (.bool b)) (two_bad (by omega) (by omega) (by assumption)), rfl⟩⟩
    · skip
      have h4' : readableB a = true ∧ readableB b = true := (two_no h4)
      clear h4
      refine AWp.skip ?_
      refine AWp.regionJ [4, 50, 22, 0, 1, 5, 6, 7, 8, 9, 10] [] (fun z => ⟨(4, .lit (.bool z)) :: [(50, .lit (.bool (bif ((errI a) != 0) then true else ((errI b) != 0)))), (22, .lit (.bool (bif (decide ((a.length : Int) > 2000)) then true else (decide ((b.length : Int) > 2000))))), (0, .list false 5 (byteAVs a)), (1, .list false 5 (byteAVs b)), (5, .list false 31 ((lexLines a).map encL)), (6, .lit (.int .i64 (errI a))), (7, .list false 31 ((lexLines b).map encL)), (8, .lit (.int .i64 (errI b))), (9, .list false 31 ((lexLines (a ++ 10 :: b)).map encL)), (10, .lit (.int .i64 (errI (a ++ 10 :: b))))], [], M⟩) (z := bif ((errI (a ++ 10 :: b)) == 0) then (bif ((((lexLines (a ++ 10 :: b)).length : Nat) : Int) == ((((lexLines a).length) + ((lexLines b).length) : Nat) : Int)) then ((joinT (lexLines (a ++ 10 :: b))) == ((joinT (lexLines a)) ++ (joinT (lexLines b)))) else false) else false) ?_ ?_
      · skip
        refine AOps.read trivial rfl (by decide) (Reader.move (.inl rfl) (ok_const rfl) (v := .lit (.int .i64 (errI (a ++ 10 :: b)))) rfl) ?_
        refine AOps.read trivial rfl (by decide) (Reader.int rfl rfl rfl (r := .bool ((errI (a ++ 10 :: b)) == 0)) rfl) ?_
        refine AOps.read trivial rfl (by decide) (Reader.move (.inl rfl) (ok_const rfl) (v := .lit (.bool ((errI (a ++ 10 :: b)) == 0))) rfl) ?_
        refine AOps.splitJ (t := 55) (b := (errI (a ++ 10 :: b)) == 0) (x := (bif ((((lexLines (a ++ 10 :: b)).length : Nat) : Int) == ((((lexLines a).length) + ((lexLines b).length) : Nat) : Int)) then ((joinT (lexLines (a ++ 10 :: b))) == ((joinT (lexLines a)) ++ (joinT (lexLines b)))) else false)) (y := false) rfl (fun h5 => ?_) (fun h5 => ?_)
        · skip
          have h5' : (errI (a ++ 10 :: b)) = 0 := (by have hh := eq_of_beq h5; omega)
          clear h5
          refine AOps.read ⟨55, rfl, rfl⟩ rfl (by decide) (Reader.move (.inl rfl) (ok_const rfl) (v := .list false 31 ((lexLines (a ++ 10 :: b)).map encL)) rfl) ?_
          refine AOps.read ⟨55, rfl, rfl⟩ rfl (by decide) (Reader.len' (xs := (lexLines (a ++ 10 :: b)).map encL) rfl rfl rfl rfl Tryd.underlying24 rfl (m := (lexLines (a ++ 10 :: b)).length) (by simp)) ?_
          refine AOps.read ⟨55, rfl, rfl⟩ rfl (by decide) (Reader.move (.inl rfl) (ok_const rfl) (v := .list false 31 ((lexLines a).map encL)) rfl) ?_
          refine AOps.read ⟨55, rfl, rfl⟩ rfl (by decide) (Reader.len' (xs := (lexLines a).map encL) rfl rfl rfl rfl Tryd.underlying24 rfl (m := (lexLines a).length) (by simp)) ?_
          refine AOps.read ⟨55, rfl, rfl⟩ rfl (by decide) (Reader.move (.inl rfl) (ok_const rfl) (v := .list false 31 ((lexLines b).map encL)) rfl) ?_
          refine AOps.read ⟨55, rfl, rfl⟩ rfl (by decide) (Reader.len' (xs := (lexLines b).map encL) rfl rfl rfl rfl Tryd.underlying24 rfl (m := (lexLines b).length) (by simp)) ?_
          refine AOps.read ⟨55, rfl, rfl⟩ rfl (by decide) (Reader.sum rfl rfl rfl (m := (((lexLines a).length : Nat) : Int) + (((lexLines b).length : Nat) : Int)) (c := ((((lexLines a).length) + ((lexLines b).length) : Nat) : Int)) rfl (by first | exact IntWalk.i64_in _ (by omega) | exact IntWalk.i64_in _ (by constructor <;> omega) | (simp only [];omega))) ?_
          refine AOps.read ⟨55, rfl, rfl⟩ rfl (by decide) (Reader.int rfl rfl rfl (r := .bool ((((lexLines (a ++ 10 :: b)).length : Nat) : Int) == ((((lexLines a).length) + ((lexLines b).length) : Nat) : Int))) rfl) ?_
          refine AOps.read trivial rfl (by decide) (Reader.pick rfl (b := true) rfl (ok_const rfl) (ok_const rfl) (v := .lit (.bool ((((lexLines (a ++ 10 :: b)).length : Nat) : Int) == ((((lexLines a).length) + ((lexLines b).length) : Nat) : Int)))) rfl) ?_
          refine AOps.read trivial rfl (by decide) (Reader.move (.inl rfl) (ok_const rfl) (v := .lit (.bool ((((lexLines (a ++ 10 :: b)).length : Nat) : Int) == ((((lexLines a).length) + ((lexLines b).length) : Nat) : Int)))) rfl) ?_
          refine AOps.splitJ (t := 65) (b := (((lexLines (a ++ 10 :: b)).length : Nat) : Int) == ((((lexLines a).length) + ((lexLines b).length) : Nat) : Int)) (x := ((joinT (lexLines (a ++ 10 :: b))) == ((joinT (lexLines a)) ++ (joinT (lexLines b))))) (y := false) rfl (fun h6 => ?_) (fun h6 => ?_)
          · skip
            have h6' : ((lexLines (a ++ 10 :: b)).length) = (((lexLines a).length) + ((lexLines b).length)) := (by have hh := eq_of_beq h6; omega)
            clear h6
            refine AOps.read ⟨65, rfl, rfl⟩ rfl (by decide) (Reader.move (.inl rfl) (ok_const rfl) (v := .list false 31 ((lexLines (a ++ 10 :: b)).map encL)) rfl) ?_
            refine AOps.call (args := [.list false 31 ((lexLines (a ++ 10 :: b)).map encL)]) ⟨65, rfl, rfl⟩ rfl (by decide) rfl rfl Tryd.call19 (args_ok rfl) rfl (by intro j x v hx hv; match j, hx, hv with | 0, hx, hv => cases hx; cases hv; exact .inl ⟨rfl, rfl⟩ | _ + 1, hx, hv => cases hx) (join_any (lexLines (a ++ 10 :: b)) (lex_small (a ++ 10 :: b)) (lex_ne (a ++ 10 :: b)) (by have := join_small (a ++ 10 :: b); omega) M) ?_
            rintro _ _ ⟨rfl, rfl⟩
            refine AOps.read ⟨65, rfl, rfl⟩ rfl (by decide) (Reader.move (.inl rfl) (ok_const rfl) (v := .list false 31 ((lexLines a).map encL)) rfl) ?_
            refine AOps.call (args := [.list false 31 ((lexLines a).map encL)]) ⟨65, rfl, rfl⟩ rfl (by decide) rfl rfl Tryd.call19 (args_ok rfl) rfl (by intro j x v hx hv; match j, hx, hv with | 0, hx, hv => cases hx; cases hv; exact .inl ⟨rfl, rfl⟩ | _ + 1, hx, hv => cases hx) (join_any (lexLines a) (lex_small a) (lex_ne a) (by have := join_small a; omega) M) ?_
            rintro _ _ ⟨rfl, rfl⟩
            refine AOps.read ⟨65, rfl, rfl⟩ rfl (by decide) (Reader.move (.inl rfl) (ok_const rfl) (v := .list false 31 ((lexLines b).map encL)) rfl) ?_
            refine AOps.call (args := [.list false 31 ((lexLines b).map encL)]) ⟨65, rfl, rfl⟩ rfl (by decide) rfl rfl Tryd.call19 (args_ok rfl) rfl (by intro j x v hx hv; match j, hx, hv with | 0, hx, hv => cases hx; cases hv; exact .inl ⟨rfl, rfl⟩ | _ + 1, hx, hv => cases hx) (join_any (lexLines b) (lex_small b) (lex_ne b) (by have := join_small b; omega) M) ?_
            rintro _ _ ⟨rfl, rfl⟩
            refine AOps.read ⟨65, rfl, rfl⟩ rfl (by decide) (Reader.cat rfl rfl rfl (by first | omega | (simp; omega)) (c := (joinT (lexLines a)) ++ (joinT (lexLines b))) rfl) ?_
            refine AOps.read ⟨65, rfl, rfl⟩ rfl (by decide) (Reader.strs rfl rfl rfl (r := (joinT (lexLines (a ++ 10 :: b))) == ((joinT (lexLines a)) ++ (joinT (lexLines b)))) rfl) ?_
            refine AOps.read trivial rfl (by decide) (Reader.pick rfl (b := true) rfl (ok_const rfl) (ok_const rfl) (v := .lit (.bool ((joinT (lexLines (a ++ 10 :: b))) == ((joinT (lexLines a)) ++ (joinT (lexLines b)))))) rfl) ?_
            refine AOps.read trivial rfl (by decide) (Reader.move (.inr rfl) (ok_const rfl) (v := .lit (.bool ((joinT (lexLines (a ++ 10 :: b))) == ((joinT (lexLines a)) ++ (joinT (lexLines b)))))) rfl) ?_
            exact AOps.nil rfl
          · skip
            have h6' : ¬ (((lexLines (a ++ 10 :: b)).length) = (((lexLines a).length) + ((lexLines b).length))) := (by have hh := beq_eq_false_iff_ne.1 h6; omega)
            clear h6
            refine AOps.skip ⟨12, true, 65, _, rfl, rfl, rfl, by simp⟩ rfl (by decide) ?_
            refine AOps.skip ⟨12, true, 65, _, rfl, rfl, rfl, by simp⟩ rfl (by decide) ?_
            refine AOps.skip ⟨12, true, 65, _, rfl, rfl, rfl, by simp⟩ rfl (by decide) ?_
            refine AOps.skip ⟨12, true, 65, _, rfl, rfl, rfl, by simp⟩ rfl (by decide) ?_
            refine AOps.skip ⟨12, true, 65, _, rfl, rfl, rfl, by simp⟩ rfl (by decide) ?_
            refine AOps.skip ⟨12, true, 65, _, rfl, rfl, rfl, by simp⟩ rfl (by decide) ?_
            refine AOps.skip ⟨12, true, 65, _, rfl, rfl, rfl, by simp⟩ rfl (by decide) ?_
            refine AOps.skip ⟨12, true, 65, _, rfl, rfl, rfl, by simp⟩ rfl (by decide) ?_
            refine AOps.read trivial rfl (by decide) (Reader.pick rfl (b := false) rfl (ok_const rfl) (ok_const rfl) (v := .lit (.bool false)) rfl) ?_
            refine AOps.read trivial rfl (by decide) (Reader.move (.inr rfl) (ok_const rfl) (v := .lit (.bool false)) rfl) ?_
            exact AOps.nil rfl
        · skip
          have h5' : ¬ ((errI (a ++ 10 :: b)) = 0) := (by have hh := beq_eq_false_iff_ne.1 h5; omega)
          clear h5
          refine AOps.skip ⟨2, true, 55, _, rfl, rfl, rfl, by simp⟩ rfl (by decide) ?_
          refine AOps.skip ⟨2, true, 55, _, rfl, rfl, rfl, by simp⟩ rfl (by decide) ?_
          refine AOps.skip ⟨2, true, 55, _, rfl, rfl, rfl, by simp⟩ rfl (by decide) ?_
          refine AOps.skip ⟨2, true, 55, _, rfl, rfl, rfl, by simp⟩ rfl (by decide) ?_
          refine AOps.skip ⟨2, true, 55, _, rfl, rfl, rfl, by simp⟩ rfl (by decide) ?_
          refine AOps.skip ⟨2, true, 55, _, rfl, rfl, rfl, by simp⟩ rfl (by decide) ?_
          refine AOps.skip ⟨2, true, 55, _, rfl, rfl, rfl, by simp⟩ rfl (by decide) ?_
          refine AOps.skip ⟨2, true, 55, _, rfl, rfl, rfl, by simp⟩ rfl (by decide) ?_
          refine AOps.read trivial rfl (by decide) (Reader.pick rfl (b := false) rfl (ok_const rfl) (ok_const rfl) (v := .lit (.bool false)) rfl) ?_
          refine AOps.read trivial rfl (by decide) (Reader.move (.inl rfl) (ok_const rfl) (v := .lit (.bool false)) rfl) ?_
          refine AOps.skip ⟨12, true, 65, _, rfl, rfl, rfl, by simp⟩ rfl (by decide) ?_
          refine AOps.skip ⟨12, true, 65, _, rfl, rfl, rfl, by simp⟩ rfl (by decide) ?_
          refine AOps.skip ⟨12, true, 65, _, rfl, rfl, rfl, by simp⟩ rfl (by decide) ?_
          refine AOps.skip ⟨12, true, 65, _, rfl, rfl, rfl, by simp⟩ rfl (by decide) ?_
          refine AOps.skip ⟨12, true, 65, _, rfl, rfl, rfl, by simp⟩ rfl (by decide) ?_
          refine AOps.skip ⟨12, true, 65, _, rfl, rfl, rfl, by simp⟩ rfl (by decide) ?_
          refine AOps.skip ⟨12, true, 65, _, rfl, rfl, rfl, by simp⟩ rfl (by decide) ?_
          refine AOps.skip ⟨12, true, 65, _, rfl, rfl, rfl, by simp⟩ rfl (by decide) ?_
          refine AOps.read trivial rfl (by decide) (Reader.pick rfl (b := false) rfl (ok_const rfl) (ok_const rfl) (v := .lit (.bool false)) rfl) ?_
          refine AOps.read trivial rfl (by decide) (Reader.move (.inr rfl) (ok_const rfl) (v := .lit (.bool false)) rfl) ?_
          exact AOps.nil rfl
      refine AWp.ret ?_
      exact ⟨.inl rfl, _, ResOf.one 4 (.lit (.bool (bif ((errI (a ++ 10 :: b)) == 0) then (bif ((((lexLines (a ++ 10 :: b)).length : Nat) : Int) == ((((lexLines a).length) + ((lexLines b).length) : Nat) : Int)) then ((joinT (lexLines (a ++ 10 :: b))) == ((joinT (lexLines a)) ++ (joinT (lexLines b)))) else false) else false))) rfl rfl, ⟨congrArg (fun b => AV.lit (.bool b)) (two_ok (a := a) (b := b) (by omega) (by omega) (by assumption)), rfl⟩⟩

end Go.Proofs.YtkdpehhdbjkljaaDoor
