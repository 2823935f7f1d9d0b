/- Walks over abstract values, printed by my program av.py. -/
import Derived.Test.YtkdpehhdbjkljaaDoorLexP2
namespace Go.Proofs.YtkdpehhdbjkljaaDoor
open Go.RowKit

theorem res_no {l : List UInt8} (h : readableB l = false) : AV.tuple [.list true 31 [], .lit (.int .i64 2)] = .tuple [.list true 31 ((lexLines l).map encL), .lit (.int .i64 (errI l))] := by simp [lexLines, errI, h]
theorem res_yes {l : List UInt8} {out : List (List Field)} (h : readableB l = true) (ho : out = lexFrom 1 (splitNl l)) : AV.tuple [.list true 31 (out.map encL), .lit (.int .i64 0)] = .tuple [.list true 31 ((lexLines l).map encL), .lit (.int .i64 (errI l))] := by simp [lexLines, errI, h, ho]

set_option maxRecDepth 20000 in
theorem blank_any (c : Int) (M : Nat → Option (List AV)) : ACall Tryd.prog 33 [.lit (.int .u8 c)] M (fun r M' => r = .lit (.bool (blankB c)) ∧ M = M') := by
  refine ACall.of Tryd.func33 rfl (n := 13) rfl rfl rfl ?_
  refine AWp.seq (AWp.region ?_)
  refine AOps.read trivial rfl (by decide) (Reader.move (.inr rfl) (ok_const rfl) (v := .lit (.bool false)) rfl) ?_
  refine AOps.nil ?_
  refine AWp.regionJ [2, 0] [] (fun z => ⟨(2, .lit (.bool z)) :: [(0, .lit (.int .u8 c))], [], M⟩) (z := bif (c == 32) then true else (bif (c == 9) then true else (c == 13))) ?_ ?_
  · skip
    refine AOps.read trivial rfl (by decide) (Reader.move (.inl rfl) (ok_const rfl) (v := .lit (.int .u8 c)) rfl) ?_
    refine AOps.read trivial rfl (by decide) (Reader.int rfl rfl rfl (r := .bool (c == 32)) rfl) ?_
    refine AOps.read trivial rfl (by decide) (Reader.move (.inl rfl) (ok_const rfl) (v := .lit (.bool (c == 32))) rfl) ?_
    refine AOps.splitJ (t := 5) (b := c == 32) (x := true) (y := (bif (c == 9) then true else (c == 13))) rfl (fun h1 => ?_) (fun h1 => ?_)
    · skip
      have h1' : c = 32 := (by have hh := eq_of_beq h1; omega)
      clear h1
      refine AOps.skip ⟨2, false, 5, _, rfl, rfl, rfl, by simp⟩ rfl (by decide) ?_
      refine AOps.skip ⟨2, false, 5, _, rfl, rfl, rfl, by simp⟩ rfl (by decide) ?_
      refine AOps.read trivial rfl (by decide) (Reader.pick rfl (b := true) rfl (ok_const rfl) (ok_const rfl) (v := .lit (.bool true)) rfl) ?_
      refine AOps.read trivial rfl (by decide) (Reader.move (.inl rfl) (ok_const rfl) (v := .lit (.bool true)) rfl) ?_
      refine AOps.skip ⟨6, false, 9, _, rfl, rfl, rfl, by simp⟩ rfl (by decide) ?_
      refine AOps.skip ⟨6, false, 9, _, rfl, rfl, rfl, by simp⟩ rfl (by decide) ?_
      refine AOps.read trivial rfl (by decide) (Reader.pick rfl (b := true) rfl (ok_const rfl) (ok_const rfl) (v := .lit (.bool true)) rfl) ?_
      refine AOps.read trivial rfl (by decide) (Reader.move (.inr rfl) (ok_const rfl) (v := .lit (.bool true)) rfl) ?_
      exact AOps.nil rfl
    · skip
      have h1' : ¬ (c = 32) := (by have hh := beq_eq_false_iff_ne.1 h1; omega)
      clear h1
      refine AOps.read ⟨5, rfl, rfl⟩ rfl (by decide) (Reader.move (.inl rfl) (ok_const rfl) (v := .lit (.int .u8 c)) rfl) ?_
      refine AOps.read ⟨5, rfl, rfl⟩ rfl (by decide) (Reader.int rfl rfl rfl (r := .bool (c == 9)) rfl) ?_
      refine AOps.read trivial rfl (by decide) (Reader.pick rfl (b := false) rfl (ok_const rfl) (ok_const rfl) (v := .lit (.bool (c == 9))) rfl) ?_
      refine AOps.read trivial rfl (by decide) (Reader.move (.inl rfl) (ok_const rfl) (v := .lit (.bool (c == 9))) rfl) ?_
      refine AOps.splitJ (t := 9) (b := c == 9) (x := true) (y := (c == 13)) rfl (fun h2 => ?_) (fun h2 => ?_)
      · skip
        have h2' : c = 9 := (by have hh := eq_of_beq h2; omega)
        clear h2
        refine AOps.skip ⟨6, false, 9, _, rfl, rfl, rfl, by simp⟩ rfl (by decide) ?_
        refine AOps.skip ⟨6, false, 9, _, rfl, rfl, rfl, by simp⟩ rfl (by decide) ?_
        refine AOps.read trivial rfl (by decide) (Reader.pick rfl (b := true) rfl (ok_const rfl) (ok_const rfl) (v := .lit (.bool true)) rfl) ?_
        refine AOps.read trivial rfl (by decide) (Reader.move (.inr rfl) (ok_const rfl) (v := .lit (.bool true)) rfl) ?_
        exact AOps.nil rfl
      · skip
        have h2' : ¬ (c = 9) := (by have hh := beq_eq_false_iff_ne.1 h2; omega)
        clear h2
        refine AOps.read ⟨9, rfl, rfl⟩ rfl (by decide) (Reader.move (.inl rfl) (ok_const rfl) (v := .lit (.int .u8 c)) rfl) ?_
        refine AOps.read ⟨9, rfl, rfl⟩ rfl (by decide) (Reader.int rfl rfl rfl (r := .bool (c == 13)) rfl) ?_
        refine AOps.read trivial rfl (by decide) (Reader.pick rfl (b := false) rfl (ok_const rfl) (ok_const rfl) (v := .lit (.bool (c == 13))) rfl) ?_
        refine AOps.read trivial rfl (by decide) (Reader.move (.inr rfl) (ok_const rfl) (v := .lit (.bool (c == 13))) rfl) ?_
        exact AOps.nil rfl
  refine AWp.ret ?_
  exact ⟨.inl rfl, _, ResOf.one 2 (.lit (.bool (bif (c == 32) then true else (bif (c == 9) then true else (c == 13))))) rfl rfl, ⟨rfl, rfl⟩⟩

set_option maxRecDepth 20000 in
theorem readable_any (l : List UInt8) (hl : l.length ≤ 140737488355328) (M : Nat → Option (List AV)) : ACall Tryd.prog 31 [.list false 5 (byteAVs l)] M (fun r M' => r = .lit (.bool (readableB l)) ∧ M = M') := by
  refine ACall.of Tryd.func31 rfl (n := 30) rfl rfl rfl ?_
  refine AWp.seq (AWp.region ?_)
  refine AOps.read trivial rfl (by decide) (Reader.move (.inr rfl) (ok_const rfl) (v := .lit (.bool false)) rfl) ?_
  refine AOps.nil ?_
  refine AWp.seq ?_
  refine AWp.seq (AWp.region ?_)
  refine AOps.read trivial rfl (by decide) (Reader.move (.inl rfl) (ok_const rfl) (v := .list false 5 (byteAVs l)) rfl) ?_
  refine AOps.read trivial rfl (by decide) (Reader.len' (xs := byteAVs l) rfl rfl rfl rfl Tryd.underlying22 rfl (m := l.length) (byteAVs_len _)) ?_
  refine AOps.read trivial rfl (by decide) (Reader.move (.inl rfl) (ok_const rfl) (v := .lit (.int .i64 0)) rfl) ?_
  refine AOps.nil ?_
  refine AWp.block ?_
  refine AWp.loopE [0, 5, 6, 7] [] (fun m s => ∃ (k : Nat), m = l.length - k ∧ s = ⟨[(0, .list false 5 (byteAVs l)), (5, .list false 5 (byteAVs l)), (6, .lit (.int .i64 (l.length : Int))), (7, .lit (.int .i64 (k : Int)))], [], M⟩ ∧ (k ≤ l.length) ∧ (∀ j, j < k → okB ((l.getD j 0).toNat : Int) = true)) ?_ ?_
  · exact ⟨_, 0, rfl, rfl, Nat.zero_le _, fun j hj => by omega⟩
  · rintro _ _ ⟨k, rfl, rfl, hk, hall⟩
    refine AWp.seq (AWp.region ?_)
    refine AOps.read trivial rfl (by decide) (Reader.int rfl rfl rfl (r := .bool (decide ((k : Int) < (l.length : Int)))) rfl) ?_
    refine AOps.nil ?_
    refine AWp.seq ?_
    refine AWp.cond (b := decide ((k : Int) < (l.length : Int))) rfl (fun h1 => ?_) (fun h1 => ?_)
    · skip
      have h1' : k < l.length := (by have hh := of_decide_eq_true h1; omega)
      clear h1
      refine AWp.skip ?_
      refine AWp.seq ?_
      refine AWp.block ?_
      refine AWp.seq (AWp.region ?_)
      refine AOps.read trivial rfl (by decide) (Reader.elemAddr (m := k) rfl Tryd.underlying22 sizeOf_5 rfl rfl rfl (e := .lit (.int .u8 ((l.getD k 0).toNat : Int))) (byteAVs_at (by first | omega | (simp; omega)))) ?_
      refine AOps.read trivial rfl (by decide) (Reader.loadE rfl Tryd.underlying5 sizeOf_5 rfl (v := .lit (.int .u8 ((l.getD k 0).toNat : Int))) rfl rfl) ?_
      refine AOps.read trivial rfl (by decide) (Reader.move (.inr rfl) (ok_const rfl) (v := .lit (.int .u8 ((l.getD k 0).toNat : Int))) rfl) ?_
      refine AOps.nil ?_
      refine AWp.regionJ [25, 0, 5, 6, 7, 8, 4] [] (fun z => ⟨(25, .lit (.bool z)) :: [(0, .list false 5 (byteAVs l)), (5, .list false 5 (byteAVs l)), (6, .lit (.int .i64 (l.length : Int))), (7, .lit (.int .i64 (k : Int))), (8, .lit (.bool (decide ((k : Int) < (l.length : Int))))), (4, .lit (.int .u8 ((l.getD k 0).toNat : Int)))], [], M⟩) (z := bif (!(blankB ((l.getD k 0).toNat : Int))) then (bif (((l.getD k 0).toNat : Int) != 10) then (bif (decide (((l.getD k 0).toNat : Int) < 32)) then true else (decide (((l.getD k 0).toNat : Int) > 126))) else false) else false) ?_ ?_
      · skip
        refine AOps.read trivial rfl (by decide) (Reader.move (.inl rfl) (ok_const rfl) (v := .lit (.int .u8 ((l.getD k 0).toNat : Int))) rfl) ?_
        refine AOps.call (args := [.lit (.int .u8 ((l.getD k 0).toNat : Int))]) trivial rfl (by decide) rfl rfl Tryd.call33 (args_ok rfl) rfl (by intro j x v hx hv; match j, hx, hv with | 0, hx, hv => cases hx; cases hv; exact .inl ⟨rfl, rfl⟩ | _ + 1, hx, hv => cases hx) (blank_any ((l.getD k 0).toNat : Int) M) ?_
        rintro _ _ ⟨rfl, rfl⟩
        refine AOps.read trivial rfl (by decide) (Reader.not (b := blankB ((l.getD k 0).toNat : Int)) rfl rfl) ?_
        refine AOps.read trivial rfl (by decide) (Reader.move (.inl rfl) (ok_const rfl) (v := .lit (.bool (!(blankB ((l.getD k 0).toNat : Int))))) rfl) ?_
        refine AOps.splitJ (t := 14) (b := !(blankB ((l.getD k 0).toNat : Int))) (x := (bif (((l.getD k 0).toNat : Int) != 10) then (bif (decide (((l.getD k 0).toNat : Int) < 32)) then true else (decide (((l.getD k 0).toNat : Int) > 126))) else false)) (y := false) rfl (fun h2 => ?_) (fun h2 => ?_)
        · skip
          have h2' : blankB ((l.getD k 0).toNat : Int) = false := (bnot_t h2)
          clear h2
          refine AOps.read ⟨14, rfl, rfl⟩ rfl (by decide) (Reader.move (.inl rfl) (ok_const rfl) (v := .lit (.int .u8 ((l.getD k 0).toNat : Int))) rfl) ?_
          refine AOps.read ⟨14, rfl, rfl⟩ rfl (by decide) (Reader.int rfl rfl rfl (r := .bool (((l.getD k 0).toNat : Int) != 10)) rfl) ?_
          refine AOps.read trivial rfl (by decide) (Reader.pick rfl (b := true) rfl (ok_const rfl) (ok_const rfl) (v := .lit (.bool (((l.getD k 0).toNat : Int) != 10))) rfl) ?_
          refine AOps.read trivial rfl (by decide) (Reader.move (.inl rfl) (ok_const rfl) (v := .lit (.bool (((l.getD k 0).toNat : Int) != 10))) rfl) ?_
          refine AOps.splitJ (t := 18) (b := ((l.getD k 0).toNat : Int) != 10) (x := (bif (decide (((l.getD k 0).toNat : Int) < 32)) then true else (decide (((l.getD k 0).toNat : Int) > 126)))) (y := false) rfl (fun h3 => ?_) (fun h3 => ?_)
          · skip
            have h3' : ((l.getD k 0).toNat) ≠ 10 := (by have hh := bne_iff_ne.1 h3; omega)
            clear h3
            refine AOps.read ⟨18, rfl, rfl⟩ rfl (by decide) (Reader.move (.inl rfl) (ok_const rfl) (v := .lit (.int .u8 ((l.getD k 0).toNat : Int))) rfl) ?_
            refine AOps.read ⟨18, rfl, rfl⟩ rfl (by decide) (Reader.int rfl rfl rfl (r := .bool (decide (((l.getD k 0).toNat : Int) < 32))) rfl) ?_
            refine AOps.read ⟨18, rfl, rfl⟩ rfl (by decide) (Reader.move (.inl rfl) (ok_const rfl) (v := .lit (.bool (decide (((l.getD k 0).toNat : Int) < 32)))) rfl) ?_
            refine AOps.splitJ (t := 21) (b := decide (((l.getD k 0).toNat : Int) < 32)) (x := true) (y := (decide (((l.getD k 0).toNat : Int) > 126))) rfl (fun h4 => ?_) (fun h4 => ?_)
            · skip
              have h4' : ((l.getD k 0).toNat) < 32 := (by have hh := of_decide_eq_true h4; omega)
              clear h4
              refine AOps.skip ⟨10, false, 21, _, rfl, rfl, rfl, by simp⟩ rfl (by decide) ?_
              refine AOps.skip ⟨10, false, 21, _, rfl, rfl, rfl, by simp⟩ rfl (by decide) ?_
              refine AOps.read ⟨18, rfl, rfl⟩ rfl (by decide) (Reader.pick rfl (b := true) rfl (ok_const rfl) (ok_const rfl) (v := .lit (.bool true)) rfl) ?_
              refine AOps.read trivial rfl (by decide) (Reader.pick rfl (b := true) rfl (ok_const rfl) (ok_const rfl) (v := .lit (.bool true)) rfl) ?_
              exact AOps.nil rfl
            · skip
              have h4' : ¬ (((l.getD k 0).toNat) < 32) := (by have hh := of_decide_eq_false h4; omega)
              clear h4
              refine AOps.read ⟨21, rfl, rfl⟩ rfl (by decide) (Reader.move (.inl rfl) (ok_const rfl) (v := .lit (.int .u8 ((l.getD k 0).toNat : Int))) rfl) ?_
              refine AOps.read ⟨21, rfl, rfl⟩ rfl (by decide) (Reader.int rfl rfl rfl (r := .bool (decide (((l.getD k 0).toNat : Int) > 126))) rfl) ?_
              refine AOps.read ⟨18, rfl, rfl⟩ rfl (by decide) (Reader.pick rfl (b := false) rfl (ok_const rfl) (ok_const rfl) (v := .lit (.bool (decide (((l.getD k 0).toNat : Int) > 126)))) rfl) ?_
              refine AOps.read trivial rfl (by decide) (Reader.pick rfl (b := true) rfl (ok_const rfl) (ok_const rfl) (v := .lit (.bool (decide (((l.getD k 0).toNat : Int) > 126)))) rfl) ?_
              exact AOps.nil rfl
          · skip
            have h3' : ¬ (((l.getD k 0).toNat) ≠ 10) := (by have hh := bne_eq_false_iff_eq.1 h3; omega)
            clear h3
            refine AOps.skip ⟨7, true, 18, _, rfl, rfl, rfl, by simp⟩ rfl (by decide) ?_
            refine AOps.skip ⟨7, true, 18, _, rfl, rfl, rfl, by simp⟩ rfl (by decide) ?_
            refine AOps.skip ⟨7, true, 18, _, rfl, rfl, rfl, by simp⟩ rfl (by decide) ?_
            refine AOps.skip ⟨10, false, 21, _, rfl, rfl, rfl, by simp [undef]⟩ rfl (by decide) ?_
            refine AOps.skip ⟨10, false, 21, _, rfl, rfl, rfl, by simp [undef]⟩ rfl (by decide) ?_
            refine AOps.skip ⟨7, true, 18, _, rfl, rfl, rfl, by simp⟩ rfl (by decide) ?_
            refine AOps.read trivial rfl (by decide) (Reader.pick rfl (b := false) rfl (ok_const rfl) (ok_const rfl) (v := .lit (.bool false)) rfl) ?_
            exact AOps.nil rfl
        · skip
          have h2' : blankB ((l.getD k 0).toNat : Int) = true := (bnot_f h2)
          clear h2
          refine AOps.skip ⟨3, true, 14, _, rfl, rfl, rfl, by simp⟩ rfl (by decide) ?_
          refine AOps.skip ⟨3, true, 14, _, rfl, rfl, rfl, by simp⟩ rfl (by decide) ?_
          refine AOps.read trivial rfl (by decide) (Reader.pick rfl (b := false) rfl (ok_const rfl) (ok_const rfl) (v := .lit (.bool false)) rfl) ?_
          refine AOps.read trivial rfl (by decide) (Reader.move (.inl rfl) (ok_const rfl) (v := .lit (.bool false)) rfl) ?_
          refine AOps.skip ⟨7, true, 18, _, rfl, rfl, rfl, by simp⟩ rfl (by decide) ?_
          refine AOps.skip ⟨7, true, 18, _, rfl, rfl, rfl, by simp⟩ rfl (by decide) ?_
          refine AOps.skip ⟨7, true, 18, _, rfl, rfl, rfl, by simp⟩ rfl (by decide) ?_
          refine AOps.skip ⟨10, false, 21, _, rfl, rfl, rfl, by simp [undef]⟩ rfl (by decide) ?_
          refine AOps.skip ⟨10, false, 21, _, rfl, rfl, rfl, by simp [undef]⟩ rfl (by decide) ?_
          refine AOps.skip ⟨7, true, 18, _, rfl, rfl, rfl, by simp⟩ rfl (by decide) ?_
          refine AOps.read trivial rfl (by decide) (Reader.pick rfl (b := false) rfl (ok_const rfl) (ok_const rfl) (v := .lit (.bool false)) rfl) ?_
          exact AOps.nil rfl
      refine AWp.cond (b := bif (!(blankB ((l.getD k 0).toNat : Int))) then (bif (((l.getD k 0).toNat : Int) != 10) then (bif (decide (((l.getD k 0).toNat : Int) < 32)) then true else (decide (((l.getD k 0).toNat : Int) > 126))) else false) else false) rfl (fun h5 => ?_) (fun h5 => ?_)
      · skip
        have h5' : okB ((l.getD k 0).toNat : Int) = false := (okB_no h5)
        clear h5
        refine AWp.seq (AWp.region ?_)
        refine AOps.read trivial rfl (by decide) (Reader.move (.inr rfl) (ok_const rfl) (v := .lit (.bool false)) rfl) ?_
        refine AOps.nil ?_
        refine AWp.ret ?_
        exact ⟨.inl rfl, _, ResOf.one 2 (.lit (.bool false)) rfl rfl, ⟨congrArg (fun b => AV.lit (.bool b)) (readable_no (k := k) (by omega) (by assumption)), rfl⟩⟩
      · skip
        have h5' : okB ((l.getD k 0).toNat : Int) = true := (okB_go h5)
        clear h5
        refine AWp.skip ?_
        refine AWp.region ?_
        refine AOps.read trivial rfl (by decide) (Reader.sum rfl rfl rfl (m := (k : Int) + 1) (c := ((k + 1 : Nat) : Int)) rfl (by first | exact IntWalk.i64_in _ (by omega) | exact IntWalk.i64_in _ (by constructor <;> omega) | (simp only [];omega))) ?_
        refine AOps.read trivial rfl (by decide) (Reader.move (.inl rfl) (ok_const rfl) (v := .lit (.int .i64 ((k + 1 : Nat) : Int))) rfl) ?_
        refine AOps.nil ?_
        exact ⟨_, by omega, k + 1, rfl, rfl, by omega, ext_0 hall (by assumption)⟩
    · skip
      have h1' : ¬ (k < l.length) := (by have hh := of_decide_eq_false h1; omega)
      clear h1
      refine AWp.exit ?_
      refine AWp.seq (AWp.region ?_)
      refine AOps.read trivial rfl (by decide) (Reader.move (.inl rfl) (ok_const rfl) (v := .list false 5 (byteAVs l)) rfl) ?_
      refine AOps.read trivial rfl (by decide) (Reader.len' (xs := byteAVs l) rfl rfl rfl rfl Tryd.underlying22 rfl (m := l.length) (byteAVs_len _)) ?_
      refine AOps.read trivial rfl (by decide) (Reader.int rfl rfl rfl (r := .bool (decide ((l.length : Int) ≤ 65536))) rfl) ?_
      refine AOps.read trivial rfl (by decide) (Reader.move (.inr rfl) (ok_const rfl) (v := .lit (.bool (decide ((l.length : Int) ≤ 65536)))) rfl) ?_
      refine AOps.nil ?_
      refine AWp.ret ?_
      exact ⟨.inl rfl, _, ResOf.one 2 (.lit (.bool (decide ((l.length : Int) ≤ 65536)))) rfl rfl, ⟨congrArg (fun b => AV.lit (.bool b)) (readable_yes (fun j hj => hall j (by omega))), rfl⟩⟩

set_option maxRecDepth 20000 in
theorem lines_any (l : List UInt8) (hl : l.length ≤ 140737488355328) (M : Nat → Option (List AV)) : ACall Tryd.prog 15 [.list false 5 (byteAVs l)] M (fun r M' => r = .tuple [.list true 31 ((lexLines l).map encL), .lit (.int .i64 (errI l))] ∧ M = M') := by
  refine ACall.of Tryd.func15 rfl (n := 78) rfl rfl rfl ?_
  refine AWp.seq (AWp.region ?_)
  refine AOps.nilList 31 trivial rfl (by decide) (.inl rfl) ?_
  refine AOps.read trivial rfl (by decide) (Reader.move (.inr rfl) (ok_const rfl) (v := .lit (.int .i64 0)) rfl) ?_
  refine AOps.nil ?_
  refine AWp.scope ?_
  refine AWp.seq ?_
  refine AWp.seq (AWp.region ?_)
  refine AOps.read trivial rfl (by decide) (Reader.move (.inl rfl) (ok_const rfl) (v := .list false 5 (byteAVs l)) rfl) ?_
  refine AOps.call (args := [.list false 5 (byteAVs l)]) trivial rfl (by decide) rfl rfl Tryd.call31 (args_ok rfl) rfl (by intro j x v hx hv; match j, hx, hv with | 0, hx, hv => cases hx; cases hv; exact .inl ⟨rfl, rfl⟩ | _ + 1, hx, hv => cases hx) (readable_any l (by first | assumption | omega) M) ?_
  rintro _ _ ⟨rfl, rfl⟩
  refine AOps.read trivial rfl (by decide) (Reader.not (b := readableB l) rfl rfl) ?_
  refine AOps.nil ?_
  refine AWp.cond (b := !(readableB l)) rfl (fun h1 => ?_) (fun h1 => ?_)
  · skip
    have h1' : readableB l = false := (bnot_t h1)
    clear h1
    refine AWp.seq (AWp.region ?_)
    refine AOps.nilList 31 trivial rfl (by decide) (.inl rfl) ?_
    refine AOps.read trivial rfl (by decide) (Reader.move (.inr rfl) (ok_const rfl) (v := .lit (.int .i64 2)) rfl) ?_
    refine AOps.nil ?_
    refine AWp.ret ?_
    exact ⟨.inl rfl, _, ResOf.two 2 3 (.list true 31 []) (.lit (.int .i64 2)) rfl rfl (.inr ⟨_, _, rfl⟩) (.inl rfl) (by decide), ⟨res_no (by assumption), rfl⟩⟩
  · skip
    have h1' : readableB l = true := (bnot_f h1)
    clear h1
    refine AWp.skip ?_
    refine AWp.seq (AWp.region ?_)
    refine AOps.nilList 31 trivial rfl (by decide) (.inl rfl) ?_
    refine AOps.nil ?_
    refine AWp.seq ?_
    refine AWp.label ?_
    refine AWp.seq ?_
    refine AWp.seq (AWp.region ?_)
    refine AOps.read trivial rfl (by decide) (Reader.move (.inl rfl) (ok_const rfl) (v := .list false 5 (byteAVs l)) rfl) ?_
    refine AOps.read trivial rfl (by decide) (Reader.ofBytes (l := l) rfl Tryd.underlying22 Tryd.underlying9 Tryd.underlying5 rfl) ?_
    refine AOps.call (args := [.str l, .str [10]]) trivial rfl (by decide) rfl rfl Tryd.call32 (args_ok rfl) rfl (by intro j x v hx hv; match j, hx, hv with | 0, hx, hv => cases hx; cases hv; exact .inl ⟨rfl, rfl⟩ | 1, hx, hv => cases hx; cases hv; exact .inl ⟨rfl, rfl⟩ | _ + 2, hx, hv => cases hx) (split_any l (by have := readable_len (l := l) (by assumption); omega) M) ?_
    rintro _ _ ⟨rfl, rfl⟩
    refine AOps.read trivial rfl (by decide) (Reader.len' (xs := (splitNl l).map AV.str) rfl rfl rfl rfl Tryd.underlying45 rfl (m := (splitNl l).length) (by simp)) ?_
    refine AOps.read trivial rfl (by decide) (Reader.move (.inl rfl) (ok_const rfl) (v := .lit (.int .i64 0)) rfl) ?_
    refine AOps.nil ?_
    refine AWp.block ?_
    refine AWp.loopE [0, 4, 15, 16, 17] [] (fun m s => ∃ (k : Nat) (out : List (List Field)), m = (splitNl l).length - k ∧ s = ⟨[(0, .list false 5 (byteAVs l)), (4, .list true 31 (out.map encL)), (15, .list true 9 ((splitNl l).map AV.str)), (16, .lit (.int .i64 (((splitNl l).length : Nat) : Int))), (17, .lit (.int .i64 (k : Int)))], [], M⟩ ∧ (k ≤ (splitNl l).length) ∧ (out.length ≤ k) ∧ (out ++ lexFrom (k + 1) ((splitNl l).drop k) = lexFrom 1 (splitNl l))) ?_ ?_
    · exact ⟨_, 0, [], rfl, rfl, Nat.zero_le _, Nat.zero_le _, rfl⟩
    · rintro _ _ ⟨k, out, rfl, rfl, hk, hol, hout⟩
      have hll := readable_len (l := l) (by assumption)
      have hsl := splitNl_le l
      refine AWp.seq (AWp.region ?_)
      refine AOps.read trivial rfl (by decide) (Reader.int rfl rfl rfl (r := .bool (decide ((k : Int) < (((splitNl l).length : Nat) : Int)))) rfl) ?_
      refine AOps.nil ?_
      refine AWp.seq ?_
      refine AWp.cond (b := decide ((k : Int) < (((splitNl l).length : Nat) : Int))) rfl (fun h2 => ?_) (fun h2 => ?_)
      · skip
        have h2' : k < ((splitNl l).length) := (by have hh := of_decide_eq_true h2; omega)
        clear h2
        refine AWp.skip ?_
        refine AWp.seq ?_
        refine AWp.block ?_
        refine AWp.seq (AWp.region ?_)
        refine AOps.read trivial rfl (by decide) (Reader.move (.inl rfl) (ok_const rfl) (v := .lit (.int .i64 (k : Int))) rfl) ?_
        obtain ⟨s1, hs1⟩ : ∃ x, (splitNl l)[k]? = some x := ⟨_, List.getElem?_eq_getElem (by first | omega | (simp; omega))⟩
        refine AOps.read trivial rfl (by decide) (Reader.elemAddr (m := k) rfl Tryd.underlying45 sizeOf_9 rfl rfl rfl (e := .str s1) (map_at hs1)) ?_
        refine AOps.read trivial rfl (by decide) (Reader.loadE rfl Tryd.underlying9 sizeOf_9 rfl (v := .str s1) rfl rfl) ?_
        refine AOps.read trivial rfl (by decide) (Reader.move (.inr rfl) (ok_const rfl) (v := .lit (.int .i64 (k : Int))) rfl) ?_
        refine AOps.read trivial rfl (by decide) (Reader.move (.inr rfl) (ok_const rfl) (v := .str s1) rfl) ?_
        refine AOps.nil ?_
        refine AWp.seq (AWp.region ?_)
        refine AOps.nilList 33 trivial rfl (by decide) (.inl rfl) ?_
        refine AOps.nil ?_
        refine AWp.seq ?_
        refine AWp.seq (AWp.region ?_)
        refine AOps.read trivial rfl (by decide) (Reader.move (.inr rfl) (ok_const rfl) (v := .lit (.int .i64 0)) rfl) ?_
        refine AOps.nil ?_
        refine AWp.block ?_
        refine AWp.loopE [0, 4, 15, 16, 17, 5, 6, 7, 8] [] (fun m s => ∃ (i : Nat) (fl : List Field), m = s1.length + 1 - i ∧ s = ⟨[(0, .list false 5 (byteAVs l)), (4, .list true 31 (out.map encL)), (15, .list true 9 ((splitNl l).map AV.str)), (16, .lit (.int .i64 (((splitNl l).length : Nat) : Int))), (17, .lit (.int .i64 (k : Int))), (5, .lit (.int .i64 (k : Int))), (6, .str s1), (7, .list true 33 (fl.map encF)), (8, .lit (.int .i64 (i : Int)))], [], M⟩ ∧ (i ≤ s1.length + 1) ∧ (fl.length ≤ i) ∧ (fl ++ scan (k + 1) i (s1.drop i) = scan (k + 1) 0 s1)) ?_ ?_
        · exact ⟨_, 0, [], rfl, rfl, Nat.zero_le _, Nat.zero_le _, rfl⟩
        · rintro _ _ ⟨i, fl, rfl, rfl, hi, hfl, hscan⟩
          have hs1l := splitNl_mem l _ _ hs1
          refine AWp.seq ?_
          refine AWp.seq (AWp.region ?_)
          refine AOps.read trivial rfl (by decide) (Reader.move (.inl rfl) (ok_const rfl) (v := .lit (.int .i64 (i : Int))) rfl) ?_
          refine AOps.read trivial rfl (by decide) (Reader.move (.inl rfl) (ok_const rfl) (v := .str s1) rfl) ?_
          refine AOps.read trivial rfl (by decide) (Reader.lenStr' (l := s1) rfl rfl rfl rfl Tryd.underlying9 rfl (m := s1.length) (by first | rfl | simp)) ?_
          refine AOps.read trivial rfl (by decide) (Reader.int rfl rfl rfl (r := .bool (decide ((i : Int) < (s1.length : Int)))) rfl) ?_
          refine AOps.nil ?_
          refine AWp.cond (b := decide ((i : Int) < (s1.length : Int))) rfl (fun h3 => ?_) (fun h3 => ?_)
          · skip
            have h3' : i < s1.length := (by have hh := of_decide_eq_true h3; omega)
            clear h3
            refine AWp.skip ?_
            refine AWp.seq ?_
            refine AWp.block ?_
            refine AWp.seq ?_
            refine AWp.seq (AWp.region ?_)
            refine AOps.read trivial rfl (by decide) (Reader.move (.inl rfl) (ok_const rfl) (v := .str s1) rfl) ?_
            refine AOps.read trivial rfl (by decide) (Reader.move (.inl rfl) (ok_const rfl) (v := .lit (.int .i64 (i : Int))) rfl) ?_
            refine AOps.read trivial rfl (by decide) (Reader.byte (m := i) (c := s1.getD i 0) rfl Tryd.underlying9 rfl rfl rfl (getD_some (by first | omega | (simp; omega)))) ?_
            refine AOps.call (args := [.lit (.int .u8 ((s1.getD i 0).toNat : Int))]) trivial rfl (by decide) rfl rfl Tryd.call33 (args_ok rfl) rfl (by intro j x v hx hv; match j, hx, hv with | 0, hx, hv => cases hx; cases hv; exact .inl ⟨rfl, rfl⟩ | _ + 1, hx, hv => cases hx) (blank_any ((s1.getD i 0).toNat : Int) M) ?_
            rintro _ _ ⟨rfl, rfl⟩
            refine AOps.nil ?_
            refine AWp.cond (b := blankB ((s1.getD i 0).toNat : Int)) rfl (fun h4 => ?_) (fun h4 => ?_)
            · skip
              have h4' : blankB ((s1.getD i 0).toNat : Int) = true := h4
              clear h4
              refine AWp.exit ?_
              refine AWp.region ?_
              refine AOps.read trivial rfl (by decide) (Reader.move (.inl rfl) (ok_const rfl) (v := .lit (.int .i64 (i : Int))) rfl) ?_
              refine AOps.read trivial rfl (by decide) (Reader.sum rfl rfl rfl (m := (i : Int) + 1) (c := ((i + 1 : Nat) : Int)) rfl (by first | exact IntWalk.i64_in _ (by omega) | exact IntWalk.i64_in _ (by constructor <;> omega) | (simp only [];omega))) ?_
              refine AOps.read trivial rfl (by decide) (Reader.move (.inr rfl) (ok_const rfl) (v := .lit (.int .i64 ((i + 1 : Nat) : Int))) rfl) ?_
              refine AOps.nil ?_
              first | exact ⟨_, by omega, i + 1, fl, rfl, rfl, by omega, by omega, scan_at_blank (by assumption) hscan⟩ | (have hwd := scan_at_word (j := j) (by assumption) (by assumption) (by assumption) hij hj hw (by assumption) hscan; exact ⟨_, by omega, j + 1, _, rfl, rfl, by omega, by simp; omega, hwd.1⟩)
            · skip
              have h4' : blankB ((s1.getD i 0).toNat : Int) = false := h4
              clear h4
              refine AWp.skip ?_
              refine AWp.seq ?_
              refine AWp.seq (AWp.region ?_)
              refine AOps.read trivial rfl (by decide) (Reader.move (.inl rfl) (ok_const rfl) (v := .str s1) rfl) ?_
              refine AOps.read trivial rfl (by decide) (Reader.move (.inl rfl) (ok_const rfl) (v := .lit (.int .i64 (i : Int))) rfl) ?_
              refine AOps.read trivial rfl (by decide) (Reader.byte (m := i) (c := s1.getD i 0) rfl Tryd.underlying9 rfl rfl rfl (getD_some (by first | omega | (simp; omega)))) ?_
              refine AOps.read trivial rfl (by decide) (Reader.int rfl rfl rfl (r := .bool (((s1.getD i 0).toNat : Int) == 35)) rfl) ?_
              refine AOps.nil ?_
              refine AWp.cond (b := ((s1.getD i 0).toNat : Int) == 35) rfl (fun h5 => ?_) (fun h5 => ?_)
              · skip
                have h5' : ((s1.getD i 0).toNat) = 35 := (by have hh := eq_of_beq h5; omega)
                clear h5
                refine AWp.seq ?_
                refine AWp.seq (AWp.region ?_)
                refine AOps.read trivial rfl (by decide) (Reader.move (.inl rfl) (ok_const rfl) (v := .list false 33 (fl.map encF)) rfl) ?_
                refine AOps.read trivial rfl (by decide) (Reader.len' (xs := fl.map encF) rfl rfl rfl rfl Tryd.underlying31 rfl (m := fl.length) (by simp)) ?_
                refine AOps.read trivial rfl (by decide) (Reader.int rfl rfl rfl (r := .bool (decide ((fl.length : Int) > 0))) rfl) ?_
                refine AOps.nil ?_
                refine AWp.cond (b := decide ((fl.length : Int) > 0)) rfl (fun h6 => ?_) (fun h6 => ?_)
                · skip
                  have h6' : fl.length > 0 := (by have hh := of_decide_eq_true h6; omega)
                  clear h6
                  refine AWp.region ?_
                  refine AOps.steal trivial rfl (by decide) (by decide) (.inl rfl) (v := .list true 31 (out.map encL)) rfl ?_
                  refine AOps.read trivial rfl (by decide) (Reader.move (.inl rfl) (ok_const rfl) (v := .list false 33 (fl.map encF)) rfl) ?_
                  refine AOps.buildSlice (ys := [(0, .list false 33 (fl.map encF))]) (Es := [33]) (cs := [.list false 33 (fl.map encF)]) (xs := [.list false 33 (fl.map encF)]) trivial rfl (by decide) rfl Tryd.underlying24 Tryd.i31 rfl rfl rfl (by decide) (by refine ⟨rfl, fun j p x hp hx => ?_⟩; match j, hp, hx with | 0, hp, hx => cases hp; cases hx; exact ⟨rfl, .inl ⟨rfl, rfl⟩, rfl, rfl⟩ | _ + 1, hp, hx => cases hp) rfl rfl rfl (all_len rfl) (all_sc rfl) rfl ?_
                  refine AOps.appL (bytes := 24) trivial rfl (by decide) (by decide) rfl rfl rfl rfl Tryd.underlying24 Tryd.underlying24 Tryd.i31 rfl rfl rfl rfl (xs := (out.map encL)) (ys := [.list false 33 (fl.map encF)]) (zs := ((out ++ [fl]).map encL)) rfl rfl (m1 := out.length) (m2 := 1) (by simp) rfl (by first | omega | (unfold maxLen; omega)) (by omega) (by simp [encL]) ?_
                  refine AOps.steal trivial rfl (by decide) (by decide) (.inr rfl) (v := .list true 31 ((out ++ [fl]).map encL)) rfl ?_
                  refine AOps.nil ?_
                  refine AWp.exit ?_
                  refine AWp.region ?_
                  refine AOps.read trivial rfl (by decide) (Reader.sum rfl rfl rfl (m := (k : Int) + 1) (c := ((k + 1 : Nat) : Int)) rfl (by first | exact IntWalk.i64_in _ (by omega) | exact IntWalk.i64_in _ (by constructor <;> omega) | (simp only [];omega))) ?_
                  refine AOps.read trivial rfl (by decide) (Reader.move (.inl rfl) (ok_const rfl) (v := .lit (.int .i64 ((k + 1 : Nat) : Int))) rfl) ?_
                  refine AOps.nil ?_
                  have hfs : fl = scan (k + 1) 0 s1 := by first | exact scan_at_end (by assumption) hscan | exact scan_at_hash (by assumption) (by assumption) (by assumption) hscan
                  first | exact ⟨_, by omega, k + 1, out ++ [fl], rfl, rfl, by omega, by simp; omega, lex_app hs1 hfs (by assumption) hout⟩ | exact ⟨_, by omega, k + 1, out, rfl, rfl, by omega, by omega, lex_skip hs1 hfs (by assumption) hout⟩
                · skip
                  have h6' : ¬ (fl.length > 0) := (by have hh := of_decide_eq_false h6; omega)
                  clear h6
                  refine AWp.skip ?_
                  refine AWp.exit ?_
                  refine AWp.region ?_
                  refine AOps.read trivial rfl (by decide) (Reader.sum rfl rfl rfl (m := (k : Int) + 1) (c := ((k + 1 : Nat) : Int)) rfl (by first | exact IntWalk.i64_in _ (by omega) | exact IntWalk.i64_in _ (by constructor <;> omega) | (simp only [];omega))) ?_
                  refine AOps.read trivial rfl (by decide) (Reader.move (.inl rfl) (ok_const rfl) (v := .lit (.int .i64 ((k + 1 : Nat) : Int))) rfl) ?_
                  refine AOps.nil ?_
                  have hfs : fl = scan (k + 1) 0 s1 := by first | exact scan_at_end (by assumption) hscan | exact scan_at_hash (by assumption) (by assumption) (by assumption) hscan
                  first | exact ⟨_, by omega, k + 1, out ++ [fl], rfl, rfl, by omega, by simp; omega, lex_app hs1 hfs (by assumption) hout⟩ | exact ⟨_, by omega, k + 1, out, rfl, rfl, by omega, by omega, lex_skip hs1 hfs (by assumption) hout⟩
              · skip
                have h5' : ¬ (((s1.getD i 0).toNat) = 35) := (by have hh := beq_eq_false_iff_ne.1 h5; omega)
                clear h5
                refine AWp.skip ?_
                refine AWp.seq (AWp.region ?_)
                refine AOps.read trivial rfl (by decide) (Reader.move (.inl rfl) (ok_const rfl) (v := .lit (.int .i64 (i : Int))) rfl) ?_
                refine AOps.read trivial rfl (by decide) (Reader.move (.inr rfl) (ok_const rfl) (v := .lit (.int .i64 (i : Int))) rfl) ?_
                refine AOps.nil ?_
                refine AWp.seq ?_
                refine AWp.block ?_
                refine AWp.loopE [0, 4, 15, 16, 17, 5, 6, 7, 9, 8] [] (fun m s => ∃ (j : Nat), m = s1.length - j ∧ s = ⟨[(0, .list false 5 (byteAVs l)), (4, .list true 31 (out.map encL)), (15, .list true 9 ((splitNl l).map AV.str)), (16, .lit (.int .i64 (((splitNl l).length : Nat) : Int))), (17, .lit (.int .i64 (k : Int))), (5, .lit (.int .i64 (k : Int))), (6, .str s1), (7, .list true 33 (fl.map encF)), (9, .lit (.int .i64 (i : Int))), (8, .lit (.int .i64 (j : Int)))], [], M⟩ ∧ (i ≤ j) ∧ (j ≤ s1.length) ∧ (∀ m, i ≤ m → m < j → blankB ((s1.getD m 0).toNat : Int) = false)) ?_ ?_
                · exact ⟨_, i, rfl, rfl, Nat.le_refl _, by omega, fun m h1 h2 => by omega⟩
                · rintro _ _ ⟨j, rfl, rfl, hij, hj, hw⟩
                  refine AWp.seq ?_
                  refine AWp.regionJ [54, 0, 4, 15, 16, 17, 5, 6, 7, 9, 8] [] (fun z => ⟨(54, .lit (.bool z)) :: [(0, .list false 5 (byteAVs l)), (4, .list true 31 (out.map encL)), (15, .list true 9 ((splitNl l).map AV.str)), (16, .lit (.int .i64 (((splitNl l).length : Nat) : Int))), (17, .lit (.int .i64 (k : Int))), (5, .lit (.int .i64 (k : Int))), (6, .str s1), (7, .list true 33 (fl.map encF)), (9, .lit (.int .i64 (i : Int))), (8, .lit (.int .i64 (j : Int)))], [], M⟩) (z := bif (decide ((j : Int) < (s1.length : Int))) then (!(blankB ((s1.getD j 0).toNat : Int))) else false) ?_ ?_
                  · skip
                    refine AOps.read trivial rfl (by decide) (Reader.move (.inl rfl) (ok_const rfl) (v := .lit (.int .i64 (j : Int))) rfl) ?_
                    refine AOps.read trivial rfl (by decide) (Reader.move (.inl rfl) (ok_const rfl) (v := .str s1) rfl) ?_
                    refine AOps.read trivial rfl (by decide) (Reader.lenStr' (l := s1) rfl rfl rfl rfl Tryd.underlying9 rfl (m := s1.length) (by first | rfl | simp)) ?_
                    refine AOps.read trivial rfl (by decide) (Reader.int rfl rfl rfl (r := .bool (decide ((j : Int) < (s1.length : Int)))) rfl) ?_
                    refine AOps.read trivial rfl (by decide) (Reader.move (.inl rfl) (ok_const rfl) (v := .lit (.bool (decide ((j : Int) < (s1.length : Int))))) rfl) ?_
                    refine AOps.splitJ (t := 48) (b := decide ((j : Int) < (s1.length : Int))) (x := (!(blankB ((s1.getD j 0).toNat : Int)))) (y := false) rfl (fun h7 => ?_) (fun h7 => ?_)
                    · skip
                      have h7' : j < s1.length := (by have hh := of_decide_eq_true h7; omega)
                      clear h7
                      refine AOps.read ⟨48, rfl, rfl⟩ rfl (by decide) (Reader.move (.inl rfl) (ok_const rfl) (v := .str s1) rfl) ?_
                      refine AOps.read ⟨48, rfl, rfl⟩ rfl (by decide) (Reader.move (.inl rfl) (ok_const rfl) (v := .lit (.int .i64 (j : Int))) rfl) ?_
                      refine AOps.read ⟨48, rfl, rfl⟩ rfl (by decide) (Reader.byte (m := j) (c := s1.getD j 0) rfl Tryd.underlying9 rfl rfl rfl (getD_some (by first | omega | (simp; omega)))) ?_
                      refine AOps.call (args := [.lit (.int .u8 ((s1.getD j 0).toNat : Int))]) ⟨48, rfl, rfl⟩ rfl (by decide) rfl rfl Tryd.call33 (args_ok rfl) rfl (by intro j x v hx hv; match j, hx, hv with | 0, hx, hv => cases hx; cases hv; exact .inl ⟨rfl, rfl⟩ | _ + 1, hx, hv => cases hx) (blank_any ((s1.getD j 0).toNat : Int) M) ?_
                      rintro _ _ ⟨rfl, rfl⟩
                      refine AOps.read ⟨48, rfl, rfl⟩ rfl (by decide) (Reader.not (b := blankB ((s1.getD j 0).toNat : Int)) rfl rfl) ?_
                      refine AOps.read trivial rfl (by decide) (Reader.pick rfl (b := true) rfl (ok_const rfl) (ok_const rfl) (v := .lit (.bool (!(blankB ((s1.getD j 0).toNat : Int))))) rfl) ?_
                      exact AOps.nil rfl
                    · skip
                      have h7' : ¬ (j < s1.length) := (by have hh := of_decide_eq_false h7; omega)
                      clear h7
                      refine AOps.skip ⟨4, true, 48, _, rfl, rfl, rfl, by simp⟩ rfl (by decide) ?_
                      refine AOps.skip ⟨4, true, 48, _, rfl, rfl, rfl, by simp⟩ rfl (by decide) ?_
                      refine AOps.skip ⟨4, true, 48, _, rfl, rfl, rfl, by simp⟩ rfl (by decide) ?_
                      refine AOps.skip ⟨4, true, 48, _, rfl, rfl, rfl, by simp⟩ rfl (by decide) ?_
                      refine AOps.skip ⟨4, true, 48, _, rfl, rfl, rfl, by simp⟩ rfl (by decide) ?_
                      refine AOps.read trivial rfl (by decide) (Reader.pick rfl (b := false) rfl (ok_const rfl) (ok_const rfl) (v := .lit (.bool false)) rfl) ?_
                      exact AOps.nil rfl
                  refine AWp.cond (b := bif (decide ((j : Int) < (s1.length : Int))) then (!(blankB ((s1.getD j 0).toNat : Int))) else false) rfl (fun h8 => ?_) (fun h8 => ?_)
                  · skip
                    have h8' : ((j : Int) < (s1.length : Int)) ∧ (!(blankB ((s1.getD j 0).toNat : Int))) = true := (and_t h8)
                    clear h8
                    refine AWp.skip ?_
                    refine AWp.block ?_
                    refine AWp.region ?_
                    refine AOps.read trivial rfl (by decide) (Reader.move (.inl rfl) (ok_const rfl) (v := .lit (.int .i64 (j : Int))) rfl) ?_
                    refine AOps.read trivial rfl (by decide) (Reader.sum rfl rfl rfl (m := (j : Int) + 1) (c := ((j + 1 : Nat) : Int)) rfl (by first | exact IntWalk.i64_in _ (by omega) | exact IntWalk.i64_in _ (by constructor <;> omega) | (simp only [];omega))) ?_
                    refine AOps.read trivial rfl (by decide) (Reader.move (.inr rfl) (ok_const rfl) (v := .lit (.int .i64 ((j + 1 : Nat) : Int))) rfl) ?_
                    refine AOps.nil ?_
                    obtain ⟨hgo1, hgo2⟩ := (by assumption : ((j : Int) < (s1.length : Int)) ∧ (!(blankB ((s1.getD j 0).toNat : Int))) = true)
                    exact ⟨_, by omega, j + 1, rfl, rfl, by omega, by omega, ext_lt hw (bnot_t hgo2)⟩
                  · skip
                    have h8' : (j : Int) < (s1.length : Int) → (!(blankB ((s1.getD j 0).toNat : Int))) = false := (and_f h8)
                    clear h8
                    refine AWp.exit ?_
                    refine AWp.region ?_
                    refine AOps.steal trivial rfl (by decide) (by decide) (.inl rfl) (v := .list true 33 (fl.map encF)) rfl ?_
                    refine AOps.read trivial rfl (by decide) (Reader.move (.inl rfl) (ok_const rfl) (v := .str s1) rfl) ?_
                    refine AOps.read trivial rfl (by decide) (Reader.move (.inl rfl) (ok_const rfl) (v := .lit (.int .i64 (i : Int))) rfl) ?_
                    refine AOps.read trivial rfl (by decide) (Reader.move (.inl rfl) (ok_const rfl) (v := .lit (.int .i64 (j : Int))) rfl) ?_
                    refine AOps.read trivial rfl (by decide) (Reader.sub (i := i) (j := j) rfl Tryd.underlying9 rfl ⟨_, _, rfl, rfl⟩ ⟨_, _, rfl, rfl⟩ (by first | omega | (simp; omega)) (by first | omega | (simp; omega)) (m := (s1.take j).drop i) rfl) ?_
                    refine AOps.read trivial rfl (by decide) (Reader.move (.inl rfl) (ok_const rfl) (v := .lit (.int .i64 (k : Int))) rfl) ?_
                    refine AOps.read trivial rfl (by decide) (Reader.sum rfl rfl rfl (m := (k : Int) + 1) (c := ((k + 1 : Nat) : Int)) rfl (by first | exact IntWalk.i64_in _ (by omega) | exact IntWalk.i64_in _ (by constructor <;> omega) | (simp only [];omega))) ?_
                    refine AOps.read trivial rfl (by decide) (Reader.move (.inl rfl) (ok_const rfl) (v := .lit (.int .i64 (i : Int))) rfl) ?_
                    refine AOps.read trivial rfl (by decide) (Reader.sum rfl rfl rfl (m := (i : Int) + 1) (c := ((i + 1 : Nat) : Int)) rfl (by first | exact IntWalk.i64_in _ (by omega) | exact IntWalk.i64_in _ (by constructor <;> omega) | (simp only [];omega))) ?_
                    refine AOps.read trivial rfl (by decide) (Reader.build (xs := [(0, .str ((s1.take j).drop i)), (1, .lit (.int .i64 ((k + 1 : Nat) : Int))), (2, .lit (.int .i64 ((i + 1 : Nat) : Int)))]) (Es := []) (places := places_33) rfl Tryd.underlying33 (by refine ⟨rfl, fun j p x hp hx => ?_⟩; match j, hp, hx with | 0, hp, hx => cases hp; cases hx; exact ⟨rfl, .inl ⟨rfl, rfl⟩, rfl, rfl⟩ | 1, hp, hx => cases hp; cases hx; exact ⟨rfl, .inl ⟨rfl, rfl⟩, rfl, rfl⟩ | 2, hp, hx => cases hp; cases hx; exact ⟨rfl, .inl ⟨rfl, rfl⟩, rfl, rfl⟩ | _ + 3, hp, hx => cases hp) zero_33 rfl places_33_ok (cs := [.str ((s1.take j).drop i), .lit (.int .i64 ((k + 1 : Nat) : Int)), .lit (.int .i64 ((i + 1 : Nat) : Int))]) rfl) ?_
                    refine AOps.buildSlice (ys := [(0, .agg [.str ((s1.take j).drop i), .lit (.int .i64 ((k + 1 : Nat) : Int)), .lit (.int .i64 ((i + 1 : Nat) : Int))])]) (Es := []) (cs := [.str ((s1.take j).drop i), .lit (.int .i64 ((k + 1 : Nat) : Int)), .lit (.int .i64 ((i + 1 : Nat) : Int))]) (xs := [.agg [.str ((s1.take j).drop i), .lit (.int .i64 ((k + 1 : Nat) : Int)), .lit (.int .i64 ((i + 1 : Nat) : Int))]]) trivial rfl (by decide) rfl Tryd.underlying31 Tryd.i33 rfl rfl rfl (by decide) (by refine ⟨rfl, fun j p x hp hx => ?_⟩; match j, hp, hx with | 0, hp, hx => cases hp; cases hx; exact ⟨rfl, .inl ⟨rfl, rfl⟩, rfl, rfl⟩ | _ + 1, hp, hx => cases hp) rfl rfl rfl (all_len rfl) (all_sc rfl) rfl ?_
                    refine AOps.appL (bytes := 32) trivial rfl (by decide) (by decide) rfl rfl rfl rfl Tryd.underlying31 Tryd.underlying31 Tryd.i33 rfl rfl rfl rfl (xs := (fl.map encF)) (ys := [.agg [.str ((s1.take j).drop i), .lit (.int .i64 ((k + 1 : Nat) : Int)), .lit (.int .i64 ((i + 1 : Nat) : Int))]]) (zs := ((fl ++ [Field.mk ((s1.take j).drop i) (k + 1) (i + 1)]).map encF)) rfl rfl (m1 := fl.length) (m2 := 1) (by simp) rfl (by first | omega | (unfold maxLen; omega)) (by omega) (by rw [List.map_append]; rfl) ?_
                    refine AOps.steal trivial rfl (by decide) (by decide) (.inr rfl) (v := .list true 33 ((fl ++ [Field.mk ((s1.take j).drop i) (k + 1) (i + 1)]).map encF)) rfl ?_
                    refine AOps.nil ?_
                    refine AWp.region ?_
                    refine AOps.read trivial rfl (by decide) (Reader.move (.inl rfl) (ok_const rfl) (v := .lit (.int .i64 (j : Int))) rfl) ?_
                    refine AOps.read trivial rfl (by decide) (Reader.sum rfl rfl rfl (m := (j : Int) + 1) (c := ((j + 1 : Nat) : Int)) rfl (by first | exact IntWalk.i64_in _ (by omega) | exact IntWalk.i64_in _ (by constructor <;> omega) | (simp only [];omega))) ?_
                    refine AOps.read trivial rfl (by decide) (Reader.move (.inr rfl) (ok_const rfl) (v := .lit (.int .i64 ((j + 1 : Nat) : Int))) rfl) ?_
                    refine AOps.nil ?_
                    first | exact ⟨_, by omega, i + 1, fl, rfl, rfl, by omega, by omega, scan_at_blank (by assumption) hscan⟩ | (have hwd := scan_at_word (j := j) (by assumption) (by assumption) (by assumption) hij hj hw (by assumption) hscan; exact ⟨_, by omega, j + 1, _, rfl, rfl, by omega, by simp; omega, hwd.1⟩)
          · skip
            have h3' : ¬ (i < s1.length) := (by have hh := of_decide_eq_false h3; omega)
            clear h3
            refine AWp.exit ?_
            refine AWp.seq (AWp.region ?_)
            refine AOps.read trivial rfl (by decide) (Reader.move (.inl rfl) (ok_const rfl) (v := .list false 33 (fl.map encF)) rfl) ?_
            refine AOps.read trivial rfl (by decide) (Reader.len' (xs := fl.map encF) rfl rfl rfl rfl Tryd.underlying31 rfl (m := fl.length) (by simp)) ?_
            refine AOps.read trivial rfl (by decide) (Reader.int rfl rfl rfl (r := .bool (decide ((fl.length : Int) > 0))) rfl) ?_
            refine AOps.nil ?_
            refine AWp.cond (b := decide ((fl.length : Int) > 0)) rfl (fun h9 => ?_) (fun h9 => ?_)
            · skip
              have h9' : fl.length > 0 := (by have hh := of_decide_eq_true h9; omega)
              clear h9
              refine AWp.region ?_
              refine AOps.steal trivial rfl (by decide) (by decide) (.inl rfl) (v := .list true 31 (out.map encL)) rfl ?_
              refine AOps.read trivial rfl (by decide) (Reader.move (.inl rfl) (ok_const rfl) (v := .list false 33 (fl.map encF)) rfl) ?_
              refine AOps.buildSlice (ys := [(0, .list false 33 (fl.map encF))]) (Es := [33]) (cs := [.list false 33 (fl.map encF)]) (xs := [.list false 33 (fl.map encF)]) trivial rfl (by decide) rfl Tryd.underlying24 Tryd.i31 rfl rfl rfl (by decide) (by refine ⟨rfl, fun j p x hp hx => ?_⟩; match j, hp, hx with | 0, hp, hx => cases hp; cases hx; exact ⟨rfl, .inl ⟨rfl, rfl⟩, rfl, rfl⟩ | _ + 1, hp, hx => cases hp) rfl rfl rfl (all_len rfl) (all_sc rfl) rfl ?_
              refine AOps.appL (bytes := 24) trivial rfl (by decide) (by decide) rfl rfl rfl rfl Tryd.underlying24 Tryd.underlying24 Tryd.i31 rfl rfl rfl rfl (xs := (out.map encL)) (ys := [.list false 33 (fl.map encF)]) (zs := ((out ++ [fl]).map encL)) rfl rfl (m1 := out.length) (m2 := 1) (by simp) rfl (by first | omega | (unfold maxLen; omega)) (by omega) (by simp [encL]) ?_
              refine AOps.steal trivial rfl (by decide) (by decide) (.inr rfl) (v := .list true 31 ((out ++ [fl]).map encL)) rfl ?_
              refine AOps.nil ?_
              refine AWp.region ?_
              refine AOps.read trivial rfl (by decide) (Reader.sum rfl rfl rfl (m := (k : Int) + 1) (c := ((k + 1 : Nat) : Int)) rfl (by first | exact IntWalk.i64_in _ (by omega) | exact IntWalk.i64_in _ (by constructor <;> omega) | (simp only [];omega))) ?_
              refine AOps.read trivial rfl (by decide) (Reader.move (.inl rfl) (ok_const rfl) (v := .lit (.int .i64 ((k + 1 : Nat) : Int))) rfl) ?_
              refine AOps.nil ?_
              have hfs : fl = scan (k + 1) 0 s1 := by first | exact scan_at_end (by assumption) hscan | exact scan_at_hash (by assumption) (by assumption) (by assumption) hscan
              first | exact ⟨_, by omega, k + 1, out ++ [fl], rfl, rfl, by omega, by simp; omega, lex_app hs1 hfs (by assumption) hout⟩ | exact ⟨_, by omega, k + 1, out, rfl, rfl, by omega, by omega, lex_skip hs1 hfs (by assumption) hout⟩
            · skip
              have h9' : ¬ (fl.length > 0) := (by have hh := of_decide_eq_false h9; omega)
              clear h9
              refine AWp.skip ?_
              refine AWp.region ?_
              refine AOps.read trivial rfl (by decide) (Reader.sum rfl rfl rfl (m := (k : Int) + 1) (c := ((k + 1 : Nat) : Int)) rfl (by first | exact IntWalk.i64_in _ (by omega) | exact IntWalk.i64_in _ (by constructor <;> omega) | (simp only [];omega))) ?_
              refine AOps.read trivial rfl (by decide) (Reader.move (.inl rfl) (ok_const rfl) (v := .lit (.int .i64 ((k + 1 : Nat) : Int))) rfl) ?_
              refine AOps.nil ?_
              have hfs : fl = scan (k + 1) 0 s1 := by first | exact scan_at_end (by assumption) hscan | exact scan_at_hash (by assumption) (by assumption) (by assumption) hscan
              first | exact ⟨_, by omega, k + 1, out ++ [fl], rfl, rfl, by omega, by simp; omega, lex_app hs1 hfs (by assumption) hout⟩ | exact ⟨_, by omega, k + 1, out, rfl, rfl, by omega, by omega, lex_skip hs1 hfs (by assumption) hout⟩
      · skip
        have h2' : ¬ (k < ((splitNl l).length)) := (by have hh := of_decide_eq_false h2; omega)
        clear h2
        refine AWp.exit ?_
        refine AWp.seq (AWp.region ?_)
        refine AOps.steal trivial rfl (by decide) (by decide) (.inl rfl) (v := .list true 31 (out.map encL)) rfl ?_
        refine AOps.steal trivial rfl (by decide) (by decide) (.inr rfl) (v := .list true 31 (out.map encL)) rfl ?_
        refine AOps.read trivial rfl (by decide) (Reader.move (.inr rfl) (ok_const rfl) (v := .lit (.int .i64 0)) rfl) ?_
        refine AOps.nil ?_
        refine AWp.ret ?_
        exact ⟨.inl rfl, _, ResOf.two 2 3 (.list true 31 (out.map encL)) (.lit (.int .i64 0)) rfl rfl (.inr ⟨_, _, rfl⟩) (.inl rfl) (by decide), ⟨res_yes (by assumption) (lex_done (by assumption) hout), rfl⟩⟩

end Go.Proofs.YtkdpehhdbjkljaaDoor
