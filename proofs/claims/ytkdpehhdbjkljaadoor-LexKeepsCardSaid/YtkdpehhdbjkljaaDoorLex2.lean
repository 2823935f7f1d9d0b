/- Walks over abstract values, printed by my program av.py. -/
import Derived.Test.YtkdpehhdbjkljaaDoorLex1
namespace Go.Proofs.YtkdpehhdbjkljaaDoor
open Go.RowKit

theorem rlex {l : List UInt8} (h : readableB l = true) : AV.list true 31 ((lexFrom 1 (splitNl l)).map encL) = .list true 31 ((lexLines l).map encL) := by simp [lexLines, h]

set_option maxRecDepth 20000 in
theorem rreadable_any (l : List UInt8) (hl : l.length ≤ 140737488355328) (M : Nat → Option (List AV)) : ACall Tryd.prog 16 [.list false 5 (byteAVs l)] M (fun r M' => r = .lit (.bool (readableB l)) ∧ M = M') := by
  refine ACall.of Tryd.func16 rfl (n := 37) rfl rfl rfl ?_
  refine AWp.seq (AWp.region ?_)
  refine AOps.read trivial rfl (by decide) (Reader.move (.inr rfl) (ok_const rfl) (v := .lit (.bool false)) rfl) ?_
  refine AOps.nil ?_
  refine AWp.seq ?_
  refine AWp.seq (AWp.region ?_)
  refine AOps.read trivial rfl (by decide) (Reader.move (.inr rfl) (ok_const rfl) (v := .lit (.int .i64 0)) rfl) ?_
  refine AOps.nil ?_
  refine AWp.block ?_
  refine AWp.loopE [0, 3] [] (fun m s => ∃ (k : Nat), m = l.length - k ∧ s = ⟨[(0, .list false 5 (byteAVs l)), (3, .lit (.int .i64 (k : Int)))], [], M⟩ ∧ (k ≤ l.length) ∧ (∀ j, j < k → okB ((l.getD j 0).toNat : Int) = true)) ?_ ?_
  · exact ⟨_, 0, rfl, rfl, Nat.zero_le _, fun j hj => by omega⟩
  · rintro _ _ ⟨k, rfl, rfl, hk, hall⟩
    refine AWp.seq ?_
    refine AWp.seq (AWp.region ?_)
    refine AOps.read trivial rfl (by decide) (Reader.move (.inl rfl) (ok_const rfl) (v := .lit (.int .i64 (k : Int))) rfl) ?_
    refine AOps.read trivial rfl (by decide) (Reader.move (.inl rfl) (ok_const rfl) (v := .list false 5 (byteAVs l)) rfl) ?_
    refine AOps.read trivial rfl (by decide) (Reader.len' (xs := byteAVs l) rfl rfl rfl rfl Tryd.underlying22 rfl (m := l.length) (byteAVs_len _)) ?_
    refine AOps.read trivial rfl (by decide) (Reader.int rfl rfl rfl (r := .bool (decide ((k : Int) < (l.length : Int)))) rfl) ?_
    refine AOps.nil ?_
    refine AWp.cond (b := decide ((k : Int) < (l.length : Int))) rfl (fun h1 => ?_) (fun h1 => ?_)
    · skip
      have h1' : k < l.length := (by have hh := of_decide_eq_true h1; omega)
      clear h1
      refine AWp.skip ?_
      refine AWp.seq ?_
      refine AWp.block ?_
      refine AWp.seq (AWp.region ?_)
      refine AOps.read trivial rfl (by decide) (Reader.move (.inl rfl) (ok_const rfl) (v := .list false 5 (byteAVs l)) rfl) ?_
      refine AOps.read trivial rfl (by decide) (Reader.move (.inl rfl) (ok_const rfl) (v := .lit (.int .i64 (k : Int))) rfl) ?_
      refine AOps.read trivial rfl (by decide) (Reader.elemAddr (m := k) rfl Tryd.underlying22 sizeOf_5 rfl rfl rfl (e := .lit (.int .u8 ((l.getD k 0).toNat : Int))) (byteAVs_at (by first | omega | (simp; omega)))) ?_
      refine AOps.read trivial rfl (by decide) (Reader.loadE rfl Tryd.underlying5 sizeOf_5 rfl (v := .lit (.int .u8 ((l.getD k 0).toNat : Int))) rfl rfl) ?_
      refine AOps.read trivial rfl (by decide) (Reader.move (.inr rfl) (ok_const rfl) (v := .lit (.int .u8 ((l.getD k 0).toNat : Int))) rfl) ?_
      refine AOps.nil ?_
      refine AWp.regionJ [33, 0, 3, 8, 4] [] (fun z => ⟨(33, .lit (.bool z)) :: [(0, .list false 5 (byteAVs l)), (3, .lit (.int .i64 (k : Int))), (8, .lit (.bool (decide ((k : Int) < (l.length : Int))))), (4, .lit (.int .u8 ((l.getD k 0).toNat : Int)))], [], M⟩) (z := bif (((l.getD k 0).toNat : Int) == 9) then false else (bif (((l.getD k 0).toNat : Int) == 10) then false else (bif (((l.getD k 0).toNat : Int) == 13) then false else (bif (decide (((l.getD k 0).toNat : Int) ≥ 32)) then (!(decide (((l.getD k 0).toNat : Int) ≤ 126))) else true)))) ?_ ?_
      · skip
        refine AOps.read trivial rfl (by decide) (Reader.move (.inl rfl) (ok_const rfl) (v := .lit (.int .u8 ((l.getD k 0).toNat : Int))) rfl) ?_
        refine AOps.read trivial rfl (by decide) (Reader.int rfl rfl rfl (r := .bool (((l.getD k 0).toNat : Int) == 9)) rfl) ?_
        refine AOps.read trivial rfl (by decide) (Reader.move (.inl rfl) (ok_const rfl) (v := .lit (.bool (((l.getD k 0).toNat : Int) == 9))) rfl) ?_
        refine AOps.splitJ (t := 17) (b := ((l.getD k 0).toNat : Int) == 9) (x := false) (y := (bif (((l.getD k 0).toNat : Int) == 10) then false else (bif (((l.getD k 0).toNat : Int) == 13) then false else (bif (decide (((l.getD k 0).toNat : Int) ≥ 32)) then (!(decide (((l.getD k 0).toNat : Int) ≤ 126))) else true)))) rfl (fun h2 => ?_) (fun h2 => ?_)
        · skip
          have h2' : ((l.getD k 0).toNat) = 9 := (by have hh := eq_of_beq h2; omega)
          clear h2
          refine AOps.skip ⟨2, false, 17, _, rfl, rfl, rfl, by simp⟩ rfl (by decide) ?_
          refine AOps.skip ⟨2, false, 17, _, rfl, rfl, rfl, by simp⟩ rfl (by decide) ?_
          refine AOps.read trivial rfl (by decide) (Reader.pick rfl (b := true) rfl (ok_const rfl) (ok_const rfl) (v := .lit (.bool true)) rfl) ?_
          refine AOps.read trivial rfl (by decide) (Reader.move (.inl rfl) (ok_const rfl) (v := .lit (.bool true)) rfl) ?_
          refine AOps.skip ⟨6, false, 21, _, rfl, rfl, rfl, by simp⟩ rfl (by decide) ?_
          refine AOps.skip ⟨6, false, 21, _, rfl, rfl, rfl, by simp⟩ rfl (by decide) ?_
          refine AOps.read trivial rfl (by decide) (Reader.pick rfl (b := true) rfl (ok_const rfl) (ok_const rfl) (v := .lit (.bool true)) rfl) ?_
          refine AOps.read trivial rfl (by decide) (Reader.move (.inl rfl) (ok_const rfl) (v := .lit (.bool true)) rfl) ?_
          refine AOps.skip ⟨10, false, 25, _, rfl, rfl, rfl, by simp⟩ rfl (by decide) ?_
          refine AOps.skip ⟨10, false, 25, _, rfl, rfl, rfl, by simp⟩ rfl (by decide) ?_
          refine AOps.skip ⟨10, false, 25, _, rfl, rfl, rfl, by simp⟩ rfl (by decide) ?_
          refine AOps.skip ⟨13, true, 28, _, rfl, rfl, rfl, by simp [undef]⟩ rfl (by decide) ?_
          refine AOps.skip ⟨13, true, 28, _, rfl, rfl, rfl, by simp [undef]⟩ rfl (by decide) ?_
          refine AOps.skip ⟨10, false, 25, _, rfl, rfl, rfl, by simp⟩ rfl (by decide) ?_
          refine AOps.read trivial rfl (by decide) (Reader.pick rfl (b := true) rfl (ok_const rfl) (ok_const rfl) (v := .lit (.bool true)) rfl) ?_
          refine AOps.read trivial rfl (by decide) (Reader.not (b := true) rfl rfl) ?_
          exact AOps.nil rfl
        · skip
          have h2' : ¬ (((l.getD k 0).toNat) = 9) := (by have hh := beq_eq_false_iff_ne.1 h2; omega)
          clear h2
          refine AOps.read ⟨17, rfl, rfl⟩ rfl (by decide) (Reader.move (.inl rfl) (ok_const rfl) (v := .lit (.int .u8 ((l.getD k 0).toNat : Int))) rfl) ?_
          refine AOps.read ⟨17, rfl, rfl⟩ rfl (by decide) (Reader.int rfl rfl rfl (r := .bool (((l.getD k 0).toNat : Int) == 10)) rfl) ?_
          refine AOps.read trivial rfl (by decide) (Reader.pick rfl (b := false) rfl (ok_const rfl) (ok_const rfl) (v := .lit (.bool (((l.getD k 0).toNat : Int) == 10))) rfl) ?_
          refine AOps.read trivial rfl (by decide) (Reader.move (.inl rfl) (ok_const rfl) (v := .lit (.bool (((l.getD k 0).toNat : Int) == 10))) rfl) ?_
          refine AOps.splitJ (t := 21) (b := ((l.getD k 0).toNat : Int) == 10) (x := false) (y := (bif (((l.getD k 0).toNat : Int) == 13) then false else (bif (decide (((l.getD k 0).toNat : Int) ≥ 32)) then (!(decide (((l.getD k 0).toNat : Int) ≤ 126))) else true))) rfl (fun h3 => ?_) (fun h3 => ?_)
          · skip
            have h3' : ((l.getD k 0).toNat) = 10 := (by have hh := eq_of_beq h3; omega)
            clear h3
            refine AOps.skip ⟨6, false, 21, _, rfl, rfl, rfl, by simp⟩ rfl (by decide) ?_
            refine AOps.skip ⟨6, false, 21, _, rfl, rfl, rfl, by simp⟩ rfl (by decide) ?_
            refine AOps.read trivial rfl (by decide) (Reader.pick rfl (b := true) rfl (ok_const rfl) (ok_const rfl) (v := .lit (.bool true)) rfl) ?_
            refine AOps.read trivial rfl (by decide) (Reader.move (.inl rfl) (ok_const rfl) (v := .lit (.bool true)) rfl) ?_
            refine AOps.skip ⟨10, false, 25, _, rfl, rfl, rfl, by simp⟩ rfl (by decide) ?_
            refine AOps.skip ⟨10, false, 25, _, rfl, rfl, rfl, by simp⟩ rfl (by decide) ?_
            refine AOps.skip ⟨10, false, 25, _, rfl, rfl, rfl, by simp⟩ rfl (by decide) ?_
            refine AOps.skip ⟨13, true, 28, _, rfl, rfl, rfl, by simp [undef]⟩ rfl (by decide) ?_
            refine AOps.skip ⟨13, true, 28, _, rfl, rfl, rfl, by simp [undef]⟩ rfl (by decide) ?_
            refine AOps.skip ⟨10, false, 25, _, rfl, rfl, rfl, by simp⟩ rfl (by decide) ?_
            refine AOps.read trivial rfl (by decide) (Reader.pick rfl (b := true) rfl (ok_const rfl) (ok_const rfl) (v := .lit (.bool true)) rfl) ?_
            refine AOps.read trivial rfl (by decide) (Reader.not (b := true) rfl rfl) ?_
            exact AOps.nil rfl
          · skip
            have h3' : ¬ (((l.getD k 0).toNat) = 10) := (by have hh := beq_eq_false_iff_ne.1 h3; omega)
            clear h3
            refine AOps.read ⟨21, rfl, rfl⟩ rfl (by decide) (Reader.move (.inl rfl) (ok_const rfl) (v := .lit (.int .u8 ((l.getD k 0).toNat : Int))) rfl) ?_
            refine AOps.read ⟨21, rfl, rfl⟩ rfl (by decide) (Reader.int rfl rfl rfl (r := .bool (((l.getD k 0).toNat : Int) == 13)) rfl) ?_
            refine AOps.read trivial rfl (by decide) (Reader.pick rfl (b := false) rfl (ok_const rfl) (ok_const rfl) (v := .lit (.bool (((l.getD k 0).toNat : Int) == 13))) rfl) ?_
            refine AOps.read trivial rfl (by decide) (Reader.move (.inl rfl) (ok_const rfl) (v := .lit (.bool (((l.getD k 0).toNat : Int) == 13))) rfl) ?_
            refine AOps.splitJ (t := 25) (b := ((l.getD k 0).toNat : Int) == 13) (x := false) (y := (bif (decide (((l.getD k 0).toNat : Int) ≥ 32)) then (!(decide (((l.getD k 0).toNat : Int) ≤ 126))) else true)) rfl (fun h4 => ?_) (fun h4 => ?_)
            · skip
              have h4' : ((l.getD k 0).toNat) = 13 := (by have hh := eq_of_beq h4; omega)
              clear h4
              refine AOps.skip ⟨10, false, 25, _, rfl, rfl, rfl, by simp⟩ rfl (by decide) ?_
              refine AOps.skip ⟨10, false, 25, _, rfl, rfl, rfl, by simp⟩ rfl (by decide) ?_
              refine AOps.skip ⟨10, false, 25, _, rfl, rfl, rfl, by simp⟩ rfl (by decide) ?_
              refine AOps.skip ⟨13, true, 28, _, rfl, rfl, rfl, by simp [undef]⟩ rfl (by decide) ?_
              refine AOps.skip ⟨13, true, 28, _, rfl, rfl, rfl, by simp [undef]⟩ rfl (by decide) ?_
              refine AOps.skip ⟨10, false, 25, _, rfl, rfl, rfl, by simp⟩ rfl (by decide) ?_
              refine AOps.read trivial rfl (by decide) (Reader.pick rfl (b := true) rfl (ok_const rfl) (ok_const rfl) (v := .lit (.bool true)) rfl) ?_
              refine AOps.read trivial rfl (by decide) (Reader.not (b := true) rfl rfl) ?_
              exact AOps.nil rfl
            · skip
              have h4' : ¬ (((l.getD k 0).toNat) = 13) := (by have hh := beq_eq_false_iff_ne.1 h4; omega)
              clear h4
              refine AOps.read ⟨25, rfl, rfl⟩ rfl (by decide) (Reader.move (.inl rfl) (ok_const rfl) (v := .lit (.int .u8 ((l.getD k 0).toNat : Int))) rfl) ?_
              refine AOps.read ⟨25, rfl, rfl⟩ rfl (by decide) (Reader.int rfl rfl rfl (r := .bool (decide (((l.getD k 0).toNat : Int) ≥ 32))) rfl) ?_
              refine AOps.read ⟨25, rfl, rfl⟩ rfl (by decide) (Reader.move (.inl rfl) (ok_const rfl) (v := .lit (.bool (decide (((l.getD k 0).toNat : Int) ≥ 32)))) rfl) ?_
              refine AOps.splitJ (t := 28) (b := decide (((l.getD k 0).toNat : Int) ≥ 32)) (x := (!(decide (((l.getD k 0).toNat : Int) ≤ 126)))) (y := true) rfl (fun h5 => ?_) (fun h5 => ?_)
              · skip
                have h5' : ((l.getD k 0).toNat) ≥ 32 := (by have hh := of_decide_eq_true h5; omega)
                clear h5
                refine AOps.read ⟨28, rfl, rfl⟩ rfl (by decide) (Reader.move (.inl rfl) (ok_const rfl) (v := .lit (.int .u8 ((l.getD k 0).toNat : Int))) rfl) ?_
                refine AOps.read ⟨28, rfl, rfl⟩ rfl (by decide) (Reader.int rfl rfl rfl (r := .bool (decide (((l.getD k 0).toNat : Int) ≤ 126))) rfl) ?_
                refine AOps.read ⟨25, rfl, rfl⟩ rfl (by decide) (Reader.pick rfl (b := true) rfl (ok_const rfl) (ok_const rfl) (v := .lit (.bool (decide (((l.getD k 0).toNat : Int) ≤ 126)))) rfl) ?_
                refine AOps.read trivial rfl (by decide) (Reader.pick rfl (b := false) rfl (ok_const rfl) (ok_const rfl) (v := .lit (.bool (decide (((l.getD k 0).toNat : Int) ≤ 126)))) rfl) ?_
                refine AOps.read trivial rfl (by decide) (Reader.not (b := decide (((l.getD k 0).toNat : Int) ≤ 126)) rfl rfl) ?_
                exact AOps.nil rfl
              · skip
                have h5' : ¬ (((l.getD k 0).toNat) ≥ 32) := (by have hh := of_decide_eq_false h5; omega)
                clear h5
                refine AOps.skip ⟨13, true, 28, _, rfl, rfl, rfl, by simp⟩ rfl (by decide) ?_
                refine AOps.skip ⟨13, true, 28, _, rfl, rfl, rfl, by simp⟩ rfl (by decide) ?_
                refine AOps.read ⟨25, rfl, rfl⟩ rfl (by decide) (Reader.pick rfl (b := false) rfl (ok_const rfl) (ok_const rfl) (v := .lit (.bool false)) rfl) ?_
                refine AOps.read trivial rfl (by decide) (Reader.pick rfl (b := false) rfl (ok_const rfl) (ok_const rfl) (v := .lit (.bool false)) rfl) ?_
                refine AOps.read trivial rfl (by decide) (Reader.not (b := false) rfl rfl) ?_
                exact AOps.nil rfl
      refine AWp.cond (b := bif (((l.getD k 0).toNat : Int) == 9) then false else (bif (((l.getD k 0).toNat : Int) == 10) then false else (bif (((l.getD k 0).toNat : Int) == 13) then false else (bif (decide (((l.getD k 0).toNat : Int) ≥ 32)) then (!(decide (((l.getD k 0).toNat : Int) ≤ 126))) else true)))) rfl (fun h6 => ?_) (fun h6 => ?_)
      · skip
        have h6' : okB ((l.getD k 0).toNat : Int) = false := (rok_no h6)
        clear h6
        refine AWp.seq (AWp.region ?_)
        refine AOps.read trivial rfl (by decide) (Reader.move (.inr rfl) (ok_const rfl) (v := .lit (.bool false)) rfl) ?_
        refine AOps.nil ?_
        refine AWp.ret ?_
        exact ⟨.inl rfl, _, ResOf.one 2 (.lit (.bool false)) rfl rfl, ⟨congrArg (fun b => AV.lit (.bool b)) (readable_no (k := k) (by omega) (by assumption)), rfl⟩⟩
      · skip
        have h6' : okB ((l.getD k 0).toNat : Int) = true := (rok_go h6)
        clear h6
        refine AWp.skip ?_
        refine AWp.region ?_
        refine AOps.read trivial rfl (by decide) (Reader.move (.inl rfl) (ok_const rfl) (v := .lit (.int .i64 (k : Int))) rfl) ?_
        refine AOps.read trivial rfl (by decide) (Reader.sum rfl rfl rfl (m := (k : Int) + 1) (c := ((k + 1 : Nat) : Int)) rfl (by first | exact IntWalk.i64_in _ (by omega) | exact IntWalk.i64_in _ (by constructor <;> omega) | (simp only [];omega))) ?_
        refine AOps.read trivial rfl (by decide) (Reader.move (.inr rfl) (ok_const rfl) (v := .lit (.int .i64 ((k + 1 : Nat) : Int))) rfl) ?_
        refine AOps.nil ?_
        exact ⟨_, by omega, k + 1, rfl, rfl, by omega, ext_0 hall (by assumption)⟩
    · skip
      have h1' : ¬ (k < l.length) := (by have hh := of_decide_eq_false h1; omega)
      clear h1
      refine AWp.exit ?_
      refine AWp.seq (AWp.region ?_)
      refine AOps.read trivial rfl (by decide) (Reader.move (.inl rfl) (ok_const rfl) (v := .list false 5 (byteAVs l)) rfl) ?_
      refine AOps.read trivial rfl (by decide) (Reader.len' (xs := byteAVs l) rfl rfl rfl rfl Tryd.underlying22 rfl (m := l.length) (byteAVs_len _)) ?_
      refine AOps.read trivial rfl (by decide) (Reader.int rfl rfl rfl (r := .bool (decide ((l.length : Int) ≤ 65536))) rfl) ?_
      refine AOps.read trivial rfl (by decide) (Reader.move (.inr rfl) (ok_const rfl) (v := .lit (.bool (decide ((l.length : Int) ≤ 65536)))) rfl) ?_
      refine AOps.nil ?_
      refine AWp.ret ?_
      exact ⟨.inl rfl, _, ResOf.one 2 (.lit (.bool (decide ((l.length : Int) ≤ 65536)))) rfl rfl, ⟨congrArg (fun b => AV.lit (.bool b)) (readable_yes (fun j hj => hall j (by omega))), rfl⟩⟩

set_option maxRecDepth 20000 in
theorem rlines_any (l : List UInt8) (hl : l.length ≤ 140737488355328) (hrd : readableB l = true) (M : Nat → Option (List AV)) : ACall Tryd.prog 18 [.list false 5 (byteAVs l)] M (fun r M' => r = .list true 31 ((lexLines l).map encL) ∧ M = M') := by
  have hll := readable_len hrd
  refine ACall.of Tryd.func18 rfl (n := 96) rfl rfl rfl ?_
  refine AWp.seq (AWp.region ?_)
  refine AOps.nilList 31 trivial rfl (by decide) (.inl rfl) ?_
  refine AOps.nil ?_
  refine AWp.seq (AWp.region ?_)
  refine AOps.nilList 31 trivial rfl (by decide) (.inl rfl) ?_
  refine AOps.nil ?_
  refine AWp.seq (AWp.region ?_)
  refine AOps.nilList 33 trivial rfl (by decide) (.inl rfl) ?_
  refine AOps.nil ?_
  refine AWp.seq (AWp.region ?_)
  refine AOps.read trivial rfl (by decide) (Reader.move (.inr rfl) (ok_const rfl) (v := .lit (.int .i64 1)) rfl) ?_
  refine AOps.nil ?_
  refine AWp.seq (AWp.region ?_)
  refine AOps.read trivial rfl (by decide) (Reader.move (.inr rfl) (ok_const rfl) (v := .lit (.int .i64 0)) rfl) ?_
  refine AOps.nil ?_
  refine AWp.seq (AWp.region ?_)
  refine AOps.read trivial rfl (by decide) (Reader.move (.inr rfl) (ok_const rfl) (v := .lit (.bool false)) rfl) ?_
  refine AOps.nil ?_
  refine AWp.seq (AWp.region ?_)
  refine AOps.read trivial rfl (by decide) (Reader.move (.inr rfl) (ok_const rfl) (v := .lit (.int .i64 0)) rfl) ?_
  refine AOps.nil ?_
  refine AWp.seq ?_
  refine AWp.block ?_
  refine AWp.loopE [0, 3, 4, 5, 6, 7, 8] [] (fun m s => ∃ (i n bg : Nat) (rk : Bool) (now : List Field) (out : List (List Field)), m = 2 * (l.length + 1 - i) + (1 - rk.toNat) ∧ s = ⟨[(0, .list false 5 (byteAVs l)), (3, .list true 31 (out.map encL)), (4, .list true 33 (now.map encF)), (5, .lit (.int .i64 (n : Int))), (6, .lit (.int .i64 (bg : Int))), (7, .lit (.bool rk)), (8, .lit (.int .i64 (i : Int)))], [], M⟩ ∧ (bg ≤ i) ∧ (n ≤ i + 1) ∧ (now.length ≤ i) ∧ (out.length ≤ i) ∧ (RInv l i n bg rk now out)) ?_ ?_
  · exact ⟨_, 0, 1, 0, false, [], [], rfl, rfl, Nat.le_refl _, Nat.le_refl _, Nat.le_refl _, Nat.le_refl _, RInv.start l⟩
  · rintro _ _ ⟨i, n, bg, rk, now, out, rfl, rfl, hbg, hn, hnow, hol, hinv⟩
    refine AWp.seq ?_
    refine AWp.seq (AWp.region ?_)
    refine AOps.read trivial rfl (by decide) (Reader.move (.inl rfl) (ok_const rfl) (v := .lit (.int .i64 (i : Int))) rfl) ?_
    refine AOps.read trivial rfl (by decide) (Reader.move (.inl rfl) (ok_const rfl) (v := .list false 5 (byteAVs l)) rfl) ?_
    refine AOps.read trivial rfl (by decide) (Reader.len' (xs := byteAVs l) rfl rfl rfl rfl Tryd.underlying22 rfl (m := l.length) (byteAVs_len _)) ?_
    refine AOps.read trivial rfl (by decide) (Reader.int rfl rfl rfl (r := .bool (decide ((i : Int) ≤ (l.length : Int)))) rfl) ?_
    refine AOps.nil ?_
    refine AWp.cond (b := decide ((i : Int) ≤ (l.length : Int))) rfl (fun h1 => ?_) (fun h1 => ?_)
    · skip
      have h1' : i ≤ l.length := (by have hh := of_decide_eq_true h1; omega)
      clear h1
      refine AWp.skip ?_
      refine AWp.block ?_
      refine AWp.seq ?_
      refine AWp.regionJ [24, 0, 3, 4, 5, 6, 7, 8, 13] [] (fun z => ⟨(24, .lit (.bool z)) :: [(0, .list false 5 (byteAVs l)), (3, .list true 31 (out.map encL)), (4, .list true 33 (now.map encF)), (5, .lit (.int .i64 (n : Int))), (6, .lit (.int .i64 (bg : Int))), (7, .lit (.bool rk)), (8, .lit (.int .i64 (i : Int))), (13, .lit (.bool (decide ((i : Int) ≤ (l.length : Int)))))], [], M⟩) (z := bif ((i : Int) == (l.length : Int)) then true else (((l.getD i 0).toNat : Int) == 10)) ?_ ?_
      · skip
        refine AOps.read trivial rfl (by decide) (Reader.move (.inl rfl) (ok_const rfl) (v := .lit (.int .i64 (i : Int))) rfl) ?_
        refine AOps.read trivial rfl (by decide) (Reader.move (.inl rfl) (ok_const rfl) (v := .list false 5 (byteAVs l)) rfl) ?_
        refine AOps.read trivial rfl (by decide) (Reader.len' (xs := byteAVs l) rfl rfl rfl rfl Tryd.underlying22 rfl (m := l.length) (byteAVs_len _)) ?_
        refine AOps.read trivial rfl (by decide) (Reader.int rfl rfl rfl (r := .bool ((i : Int) == (l.length : Int))) rfl) ?_
        refine AOps.read trivial rfl (by decide) (Reader.move (.inl rfl) (ok_const rfl) (v := .lit (.bool ((i : Int) == (l.length : Int)))) rfl) ?_
        refine AOps.splitJ (t := 18) (b := (i : Int) == (l.length : Int)) (x := true) (y := (((l.getD i 0).toNat : Int) == 10)) rfl (fun h2 => ?_) (fun h2 => ?_)
        · skip
          have h2' : i = l.length := (by have hh := eq_of_beq h2; omega)
          clear h2
          refine AOps.skip ⟨4, false, 18, _, rfl, rfl, rfl, by simp⟩ rfl (by decide) ?_
          refine AOps.skip ⟨4, false, 18, _, rfl, rfl, rfl, by simp⟩ rfl (by decide) ?_
          refine AOps.skip ⟨4, false, 18, _, rfl, rfl, rfl, by simp⟩ rfl (by decide) ?_
          refine AOps.skip ⟨4, false, 18, _, rfl, rfl, rfl, by simp⟩ rfl (by decide) ?_
          refine AOps.skip ⟨4, false, 18, _, rfl, rfl, rfl, by simp⟩ rfl (by decide) ?_
          refine AOps.read trivial rfl (by decide) (Reader.pick rfl (b := true) rfl (ok_const rfl) (ok_const rfl) (v := .lit (.bool true)) rfl) ?_
          exact AOps.nil rfl
        · skip
          have h2' : ¬ (i = l.length) := (by have hh := beq_eq_false_iff_ne.1 h2; omega)
          clear h2
          refine AOps.read ⟨18, rfl, rfl⟩ rfl (by decide) (Reader.move (.inl rfl) (ok_const rfl) (v := .list false 5 (byteAVs l)) rfl) ?_
          refine AOps.read ⟨18, rfl, rfl⟩ rfl (by decide) (Reader.move (.inl rfl) (ok_const rfl) (v := .lit (.int .i64 (i : Int))) rfl) ?_
          refine AOps.read ⟨18, rfl, rfl⟩ rfl (by decide) (Reader.elemAddr (m := i) rfl Tryd.underlying22 sizeOf_5 rfl rfl rfl (e := .lit (.int .u8 ((l.getD i 0).toNat : Int))) (byteAVs_at (by first | omega | (simp; omega)))) ?_
          refine AOps.read ⟨18, rfl, rfl⟩ rfl (by decide) (Reader.loadE rfl Tryd.underlying5 sizeOf_5 rfl (v := .lit (.int .u8 ((l.getD i 0).toNat : Int))) rfl rfl) ?_
          refine AOps.read ⟨18, rfl, rfl⟩ rfl (by decide) (Reader.int rfl rfl rfl (r := .bool (((l.getD i 0).toNat : Int) == 10)) rfl) ?_
          refine AOps.read trivial rfl (by decide) (Reader.pick rfl (b := false) rfl (ok_const rfl) (ok_const rfl) (v := .lit (.bool (((l.getD i 0).toNat : Int) == 10))) rfl) ?_
          exact AOps.nil rfl
      refine AWp.cond (b := bif ((i : Int) == (l.length : Int)) then true else (((l.getD i 0).toNat : Int) == 10)) rfl (fun h3 => ?_) (fun h3 => ?_)
      · skip
        have h3' : i = l.length ∨ (l.getD i 0).toNat = 10 := (rnl_t h3)
        clear h3
        refine AWp.seq ?_
        refine AWp.seq (AWp.region ?_)
        refine AOps.read trivial rfl (by decide) (Reader.move (.inl rfl) (ok_const rfl) (v := .list false 33 (now.map encF)) rfl) ?_
        refine AOps.read trivial rfl (by decide) (Reader.len' (xs := now.map encF) rfl rfl rfl rfl Tryd.underlying31 rfl (m := now.length) (by simp)) ?_
        refine AOps.read trivial rfl (by decide) (Reader.int rfl rfl rfl (r := .bool (decide ((now.length : Int) > 0))) rfl) ?_
        refine AOps.nil ?_
        refine AWp.cond (b := decide ((now.length : Int) > 0)) rfl (fun h4 => ?_) (fun h4 => ?_)
        · skip
          have h4' : now.length > 0 := (by have hh := of_decide_eq_true h4; omega)
          clear h4
          refine AWp.region ?_
          refine AOps.steal trivial rfl (by decide) (by decide) (.inl rfl) (v := .list true 31 (out.map encL)) rfl ?_
          refine AOps.read trivial rfl (by decide) (Reader.move (.inl rfl) (ok_const rfl) (v := .list false 33 (now.map encF)) rfl) ?_
          refine AOps.buildSlice (ys := [(0, .list false 33 (now.map encF))]) (Es := [33]) (cs := [.list false 33 (now.map encF)]) (xs := [.list false 33 (now.map encF)]) trivial rfl (by decide) rfl Tryd.underlying24 Tryd.i31 rfl rfl rfl (by decide) (by refine ⟨rfl, fun j p x hp hx => ?_⟩; match j, hp, hx with | 0, hp, hx => cases hp; cases hx; exact ⟨rfl, .inl ⟨rfl, rfl⟩, rfl, rfl⟩ | _ + 1, hp, hx => cases hp) rfl rfl rfl (all_len rfl) (all_sc rfl) rfl ?_
          refine AOps.appL (bytes := 24) trivial rfl (by decide) (by decide) rfl rfl rfl rfl Tryd.underlying24 Tryd.underlying24 Tryd.i31 rfl rfl rfl rfl (xs := (out.map encL)) (ys := [.list false 33 (now.map encF)]) (zs := ((out ++ [now]).map encL)) rfl rfl (m1 := out.length) (m2 := 1) (by simp) rfl (by first | omega | (unfold maxLen; omega)) (by omega) (by simp [encL]) ?_
          refine AOps.steal trivial rfl (by decide) (by decide) (.inr rfl) (v := .list true 31 ((out ++ [now]).map encL)) rfl ?_
          refine AOps.nil ?_
          refine AWp.seq (AWp.region ?_)
          refine AOps.nilList 33 trivial rfl (by decide) (.inl rfl) ?_
          refine AOps.nil ?_
          refine AWp.seq (AWp.region ?_)
          refine AOps.read trivial rfl (by decide) (Reader.move (.inl rfl) (ok_const rfl) (v := .lit (.int .i64 (n : Int))) rfl) ?_
          refine AOps.read trivial rfl (by decide) (Reader.sum rfl rfl rfl (m := (n : Int) + 1) (c := ((n + 1 : Nat) : Int)) rfl (by first | exact IntWalk.i64_in _ (by omega) | exact IntWalk.i64_in _ (by constructor <;> omega) | (simp only [];omega))) ?_
          refine AOps.read trivial rfl (by decide) (Reader.move (.inr rfl) (ok_const rfl) (v := .lit (.int .i64 ((n + 1 : Nat) : Int))) rfl) ?_
          refine AOps.nil ?_
          refine AWp.seq (AWp.region ?_)
          refine AOps.read trivial rfl (by decide) (Reader.move (.inl rfl) (ok_const rfl) (v := .lit (.int .i64 (i : Int))) rfl) ?_
          refine AOps.read trivial rfl (by decide) (Reader.sum rfl rfl rfl (m := (i : Int) + 1) (c := ((i + 1 : Nat) : Int)) rfl (by first | exact IntWalk.i64_in _ (by omega) | exact IntWalk.i64_in _ (by constructor <;> omega) | (simp only [];omega))) ?_
          refine AOps.read trivial rfl (by decide) (Reader.move (.inr rfl) (ok_const rfl) (v := .lit (.int .i64 ((i + 1 : Nat) : Int))) rfl) ?_
          refine AOps.nil ?_
          refine AWp.seq (AWp.region ?_)
          refine AOps.read trivial rfl (by decide) (Reader.move (.inl rfl) (ok_const rfl) (v := .lit (.int .i64 ((i + 1 : Nat) : Int))) rfl) ?_
          refine AOps.read trivial rfl (by decide) (Reader.move (.inr rfl) (ok_const rfl) (v := .lit (.int .i64 ((i + 1 : Nat) : Int))) rfl) ?_
          refine AOps.nil ?_
          refine AWp.seq (AWp.region ?_)
          refine AOps.read trivial rfl (by decide) (Reader.move (.inr rfl) (ok_const rfl) (v := .lit (.bool false)) rfl) ?_
          refine AOps.nil ?_
          refine AWp.exit ?_
          first
            | exact ⟨_, by simp; omega, i + 1, n + 1, i + 1, false, [], out ++ [now], rfl, rfl, by omega, by omega, by simp, by simp; omega, hinv.nl (by omega) (by assumption) (emit_some (by assumption))⟩
            | exact ⟨_, by simp; omega, i + 1, n + 1, i + 1, false, [], out, rfl, rfl, by omega, by omega, by simp, by omega, hinv.nl (by omega) (by assumption) (emit_none (by assumption))⟩
            | exact ⟨_, by omega, i + 1, n, bg, rk, now, out, rfl, rfl, by omega, by omega, by omega, by omega, hinv.skip hbg (by omega) (by assumption) (by assumption)⟩
            | exact ⟨_, by rw [(by assumption : rk = false ∧ blankB ((l.getD i 0).toNat : Int) = false).1]; simp, i, n, bg, true, now, out, rfl, rfl, by omega, by omega, by omega, by omega, hinv.hash (by omega) (by assumption) (by assumption) (by assumption)⟩
            | (have hwd := hinv.word (j := j) hrd hbg (by omega) (by assumption) (by assumption) (by assumption) hij hj hw (by assumption); exact ⟨_, by omega, j, n, bg, rk, _, out, rfl, rfl, by omega, by omega, by simp; omega, by omega, hwd.1⟩)
        · skip
          have h4' : ¬ (now.length > 0) := (by have hh := of_decide_eq_false h4; omega)
          clear h4
          refine AWp.skip ?_
          refine AWp.seq (AWp.region ?_)
          refine AOps.nilList 33 trivial rfl (by decide) (.inl rfl) ?_
          refine AOps.nil ?_
          refine AWp.seq (AWp.region ?_)
          refine AOps.read trivial rfl (by decide) (Reader.move (.inl rfl) (ok_const rfl) (v := .lit (.int .i64 (n : Int))) rfl) ?_
          refine AOps.read trivial rfl (by decide) (Reader.sum rfl rfl rfl (m := (n : Int) + 1) (c := ((n + 1 : Nat) : Int)) rfl (by first | exact IntWalk.i64_in _ (by omega) | exact IntWalk.i64_in _ (by constructor <;> omega) | (simp only [];omega))) ?_
          refine AOps.read trivial rfl (by decide) (Reader.move (.inr rfl) (ok_const rfl) (v := .lit (.int .i64 ((n + 1 : Nat) : Int))) rfl) ?_
          refine AOps.nil ?_
          refine AWp.seq (AWp.region ?_)
          refine AOps.read trivial rfl (by decide) (Reader.move (.inl rfl) (ok_const rfl) (v := .lit (.int .i64 (i : Int))) rfl) ?_
          refine AOps.read trivial rfl (by decide) (Reader.sum rfl rfl rfl (m := (i : Int) + 1) (c := ((i + 1 : Nat) : Int)) rfl (by first | exact IntWalk.i64_in _ (by omega) | exact IntWalk.i64_in _ (by constructor <;> omega) | (simp only [];omega))) ?_
          refine AOps.read trivial rfl (by decide) (Reader.move (.inr rfl) (ok_const rfl) (v := .lit (.int .i64 ((i + 1 : Nat) : Int))) rfl) ?_
          refine AOps.nil ?_
          refine AWp.seq (AWp.region ?_)
          refine AOps.read trivial rfl (by decide) (Reader.move (.inl rfl) (ok_const rfl) (v := .lit (.int .i64 ((i + 1 : Nat) : Int))) rfl) ?_
          refine AOps.read trivial rfl (by decide) (Reader.move (.inr rfl) (ok_const rfl) (v := .lit (.int .i64 ((i + 1 : Nat) : Int))) rfl) ?_
          refine AOps.nil ?_
          refine AWp.seq (AWp.region ?_)
          refine AOps.read trivial rfl (by decide) (Reader.move (.inr rfl) (ok_const rfl) (v := .lit (.bool false)) rfl) ?_
          refine AOps.nil ?_
          refine AWp.exit ?_
          first
            | exact ⟨_, by simp; omega, i + 1, n + 1, i + 1, false, [], out ++ [now], rfl, rfl, by omega, by omega, by simp, by simp; omega, hinv.nl (by omega) (by assumption) (emit_some (by assumption))⟩
            | exact ⟨_, by simp; omega, i + 1, n + 1, i + 1, false, [], out, rfl, rfl, by omega, by omega, by simp, by omega, hinv.nl (by omega) (by assumption) (emit_none (by assumption))⟩
            | exact ⟨_, by omega, i + 1, n, bg, rk, now, out, rfl, rfl, by omega, by omega, by omega, by omega, hinv.skip hbg (by omega) (by assumption) (by assumption)⟩
            | exact ⟨_, by rw [(by assumption : rk = false ∧ blankB ((l.getD i 0).toNat : Int) = false).1]; simp, i, n, bg, true, now, out, rfl, rfl, by omega, by omega, by omega, by omega, hinv.hash (by omega) (by assumption) (by assumption) (by assumption)⟩
            | (have hwd := hinv.word (j := j) hrd hbg (by omega) (by assumption) (by assumption) (by assumption) hij hj hw (by assumption); exact ⟨_, by omega, j, n, bg, rk, _, out, rfl, rfl, by omega, by omega, by simp; omega, by omega, hwd.1⟩)
      · skip
        have h3' : i ≠ l.length ∧ (l.getD i 0).toNat ≠ 10 := (rnl_f h3)
        clear h3
        refine AWp.skip ?_
        refine AWp.seq ?_
        refine AWp.regionJ [58, 24, 0, 3, 4, 5, 6, 7, 8, 13] [] (fun z => ⟨(58, .lit (.bool z)) :: [(24, .lit (.bool (bif ((i : Int) == (l.length : Int)) then true else (((l.getD i 0).toNat : Int) == 10)))), (0, .list false 5 (byteAVs l)), (3, .list true 31 (out.map encL)), (4, .list true 33 (now.map encF)), (5, .lit (.int .i64 (n : Int))), (6, .lit (.int .i64 (bg : Int))), (7, .lit (.bool rk)), (8, .lit (.int .i64 (i : Int))), (13, .lit (.bool (decide ((i : Int) ≤ (l.length : Int)))))], [], M⟩) (z := bif rk then true else (bif (((l.getD i 0).toNat : Int) == 9) then true else (bif (((l.getD i 0).toNat : Int) == 13) then true else (((l.getD i 0).toNat : Int) == 32)))) ?_ ?_
        · skip
          refine AOps.read trivial rfl (by decide) (Reader.move (.inl rfl) (ok_const rfl) (v := .lit (.bool rk)) rfl) ?_
          refine AOps.read trivial rfl (by decide) (Reader.move (.inl rfl) (ok_const rfl) (v := .lit (.bool rk)) rfl) ?_
          refine AOps.splitJ (t := 38) (b := rk) (x := true) (y := (bif (((l.getD i 0).toNat : Int) == 9) then true else (bif (((l.getD i 0).toNat : Int) == 13) then true else (((l.getD i 0).toNat : Int) == 32)))) rfl (fun h5 => ?_) (fun h5 => ?_)
          · skip
            refine AOps.skip ⟨1, false, 38, _, rfl, rfl, rfl, by simp⟩ rfl (by decide) ?_
            refine AOps.skip ⟨1, false, 38, _, rfl, rfl, rfl, by simp⟩ rfl (by decide) ?_
            refine AOps.skip ⟨1, false, 38, _, rfl, rfl, rfl, by simp⟩ rfl (by decide) ?_
            refine AOps.skip ⟨1, false, 38, _, rfl, rfl, rfl, by simp⟩ rfl (by decide) ?_
            refine AOps.skip ⟨1, false, 38, _, rfl, rfl, rfl, by simp⟩ rfl (by decide) ?_
            refine AOps.read trivial rfl (by decide) (Reader.pick rfl (b := true) rfl (ok_const rfl) (ok_const rfl) (v := .lit (.bool true)) rfl) ?_
            refine AOps.read trivial rfl (by decide) (Reader.move (.inl rfl) (ok_const rfl) (v := .lit (.bool true)) rfl) ?_
            refine AOps.skip ⟨8, false, 45, _, rfl, rfl, rfl, by simp⟩ rfl (by decide) ?_
            refine AOps.skip ⟨8, false, 45, _, rfl, rfl, rfl, by simp⟩ rfl (by decide) ?_
            refine AOps.skip ⟨8, false, 45, _, rfl, rfl, rfl, by simp⟩ rfl (by decide) ?_
            refine AOps.skip ⟨8, false, 45, _, rfl, rfl, rfl, by simp⟩ rfl (by decide) ?_
            refine AOps.skip ⟨8, false, 45, _, rfl, rfl, rfl, by simp⟩ rfl (by decide) ?_
            refine AOps.read trivial rfl (by decide) (Reader.pick rfl (b := true) rfl (ok_const rfl) (ok_const rfl) (v := .lit (.bool true)) rfl) ?_
            refine AOps.read trivial rfl (by decide) (Reader.move (.inl rfl) (ok_const rfl) (v := .lit (.bool true)) rfl) ?_
            refine AOps.skip ⟨15, false, 52, _, rfl, rfl, rfl, by simp⟩ rfl (by decide) ?_
            refine AOps.skip ⟨15, false, 52, _, rfl, rfl, rfl, by simp⟩ rfl (by decide) ?_
            refine AOps.skip ⟨15, false, 52, _, rfl, rfl, rfl, by simp⟩ rfl (by decide) ?_
            refine AOps.skip ⟨15, false, 52, _, rfl, rfl, rfl, by simp⟩ rfl (by decide) ?_
            refine AOps.skip ⟨15, false, 52, _, rfl, rfl, rfl, by simp⟩ rfl (by decide) ?_
            refine AOps.read trivial rfl (by decide) (Reader.pick rfl (b := true) rfl (ok_const rfl) (ok_const rfl) (v := .lit (.bool true)) rfl) ?_
            exact AOps.nil rfl
          · skip
            refine AOps.read ⟨38, rfl, rfl⟩ rfl (by decide) (Reader.move (.inl rfl) (ok_const rfl) (v := .list false 5 (byteAVs l)) rfl) ?_
            refine AOps.read ⟨38, rfl, rfl⟩ rfl (by decide) (Reader.move (.inl rfl) (ok_const rfl) (v := .lit (.int .i64 (i : Int))) rfl) ?_
            refine AOps.read ⟨38, rfl, rfl⟩ rfl (by decide) (Reader.elemAddr (m := i) rfl Tryd.underlying22 sizeOf_5 rfl rfl rfl (e := .lit (.int .u8 ((l.getD i 0).toNat : Int))) (byteAVs_at (by first | omega | (simp; omega)))) ?_
            refine AOps.read ⟨38, rfl, rfl⟩ rfl (by decide) (Reader.loadE rfl Tryd.underlying5 sizeOf_5 rfl (v := .lit (.int .u8 ((l.getD i 0).toNat : Int))) rfl rfl) ?_
            refine AOps.read ⟨38, rfl, rfl⟩ rfl (by decide) (Reader.int rfl rfl rfl (r := .bool (((l.getD i 0).toNat : Int) == 9)) rfl) ?_
            refine AOps.read trivial rfl (by decide) (Reader.pick rfl (b := false) rfl (ok_const rfl) (ok_const rfl) (v := .lit (.bool (((l.getD i 0).toNat : Int) == 9))) rfl) ?_
            refine AOps.read trivial rfl (by decide) (Reader.move (.inl rfl) (ok_const rfl) (v := .lit (.bool (((l.getD i 0).toNat : Int) == 9))) rfl) ?_
            refine AOps.splitJ (t := 45) (b := ((l.getD i 0).toNat : Int) == 9) (x := true) (y := (bif (((l.getD i 0).toNat : Int) == 13) then true else (((l.getD i 0).toNat : Int) == 32))) rfl (fun h6 => ?_) (fun h6 => ?_)
            · skip
              have h6' : ((l.getD i 0).toNat) = 9 := (by have hh := eq_of_beq h6; omega)
              clear h6
              refine AOps.skip ⟨8, false, 45, _, rfl, rfl, rfl, by simp⟩ rfl (by decide) ?_
              refine AOps.skip ⟨8, false, 45, _, rfl, rfl, rfl, by simp⟩ rfl (by decide) ?_
              refine AOps.skip ⟨8, false, 45, _, rfl, rfl, rfl, by simp⟩ rfl (by decide) ?_
              refine AOps.skip ⟨8, false, 45, _, rfl, rfl, rfl, by simp⟩ rfl (by decide) ?_
              refine AOps.skip ⟨8, false, 45, _, rfl, rfl, rfl, by simp⟩ rfl (by decide) ?_
              refine AOps.read trivial rfl (by decide) (Reader.pick rfl (b := true) rfl (ok_const rfl) (ok_const rfl) (v := .lit (.bool true)) rfl) ?_
              refine AOps.read trivial rfl (by decide) (Reader.move (.inl rfl) (ok_const rfl) (v := .lit (.bool true)) rfl) ?_
              refine AOps.skip ⟨15, false, 52, _, rfl, rfl, rfl, by simp⟩ rfl (by decide) ?_
              refine AOps.skip ⟨15, false, 52, _, rfl, rfl, rfl, by simp⟩ rfl (by decide) ?_
              refine AOps.skip ⟨15, false, 52, _, rfl, rfl, rfl, by simp⟩ rfl (by decide) ?_
              refine AOps.skip ⟨15, false, 52, _, rfl, rfl, rfl, by simp⟩ rfl (by decide) ?_
              refine AOps.skip ⟨15, false, 52, _, rfl, rfl, rfl, by simp⟩ rfl (by decide) ?_
              refine AOps.read trivial rfl (by decide) (Reader.pick rfl (b := true) rfl (ok_const rfl) (ok_const rfl) (v := .lit (.bool true)) rfl) ?_
              exact AOps.nil rfl
            · skip
              have h6' : ¬ (((l.getD i 0).toNat) = 9) := (by have hh := beq_eq_false_iff_ne.1 h6; omega)
              clear h6
              refine AOps.read ⟨45, rfl, rfl⟩ rfl (by decide) (Reader.move (.inl rfl) (ok_const rfl) (v := .list false 5 (byteAVs l)) rfl) ?_
              refine AOps.read ⟨45, rfl, rfl⟩ rfl (by decide) (Reader.move (.inl rfl) (ok_const rfl) (v := .lit (.int .i64 (i : Int))) rfl) ?_
              refine AOps.read ⟨45, rfl, rfl⟩ rfl (by decide) (Reader.elemAddr (m := i) rfl Tryd.underlying22 sizeOf_5 rfl rfl rfl (e := .lit (.int .u8 ((l.getD i 0).toNat : Int))) (byteAVs_at (by first | omega | (simp; omega)))) ?_
              refine AOps.read ⟨45, rfl, rfl⟩ rfl (by decide) (Reader.loadE rfl Tryd.underlying5 sizeOf_5 rfl (v := .lit (.int .u8 ((l.getD i 0).toNat : Int))) rfl rfl) ?_
              refine AOps.read ⟨45, rfl, rfl⟩ rfl (by decide) (Reader.int rfl rfl rfl (r := .bool (((l.getD i 0).toNat : Int) == 13)) rfl) ?_
              refine AOps.read trivial rfl (by decide) (Reader.pick rfl (b := false) rfl (ok_const rfl) (ok_const rfl) (v := .lit (.bool (((l.getD i 0).toNat : Int) == 13))) rfl) ?_
              refine AOps.read trivial rfl (by decide) (Reader.move (.inl rfl) (ok_const rfl) (v := .lit (.bool (((l.getD i 0).toNat : Int) == 13))) rfl) ?_
              refine AOps.splitJ (t := 52) (b := ((l.getD i 0).toNat : Int) == 13) (x := true) (y := (((l.getD i 0).toNat : Int) == 32)) rfl (fun h7 => ?_) (fun h7 => ?_)
              · skip
                have h7' : ((l.getD i 0).toNat) = 13 := (by have hh := eq_of_beq h7; omega)
                clear h7
                refine AOps.skip ⟨15, false, 52, _, rfl, rfl, rfl, by simp⟩ rfl (by decide) ?_
                refine AOps.skip ⟨15, false, 52, _, rfl, rfl, rfl, by simp⟩ rfl (by decide) ?_
                refine AOps.skip ⟨15, false, 52, _, rfl, rfl, rfl, by simp⟩ rfl (by decide) ?_
                refine AOps.skip ⟨15, false, 52, _, rfl, rfl, rfl, by simp⟩ rfl (by decide) ?_
                refine AOps.skip ⟨15, false, 52, _, rfl, rfl, rfl, by simp⟩ rfl (by decide) ?_
                refine AOps.read trivial rfl (by decide) (Reader.pick rfl (b := true) rfl (ok_const rfl) (ok_const rfl) (v := .lit (.bool true)) rfl) ?_
                exact AOps.nil rfl
              · skip
                have h7' : ¬ (((l.getD i 0).toNat) = 13) := (by have hh := beq_eq_false_iff_ne.1 h7; omega)
                clear h7
                refine AOps.read ⟨52, rfl, rfl⟩ rfl (by decide) (Reader.move (.inl rfl) (ok_const rfl) (v := .list false 5 (byteAVs l)) rfl) ?_
                refine AOps.read ⟨52, rfl, rfl⟩ rfl (by decide) (Reader.move (.inl rfl) (ok_const rfl) (v := .lit (.int .i64 (i : Int))) rfl) ?_
                refine AOps.read ⟨52, rfl, rfl⟩ rfl (by decide) (Reader.elemAddr (m := i) rfl Tryd.underlying22 sizeOf_5 rfl rfl rfl (e := .lit (.int .u8 ((l.getD i 0).toNat : Int))) (byteAVs_at (by first | omega | (simp; omega)))) ?_
                refine AOps.read ⟨52, rfl, rfl⟩ rfl (by decide) (Reader.loadE rfl Tryd.underlying5 sizeOf_5 rfl (v := .lit (.int .u8 ((l.getD i 0).toNat : Int))) rfl rfl) ?_
                refine AOps.read ⟨52, rfl, rfl⟩ rfl (by decide) (Reader.int rfl rfl rfl (r := .bool (((l.getD i 0).toNat : Int) == 32)) rfl) ?_
                refine AOps.read trivial rfl (by decide) (Reader.pick rfl (b := false) rfl (ok_const rfl) (ok_const rfl) (v := .lit (.bool (((l.getD i 0).toNat : Int) == 32))) rfl) ?_
                exact AOps.nil rfl
        refine AWp.cond (b := bif rk then true else (bif (((l.getD i 0).toNat : Int) == 9) then true else (bif (((l.getD i 0).toNat : Int) == 13) then true else (((l.getD i 0).toNat : Int) == 32)))) rfl (fun h8 => ?_) (fun h8 => ?_)
        · skip
          have h8' : rk = true ∨ blankB ((l.getD i 0).toNat : Int) = true := (rblank_t h8)
          clear h8
          refine AWp.seq (AWp.region ?_)
          refine AOps.read trivial rfl (by decide) (Reader.move (.inl rfl) (ok_const rfl) (v := .lit (.int .i64 (i : Int))) rfl) ?_
          refine AOps.read trivial rfl (by decide) (Reader.sum rfl rfl rfl (m := (i : Int) + 1) (c := ((i + 1 : Nat) : Int)) rfl (by first | exact IntWalk.i64_in _ (by omega) | exact IntWalk.i64_in _ (by constructor <;> omega) | (simp only [];omega))) ?_
          refine AOps.read trivial rfl (by decide) (Reader.move (.inr rfl) (ok_const rfl) (v := .lit (.int .i64 ((i + 1 : Nat) : Int))) rfl) ?_
          refine AOps.nil ?_
          refine AWp.exit ?_
          first
            | exact ⟨_, by simp; omega, i + 1, n + 1, i + 1, false, [], out ++ [now], rfl, rfl, by omega, by omega, by simp, by simp; omega, hinv.nl (by omega) (by assumption) (emit_some (by assumption))⟩
            | exact ⟨_, by simp; omega, i + 1, n + 1, i + 1, false, [], out, rfl, rfl, by omega, by omega, by simp, by omega, hinv.nl (by omega) (by assumption) (emit_none (by assumption))⟩
            | exact ⟨_, by omega, i + 1, n, bg, rk, now, out, rfl, rfl, by omega, by omega, by omega, by omega, hinv.skip hbg (by omega) (by assumption) (by assumption)⟩
            | exact ⟨_, by rw [(by assumption : rk = false ∧ blankB ((l.getD i 0).toNat : Int) = false).1]; simp, i, n, bg, true, now, out, rfl, rfl, by omega, by omega, by omega, by omega, hinv.hash (by omega) (by assumption) (by assumption) (by assumption)⟩
            | (have hwd := hinv.word (j := j) hrd hbg (by omega) (by assumption) (by assumption) (by assumption) hij hj hw (by assumption); exact ⟨_, by omega, j, n, bg, rk, _, out, rfl, rfl, by omega, by omega, by simp; omega, by omega, hwd.1⟩)
        · skip
          have h8' : rk = false ∧ blankB ((l.getD i 0).toNat : Int) = false := (rblank_f h8)
          clear h8
          refine AWp.skip ?_
          refine AWp.seq ?_
          refine AWp.seq (AWp.region ?_)
          refine AOps.read trivial rfl (by decide) (Reader.move (.inl rfl) (ok_const rfl) (v := .list false 5 (byteAVs l)) rfl) ?_
          refine AOps.read trivial rfl (by decide) (Reader.move (.inl rfl) (ok_const rfl) (v := .lit (.int .i64 (i : Int))) rfl) ?_
          refine AOps.read trivial rfl (by decide) (Reader.elemAddr (m := i) rfl Tryd.underlying22 sizeOf_5 rfl rfl rfl (e := .lit (.int .u8 ((l.getD i 0).toNat : Int))) (byteAVs_at (by first | omega | (simp; omega)))) ?_
          refine AOps.read trivial rfl (by decide) (Reader.loadE rfl Tryd.underlying5 sizeOf_5 rfl (v := .lit (.int .u8 ((l.getD i 0).toNat : Int))) rfl rfl) ?_
          refine AOps.read trivial rfl (by decide) (Reader.int rfl rfl rfl (r := .bool (((l.getD i 0).toNat : Int) == 35)) rfl) ?_
          refine AOps.nil ?_
          refine AWp.cond (b := ((l.getD i 0).toNat : Int) == 35) rfl (fun h9 => ?_) (fun h9 => ?_)
          · skip
            have h9' : ((l.getD i 0).toNat) = 35 := (by have hh := eq_of_beq h9; omega)
            clear h9
            refine AWp.seq (AWp.region ?_)
            refine AOps.read trivial rfl (by decide) (Reader.move (.inr rfl) (ok_const rfl) (v := .lit (.bool true)) rfl) ?_
            refine AOps.nil ?_
            refine AWp.exit ?_
            first
              | exact ⟨_, by simp; omega, i + 1, n + 1, i + 1, false, [], out ++ [now], rfl, rfl, by omega, by omega, by simp, by simp; omega, hinv.nl (by omega) (by assumption) (emit_some (by assumption))⟩
              | exact ⟨_, by simp; omega, i + 1, n + 1, i + 1, false, [], out, rfl, rfl, by omega, by omega, by simp, by omega, hinv.nl (by omega) (by assumption) (emit_none (by assumption))⟩
              | exact ⟨_, by omega, i + 1, n, bg, rk, now, out, rfl, rfl, by omega, by omega, by omega, by omega, hinv.skip hbg (by omega) (by assumption) (by assumption)⟩
              | exact ⟨_, by rw [(by assumption : rk = false ∧ blankB ((l.getD i 0).toNat : Int) = false).1]; simp, i, n, bg, true, now, out, rfl, rfl, by omega, by omega, by omega, by omega, hinv.hash (by omega) (by assumption) (by assumption) (by assumption)⟩
              | (have hwd := hinv.word (j := j) hrd hbg (by omega) (by assumption) (by assumption) (by assumption) hij hj hw (by assumption); exact ⟨_, by omega, j, n, bg, rk, _, out, rfl, rfl, by omega, by omega, by simp; omega, by omega, hwd.1⟩)
          · skip
            have h9' : ¬ (((l.getD i 0).toNat) = 35) := (by have hh := beq_eq_false_iff_ne.1 h9; omega)
            clear h9
            refine AWp.skip ?_
            refine AWp.seq (AWp.region ?_)
            refine AOps.read trivial rfl (by decide) (Reader.move (.inl rfl) (ok_const rfl) (v := .lit (.int .i64 (i : Int))) rfl) ?_
            refine AOps.read trivial rfl (by decide) (Reader.move (.inr rfl) (ok_const rfl) (v := .lit (.int .i64 (i : Int))) rfl) ?_
            refine AOps.nil ?_
            refine AWp.seq ?_
            refine AWp.block ?_
            refine AWp.loopE [0, 3, 4, 5, 6, 7, 8, 9] [] (fun m s => ∃ (j : Nat), m = l.length - j ∧ s = ⟨[(0, .list false 5 (byteAVs l)), (3, .list true 31 (out.map encL)), (4, .list true 33 (now.map encF)), (5, .lit (.int .i64 (n : Int))), (6, .lit (.int .i64 (bg : Int))), (7, .lit (.bool rk)), (8, .lit (.int .i64 (i : Int))), (9, .lit (.int .i64 (j : Int)))], [], M⟩ ∧ (i ≤ j) ∧ (j ≤ l.length) ∧ (∀ m, i ≤ m → m < j → decide (((l.getD m 0).toNat : Int) > 32) = true)) ?_ ?_
            · exact ⟨_, i, rfl, rfl, Nat.le_refl _, by omega, fun m h1 h2 => by omega⟩
            · rintro _ _ ⟨j, rfl, rfl, hij, hj, hw⟩
              refine AWp.seq ?_
              refine AWp.regionJ [77, 0, 3, 4, 5, 6, 7, 8, 9] [] (fun z => ⟨(77, .lit (.bool z)) :: [(0, .list false 5 (byteAVs l)), (3, .list true 31 (out.map encL)), (4, .list true 33 (now.map encF)), (5, .lit (.int .i64 (n : Int))), (6, .lit (.int .i64 (bg : Int))), (7, .lit (.bool rk)), (8, .lit (.int .i64 (i : Int))), (9, .lit (.int .i64 (j : Int)))], [], M⟩) (z := bif (decide ((j : Int) < (l.length : Int))) then (decide (((l.getD j 0).toNat : Int) > 32)) else false) ?_ ?_
              · skip
                refine AOps.read trivial rfl (by decide) (Reader.move (.inl rfl) (ok_const rfl) (v := .lit (.int .i64 (j : Int))) rfl) ?_
                refine AOps.read trivial rfl (by decide) (Reader.move (.inl rfl) (ok_const rfl) (v := .list false 5 (byteAVs l)) rfl) ?_
                refine AOps.read trivial rfl (by decide) (Reader.len' (xs := byteAVs l) rfl rfl rfl rfl Tryd.underlying22 rfl (m := l.length) (byteAVs_len _)) ?_
                refine AOps.read trivial rfl (by decide) (Reader.int rfl rfl rfl (r := .bool (decide ((j : Int) < (l.length : Int)))) rfl) ?_
                refine AOps.read trivial rfl (by decide) (Reader.move (.inl rfl) (ok_const rfl) (v := .lit (.bool (decide ((j : Int) < (l.length : Int))))) rfl) ?_
                refine AOps.splitJ (t := 71) (b := decide ((j : Int) < (l.length : Int))) (x := (decide (((l.getD j 0).toNat : Int) > 32))) (y := false) rfl (fun h10 => ?_) (fun h10 => ?_)
                · skip
                  have h10' : j < l.length := (by have hh := of_decide_eq_true h10; omega)
                  clear h10
                  refine AOps.read ⟨71, rfl, rfl⟩ rfl (by decide) (Reader.move (.inl rfl) (ok_const rfl) (v := .list false 5 (byteAVs l)) rfl) ?_
                  refine AOps.read ⟨71, rfl, rfl⟩ rfl (by decide) (Reader.move (.inl rfl) (ok_const rfl) (v := .lit (.int .i64 (j : Int))) rfl) ?_
                  refine AOps.read ⟨71, rfl, rfl⟩ rfl (by decide) (Reader.elemAddr (m := j) rfl Tryd.underlying22 sizeOf_5 rfl rfl rfl (e := .lit (.int .u8 ((l.getD j 0).toNat : Int))) (byteAVs_at (by first | omega | (simp; omega)))) ?_
                  refine AOps.read ⟨71, rfl, rfl⟩ rfl (by decide) (Reader.loadE rfl Tryd.underlying5 sizeOf_5 rfl (v := .lit (.int .u8 ((l.getD j 0).toNat : Int))) rfl rfl) ?_
                  refine AOps.read ⟨71, rfl, rfl⟩ rfl (by decide) (Reader.int rfl rfl rfl (r := .bool (decide (((l.getD j 0).toNat : Int) > 32))) rfl) ?_
                  refine AOps.read trivial rfl (by decide) (Reader.pick rfl (b := true) rfl (ok_const rfl) (ok_const rfl) (v := .lit (.bool (decide (((l.getD j 0).toNat : Int) > 32)))) rfl) ?_
                  exact AOps.nil rfl
                · skip
                  have h10' : ¬ (j < l.length) := (by have hh := of_decide_eq_false h10; omega)
                  clear h10
                  refine AOps.skip ⟨4, true, 71, _, rfl, rfl, rfl, by simp⟩ rfl (by decide) ?_
                  refine AOps.skip ⟨4, true, 71, _, rfl, rfl, rfl, by simp⟩ rfl (by decide) ?_
                  refine AOps.skip ⟨4, true, 71, _, rfl, rfl, rfl, by simp⟩ rfl (by decide) ?_
                  refine AOps.skip ⟨4, true, 71, _, rfl, rfl, rfl, by simp⟩ rfl (by decide) ?_
                  refine AOps.skip ⟨4, true, 71, _, rfl, rfl, rfl, by simp⟩ rfl (by decide) ?_
                  refine AOps.read trivial rfl (by decide) (Reader.pick rfl (b := false) rfl (ok_const rfl) (ok_const rfl) (v := .lit (.bool false)) rfl) ?_
                  exact AOps.nil rfl
              refine AWp.cond (b := bif (decide ((j : Int) < (l.length : Int))) then (decide (((l.getD j 0).toNat : Int) > 32)) else false) rfl (fun h11 => ?_) (fun h11 => ?_)
              · skip
                have h11' : ((j : Int) < (l.length : Int)) ∧ (decide (((l.getD j 0).toNat : Int) > 32)) = true := (and_t h11)
                clear h11
                refine AWp.skip ?_
                refine AWp.block ?_
                refine AWp.region ?_
                refine AOps.read trivial rfl (by decide) (Reader.move (.inl rfl) (ok_const rfl) (v := .lit (.int .i64 (j : Int))) rfl) ?_
                refine AOps.read trivial rfl (by decide) (Reader.sum rfl rfl rfl (m := (j : Int) + 1) (c := ((j + 1 : Nat) : Int)) rfl (by first | exact IntWalk.i64_in _ (by omega) | exact IntWalk.i64_in _ (by constructor <;> omega) | (simp only [];omega))) ?_
                refine AOps.read trivial rfl (by decide) (Reader.move (.inr rfl) (ok_const rfl) (v := .lit (.int .i64 ((j + 1 : Nat) : Int))) rfl) ?_
                refine AOps.nil ?_
                obtain ⟨hgo1, hgo2⟩ := (by assumption : ((j : Int) < (l.length : Int)) ∧ (decide (((l.getD j 0).toNat : Int) > 32)) = true)
                exact ⟨_, by omega, j + 1, rfl, rfl, by omega, by omega, ext_lt hw hgo2⟩
              · skip
                have h11' : (j : Int) < (l.length : Int) → (decide (((l.getD j 0).toNat : Int) > 32)) = false := (and_f h11)
                clear h11
                refine AWp.exit ?_
                refine AWp.seq (AWp.region ?_)
                refine AOps.steal trivial rfl (by decide) (by decide) (.inl rfl) (v := .list true 33 (now.map encF)) rfl ?_
                refine AOps.read trivial rfl (by decide) (Reader.move (.inl rfl) (ok_const rfl) (v := .list false 5 (byteAVs l)) rfl) ?_
                refine AOps.read trivial rfl (by decide) (Reader.move (.inl rfl) (ok_const rfl) (v := .lit (.int .i64 (i : Int))) rfl) ?_
                refine AOps.read trivial rfl (by decide) (Reader.move (.inl rfl) (ok_const rfl) (v := .lit (.int .i64 (j : Int))) rfl) ?_
                refine AOps.read trivial rfl (by decide) (Reader.piece (xs := (byteAVs l)) (i := i) (j := j) rfl Tryd.underlying22 sizeOf_5 rfl ⟨_, _, rfl, rfl⟩ ⟨_, _, rfl, rfl⟩ (by first | omega | (simp; omega)) (by rw [byteAVs_len]; omega) (ys := (byteAVs ((l.take j).drop i))) (by simp [byteAVs, List.map_take, List.map_drop])) ?_
                refine AOps.read trivial rfl (by decide) (Reader.ofBytes (l := (l.take j).drop i) rfl Tryd.underlying22 Tryd.underlying9 Tryd.underlying5 rfl) ?_
                refine AOps.read trivial rfl (by decide) (Reader.move (.inl rfl) (ok_const rfl) (v := .lit (.int .i64 (n : Int))) rfl) ?_
                refine AOps.read trivial rfl (by decide) (Reader.move (.inl rfl) (ok_const rfl) (v := .lit (.int .i64 (i : Int))) rfl) ?_
                refine AOps.read trivial rfl (by decide) (Reader.move (.inl rfl) (ok_const rfl) (v := .lit (.int .i64 (bg : Int))) rfl) ?_
                refine AOps.read trivial rfl (by decide) (Reader.sum rfl rfl rfl (m := (i : Int) - (bg : Int)) (c := ((i - bg : Nat) : Int)) rfl (by rw [IntWalk.i64_in _ (by omega)]; omega)) ?_
                refine AOps.read trivial rfl (by decide) (Reader.sum rfl rfl rfl (m := ((i - bg : Nat) : Int) + 1) (c := (((i - bg) + 1 : Nat) : Int)) rfl (by first | exact IntWalk.i64_in _ (by omega) | exact IntWalk.i64_in _ (by constructor <;> omega) | (simp only [];omega))) ?_
                refine AOps.read trivial rfl (by decide) (Reader.build (xs := [(0, .str ((l.take j).drop i)), (1, .lit (.int .i64 (n : Int))), (2, .lit (.int .i64 (((i - bg) + 1 : Nat) : Int)))]) (Es := []) (places := places_33) rfl Tryd.underlying33 (by refine ⟨rfl, fun j p x hp hx => ?_⟩; match j, hp, hx with | 0, hp, hx => cases hp; cases hx; exact ⟨rfl, .inl ⟨rfl, rfl⟩, rfl, rfl⟩ | 1, hp, hx => cases hp; cases hx; exact ⟨rfl, .inl ⟨rfl, rfl⟩, rfl, rfl⟩ | 2, hp, hx => cases hp; cases hx; exact ⟨rfl, .inl ⟨rfl, rfl⟩, rfl, rfl⟩ | _ + 3, hp, hx => cases hp) zero_33 rfl places_33_ok (cs := [.str ((l.take j).drop i), .lit (.int .i64 (n : Int)), .lit (.int .i64 (((i - bg) + 1 : Nat) : Int))]) rfl) ?_
                refine AOps.buildSlice (ys := [(0, .agg [.str ((l.take j).drop i), .lit (.int .i64 (n : Int)), .lit (.int .i64 (((i - bg) + 1 : Nat) : Int))])]) (Es := []) (cs := [.str ((l.take j).drop i), .lit (.int .i64 (n : Int)), .lit (.int .i64 (((i - bg) + 1 : Nat) : Int))]) (xs := [.agg [.str ((l.take j).drop i), .lit (.int .i64 (n : Int)), .lit (.int .i64 (((i - bg) + 1 : Nat) : Int))]]) trivial rfl (by decide) rfl Tryd.underlying31 Tryd.i33 rfl rfl rfl (by decide) (by refine ⟨rfl, fun j p x hp hx => ?_⟩; match j, hp, hx with | 0, hp, hx => cases hp; cases hx; exact ⟨rfl, .inl ⟨rfl, rfl⟩, rfl, rfl⟩ | _ + 1, hp, hx => cases hp) rfl rfl rfl (all_len rfl) (all_sc rfl) rfl ?_
                refine AOps.appL (bytes := 32) trivial rfl (by decide) (by decide) rfl rfl rfl rfl Tryd.underlying31 Tryd.underlying31 Tryd.i33 rfl rfl rfl rfl (xs := (now.map encF)) (ys := [.agg [.str ((l.take j).drop i), .lit (.int .i64 (n : Int)), .lit (.int .i64 (((i - bg) + 1 : Nat) : Int))]]) (zs := ((now ++ [Field.mk ((l.take j).drop i) n ((i - bg) + 1)]).map encF)) rfl rfl (m1 := now.length) (m2 := 1) (by simp) rfl (by first | omega | (unfold maxLen; omega)) (by omega) (by rw [List.map_append]; rfl) ?_
                refine AOps.steal trivial rfl (by decide) (by decide) (.inr rfl) (v := .list true 33 ((now ++ [Field.mk ((l.take j).drop i) n ((i - bg) + 1)]).map encF)) rfl ?_
                refine AOps.nil ?_
                refine AWp.region ?_
                refine AOps.read trivial rfl (by decide) (Reader.move (.inl rfl) (ok_const rfl) (v := .lit (.int .i64 (j : Int))) rfl) ?_
                refine AOps.read trivial rfl (by decide) (Reader.move (.inr rfl) (ok_const rfl) (v := .lit (.int .i64 (j : Int))) rfl) ?_
                refine AOps.nil ?_
                first
                  | exact ⟨_, by simp; omega, i + 1, n + 1, i + 1, false, [], out ++ [now], rfl, rfl, by omega, by omega, by simp, by simp; omega, hinv.nl (by omega) (by assumption) (emit_some (by assumption))⟩
                  | exact ⟨_, by simp; omega, i + 1, n + 1, i + 1, false, [], out, rfl, rfl, by omega, by omega, by simp, by omega, hinv.nl (by omega) (by assumption) (emit_none (by assumption))⟩
                  | exact ⟨_, by omega, i + 1, n, bg, rk, now, out, rfl, rfl, by omega, by omega, by omega, by omega, hinv.skip hbg (by omega) (by assumption) (by assumption)⟩
                  | exact ⟨_, by rw [(by assumption : rk = false ∧ blankB ((l.getD i 0).toNat : Int) = false).1]; simp, i, n, bg, true, now, out, rfl, rfl, by omega, by omega, by omega, by omega, hinv.hash (by omega) (by assumption) (by assumption) (by assumption)⟩
                  | (have hwd := hinv.word (j := j) hrd hbg (by omega) (by assumption) (by assumption) (by assumption) hij hj hw (by assumption); exact ⟨_, by omega, j, n, bg, rk, _, out, rfl, rfl, by omega, by omega, by simp; omega, by omega, hwd.1⟩)
    · skip
      have h1' : ¬ (i ≤ l.length) := (by have hh := of_decide_eq_false h1; omega)
      clear h1
      refine AWp.exit ?_
      refine AWp.seq (AWp.region ?_)
      refine AOps.steal trivial rfl (by decide) (by decide) (.inl rfl) (v := .list true 31 (out.map encL)) rfl ?_
      refine AOps.steal trivial rfl (by decide) (by decide) (.inr rfl) (v := .list true 31 (out.map encL)) rfl ?_
      refine AOps.nil ?_
      refine AWp.ret ?_
      exact ⟨.inl rfl, _, ResOf.one 2 (.list true 31 (out.map encL)) rfl rfl, ⟨by rw [RInv.done hinv (by assumption), rlex hrd], rfl⟩⟩

end Go.Proofs.YtkdpehhdbjkljaaDoor
