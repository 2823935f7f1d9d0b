/- Walks over abstract values, printed by my program av.py. -/
import Derived.Test.YtkdpehhdbjkljaaDoorLex7
import Derived.Test.YtkdpehhdbjkljaaDoorLexM2
namespace Go.Proofs.YtkdpehhdbjkljaaDoor
open Go.RowKit

structure Rem (b c : List UInt8) : Prop where
  lb : b.length ≤ 2000
  lc : c.length ≤ 200
  rb : readableB b = true
  rc : readableB c = true
theorem rem_of {b c : List UInt8} (h : (bif decide ((b.length : Int) > 2000) then true else (bif decide ((c.length : Int) > 200) then true else (bif !(readableB b) then true else !(readableB c)))) = false) : Rem b c := by
  by_cases h1 : (b.length : Int) > 2000
  · simp [h1] at h
  · by_cases h2 : (c.length : Int) > 200
    · simp [h1, h2] at h
    · simp [h1, h2] at h
      exact ⟨by omega, by omega, h.1, h.2⟩
theorem note_skip {c : List UInt8} {i : Nat} (hi : i < c.length) (h : ¬ (c.getD i 0).toNat ≠ 10) : noteOf (c.take i) = noteOf (c.take (i + 1)) := by
  have : c.getD i 0 = 10 := UInt8.toNat_inj.1 (show (c.getD i 0).toNat = 10 by omega)
  rw [take_snoc (d := 0) hi, noteOf, noteOf, List.filter_append, this]
  simp
theorem note_snoc {c : List UInt8} {i : Nat} (hi : i < c.length) (h : (c.getD i 0).toNat ≠ 10) : byteAVs (noteOf (c.take i)) ++ byteAVs [c.getD i 0] = byteAVs (noteOf (c.take (i + 1))) := by
  have : c.getD i 0 ≠ 10 := fun e => h (by rw [e]; rfl)
  have e2 : (List.filter (fun x => x != 10) [c.getD i 0]) = [c.getD i 0] := by
    rw [List.filter_cons, if_pos (by simpa using this)]; rfl
  rw [take_snoc (d := 0) hi, noteOf, noteOf, List.filter_append, e2]
  simp [byteAVs]
theorem expand_other {note b : List UInt8} {i : Nat} (hi : i < b.length) (h : ¬ (b.getD i 0).toNat = 10) : byteAVs (expand note (b.take i)) ++ byteAVs [b.getD i 0] = byteAVs (expand note (b.take (i + 1))) := by
  have : b.getD i 0 ≠ 10 := fun e => h (by rw [e]; rfl)
  rw [take_snoc (d := 0) hi, expand_snoc, if_neg this]
  simp [byteAVs]
theorem expand_nl {note b : List UInt8} {i : Nat} (hi : i < b.length) (h : (b.getD i 0).toNat = 10) : byteAVs ((expand note (b.take i) ++ [32, 35]) ++ note) ++ byteAVs [10] = byteAVs (expand note (b.take (i + 1))) := by
  have : b.getD i 0 = 10 := UInt8.toNat_inj.1 h
  rw [take_snoc (d := 0) hi, expand_snoc, if_pos this]
  simp [byteAVs]
theorem rem_final {note b : List UInt8} {i : Nat} (hi : b.length ≤ i) : byteAVs (expand note (b.take i) ++ [32, 35]) ++ byteAVs note = byteAVs (expand note b ++ 32 :: 35 :: note) := by
  rw [List.take_of_length_le hi]; simp [byteAVs]
theorem rem_len {b c : List UInt8} {i m : Nat} (hi : b.length ≤ i) (h : (bif decide ((m : Int) > 200) then true else decide (((expand (noteOf c) (b.take i)).length : Int) > 60000)) = false) : (expand (noteOf c) b).length ≤ 60000 := by
  rw [List.take_of_length_le hi] at h
  by_cases h1 : (m : Int) > 200
  · simp [h1] at h
  · simp [h1] at h; omega
theorem exp_le {b c : List UInt8} {i : Nat} (hb : b.length ≤ 2000) (hc : c.length ≤ 200) : (expand (noteOf c) (b.take i)).length ≤ 406000 := by
  have h1 := expand_len (noteOf c) (b.take i)
  have h2 := noteOf_len c
  have h3 : (b.take i).length ≤ 2000 := by simp; omega
  have h4 : (b.take i).length * ((noteOf c).length + 3) ≤ 2000 * 203 := Nat.mul_le_mul h3 (by omega)
  omega
theorem rem_ok {b c : List UInt8} (h : Rem b c) (hl : (expand (noteOf c) b).length ≤ 60000) : (bif errI b == 0 then (bif errI (expand (noteOf c) b ++ 32 :: 35 :: noteOf c) == 0 then decide (lexLines b = lexLines (expand (noteOf c) b ++ 32 :: 35 :: noteOf c)) else false) else false) = true := by
  obtain ⟨h1, h2⟩ := remarks h.rb h.rc h.lc hl
  rw [errI_e0, errI_e0, h.rb, h1, h2]
  simp

set_option maxRecDepth 20000 in
theorem LexRemarks_any (b c : List UInt8) (M : Nat → Option (List AV)) : ACall Tryd.prog 8 [.list false 5 (byteAVs b), .list false 5 (byteAVs c)] M (fun r M' => r = .lit (.bool true) ∧ M = M') := by
  refine ACall.of Tryd.func8 rfl (n := 115) rfl rfl rfl ?_
  refine AWp.seq (AWp.region ?_)
  refine AOps.read trivial rfl (by decide) (Reader.move (.inr rfl) (ok_const rfl) (v := .lit (.bool false)) rfl) ?_
  refine AOps.nil ?_
  refine AWp.seq ?_
  refine AWp.regionJ [35, 0, 1, 4] [] (fun z => ⟨(35, .lit (.bool z)) :: [(0, .list false 5 (byteAVs b)), (1, .list false 5 (byteAVs c)), (4, .lit (.bool false))], [], M⟩) (z := bif (decide ((b.length : Int) > 2000)) then true else (bif (decide ((c.length : Int) > 200)) then true else (bif (!(readableB b)) then true else (!(readableB c))))) ?_ ?_
  · skip
    refine AOps.call (args := []) trivial rfl (by decide) rfl rfl Tryd.call14 (args_ok rfl) rfl (by intro j x v hx hv; match j, hx, hv with  | _ + 0, hx, hv => cases hx) (awake_any M) ?_
    rintro _ _ ⟨rfl, rfl⟩
    refine AOps.read trivial rfl (by decide) (Reader.not (b := true) rfl rfl) ?_
    refine AOps.read trivial rfl (by decide) (Reader.move (.inl rfl) (ok_const rfl) (v := .lit (.bool false)) rfl) ?_
    refine AOps.read ⟨16, rfl, rfl⟩ rfl (by decide) (Reader.move (.inl rfl) (ok_const rfl) (v := .list false 5 (byteAVs b)) rfl) ?_
    refine AOps.read ⟨16, rfl, rfl⟩ rfl (by decide) (Reader.len' (xs := byteAVs b) rfl rfl rfl rfl Tryd.underlying22 rfl (m := b.length) (byteAVs_len _)) ?_
    refine AOps.read ⟨16, rfl, rfl⟩ rfl (by decide) (Reader.int rfl rfl rfl (r := .bool (decide ((b.length : Int) > 2000))) rfl) ?_
    refine AOps.read trivial rfl (by decide) (Reader.pick rfl (b := false) rfl (ok_const rfl) (ok_const rfl) (v := .lit (.bool (decide ((b.length : Int) > 2000)))) rfl) ?_
    refine AOps.read trivial rfl (by decide) (Reader.move (.inl rfl) (ok_const rfl) (v := .lit (.bool (decide ((b.length : Int) > 2000)))) rfl) ?_
    refine AOps.splitJ (t := 21) (b := decide ((b.length : Int) > 2000)) (x := true) (y := (bif (decide ((c.length : Int) > 200)) then true else (bif (!(readableB b)) then true else (!(readableB c))))) rfl (fun h1 => ?_) (fun h1 => ?_)
    · skip
      have h1' : b.length > 2000 := (by have hh := of_decide_eq_true h1; omega)
      clear h1
      refine AOps.skip ⟨7, false, 21, _, rfl, rfl, rfl, by simp⟩ rfl (by decide) ?_
      refine AOps.skip ⟨7, false, 21, _, rfl, rfl, rfl, by simp⟩ rfl (by decide) ?_
      refine AOps.skip ⟨7, false, 21, _, rfl, rfl, rfl, by simp⟩ rfl (by decide) ?_
      refine AOps.read trivial rfl (by decide) (Reader.pick rfl (b := true) rfl (ok_const rfl) (ok_const rfl) (v := .lit (.bool true)) rfl) ?_
      refine AOps.read trivial rfl (by decide) (Reader.move (.inl rfl) (ok_const rfl) (v := .lit (.bool true)) rfl) ?_
      refine AOps.skip ⟨12, false, 26, _, rfl, rfl, rfl, by simp⟩ rfl (by decide) ?_
      refine AOps.skip ⟨12, false, 26, _, rfl, rfl, rfl, by simp⟩ rfl (by decide) ?_
      refine AOps.skip ⟨12, false, 26, _, rfl, rfl, rfl, by simp⟩ rfl (by decide) ?_
      refine AOps.read trivial rfl (by decide) (Reader.pick rfl (b := true) rfl (ok_const rfl) (ok_const rfl) (v := .lit (.bool true)) rfl) ?_
      refine AOps.read trivial rfl (by decide) (Reader.move (.inl rfl) (ok_const rfl) (v := .lit (.bool true)) rfl) ?_
      refine AOps.skip ⟨17, false, 31, _, rfl, rfl, rfl, by simp⟩ rfl (by decide) ?_
      refine AOps.skip ⟨17, false, 31, _, rfl, rfl, rfl, by simp⟩ rfl (by decide) ?_
      refine AOps.skip ⟨17, false, 31, _, rfl, rfl, rfl, by simp⟩ rfl (by decide) ?_
      refine AOps.read trivial rfl (by decide) (Reader.pick rfl (b := true) rfl (ok_const rfl) (ok_const rfl) (v := .lit (.bool true)) rfl) ?_
      exact AOps.nil rfl
    · skip
      have h1' : ¬ (b.length > 2000) := (by have hh := of_decide_eq_false h1; omega)
      clear h1
      refine AOps.read ⟨21, rfl, rfl⟩ rfl (by decide) (Reader.move (.inl rfl) (ok_const rfl) (v := .list false 5 (byteAVs c)) rfl) ?_
      refine AOps.read ⟨21, rfl, rfl⟩ rfl (by decide) (Reader.len' (xs := byteAVs c) rfl rfl rfl rfl Tryd.underlying22 rfl (m := c.length) (byteAVs_len _)) ?_
      refine AOps.read ⟨21, rfl, rfl⟩ rfl (by decide) (Reader.int rfl rfl rfl (r := .bool (decide ((c.length : Int) > 200))) rfl) ?_
      refine AOps.read trivial rfl (by decide) (Reader.pick rfl (b := false) rfl (ok_const rfl) (ok_const rfl) (v := .lit (.bool (decide ((c.length : Int) > 200)))) rfl) ?_
      refine AOps.read trivial rfl (by decide) (Reader.move (.inl rfl) (ok_const rfl) (v := .lit (.bool (decide ((c.length : Int) > 200)))) rfl) ?_
      refine AOps.splitJ (t := 26) (b := decide ((c.length : Int) > 200)) (x := true) (y := (bif (!(readableB b)) then true else (!(readableB c)))) rfl (fun h2 => ?_) (fun h2 => ?_)
      · skip
        have h2' : c.length > 200 := (by have hh := of_decide_eq_true h2; omega)
        clear h2
        refine AOps.skip ⟨12, false, 26, _, rfl, rfl, rfl, by simp⟩ rfl (by decide) ?_
        refine AOps.skip ⟨12, false, 26, _, rfl, rfl, rfl, by simp⟩ rfl (by decide) ?_
        refine AOps.skip ⟨12, false, 26, _, rfl, rfl, rfl, by simp⟩ rfl (by decide) ?_
        refine AOps.read trivial rfl (by decide) (Reader.pick rfl (b := true) rfl (ok_const rfl) (ok_const rfl) (v := .lit (.bool true)) rfl) ?_
        refine AOps.read trivial rfl (by decide) (Reader.move (.inl rfl) (ok_const rfl) (v := .lit (.bool true)) rfl) ?_
        refine AOps.skip ⟨17, false, 31, _, rfl, rfl, rfl, by simp⟩ rfl (by decide) ?_
        refine AOps.skip ⟨17, false, 31, _, rfl, rfl, rfl, by simp⟩ rfl (by decide) ?_
        refine AOps.skip ⟨17, false, 31, _, rfl, rfl, rfl, by simp⟩ rfl (by decide) ?_
        refine AOps.read trivial rfl (by decide) (Reader.pick rfl (b := true) rfl (ok_const rfl) (ok_const rfl) (v := .lit (.bool true)) rfl) ?_
        exact AOps.nil rfl
      · skip
        have h2' : ¬ (c.length > 200) := (by have hh := of_decide_eq_false h2; omega)
        clear h2
        refine AOps.read ⟨26, rfl, rfl⟩ rfl (by decide) (Reader.move (.inl rfl) (ok_const rfl) (v := .list false 5 (byteAVs b)) rfl) ?_
        refine AOps.call (args := [.list false 5 (byteAVs b)]) ⟨26, rfl, rfl⟩ rfl (by decide) rfl rfl Tryd.call16 (args_ok rfl) rfl (by intro j x v hx hv; match j, hx, hv with | 0, hx, hv => cases hx; cases hv; exact .inl ⟨rfl, rfl⟩ | _ + 1, hx, hv => cases hx) (rreadable_any b (by omega) M) ?_
        rintro _ _ ⟨rfl, rfl⟩
        refine AOps.read ⟨26, rfl, rfl⟩ rfl (by decide) (Reader.not (b := readableB b) rfl rfl) ?_
        refine AOps.read trivial rfl (by decide) (Reader.pick rfl (b := false) rfl (ok_const rfl) (ok_const rfl) (v := .lit (.bool (!(readableB b)))) rfl) ?_
        refine AOps.read trivial rfl (by decide) (Reader.move (.inl rfl) (ok_const rfl) (v := .lit (.bool (!(readableB b)))) rfl) ?_
        refine AOps.splitJ (t := 31) (b := !(readableB b)) (x := true) (y := (!(readableB c))) rfl (fun h3 => ?_) (fun h3 => ?_)
        · skip
          have h3' : readableB b = false := (bnot_t h3)
          clear h3
          refine AOps.skip ⟨17, false, 31, _, rfl, rfl, rfl, by simp⟩ rfl (by decide) ?_
          refine AOps.skip ⟨17, false, 31, _, rfl, rfl, rfl, by simp⟩ rfl (by decide) ?_
          refine AOps.skip ⟨17, false, 31, _, rfl, rfl, rfl, by simp⟩ rfl (by decide) ?_
          refine AOps.read trivial rfl (by decide) (Reader.pick rfl (b := true) rfl (ok_const rfl) (ok_const rfl) (v := .lit (.bool true)) rfl) ?_
          exact AOps.nil rfl
        · skip
          have h3' : readableB b = true := (bnot_f h3)
          clear h3
          refine AOps.read ⟨31, rfl, rfl⟩ rfl (by decide) (Reader.move (.inl rfl) (ok_const rfl) (v := .list false 5 (byteAVs c)) rfl) ?_
          refine AOps.call (args := [.list false 5 (byteAVs c)]) ⟨31, rfl, rfl⟩ rfl (by decide) rfl rfl Tryd.call16 (args_ok rfl) rfl (by intro j x v hx hv; match j, hx, hv with | 0, hx, hv => cases hx; cases hv; exact .inl ⟨rfl, rfl⟩ | _ + 1, hx, hv => cases hx) (rreadable_any c (by omega) M) ?_
          rintro _ _ ⟨rfl, rfl⟩
          refine AOps.read ⟨31, rfl, rfl⟩ rfl (by decide) (Reader.not (b := readableB c) rfl rfl) ?_
          refine AOps.read trivial rfl (by decide) (Reader.pick rfl (b := false) rfl (ok_const rfl) (ok_const rfl) (v := .lit (.bool (!(readableB c)))) rfl) ?_
          exact AOps.nil rfl
  refine AWp.cond (b := bif (decide ((b.length : Int) > 2000)) then true else (bif (decide ((c.length : Int) > 200)) then true else (bif (!(readableB b)) then true else (!(readableB c))))) rfl (fun h4 => ?_) (fun h4 => ?_)
  · skip
    have h4' : True := trivial
    clear h4
    refine AWp.seq (AWp.region ?_)
    refine AOps.call (args := []) trivial rfl (by decide) rfl rfl Tryd.call14 (args_ok rfl) rfl (by intro j x v hx hv; match j, hx, hv with  | _ + 0, hx, hv => cases hx) (awake_any M) ?_
    rintro _ _ ⟨rfl, rfl⟩
    refine AOps.read trivial rfl (by decide) (Reader.move (.inr rfl) (ok_const rfl) (v := .lit (.bool true)) rfl) ?_
    refine AOps.nil ?_
    refine AWp.ret ?_
    exact ⟨.inl rfl, _, ResOf.one 4 (.lit (.bool true)) rfl rfl, ⟨rfl, rfl⟩⟩
  · skip
    have h4' : Rem b c := (rem_of h4)
    clear h4
    refine AWp.skip ?_
    refine AWp.seq (AWp.region ?_)
    refine AOps.nilList 5 trivial rfl (by decide) (.inl rfl) ?_
    refine AOps.nil ?_
    refine AWp.seq ?_
    refine AWp.seq (AWp.region ?_)
    refine AOps.read trivial rfl (by decide) (Reader.move (.inr rfl) (ok_const rfl) (v := .lit (.int .i64 0)) rfl) ?_
    refine AOps.nil ?_
    refine AWp.block ?_
    refine AWp.loopE [0, 1, 5, 6] [] (fun m s => ∃ (i : Nat), m = c.length - i ∧ s = ⟨[(0, .list false 5 (byteAVs b)), (1, .list false 5 (byteAVs c)), (5, .list true 5 (byteAVs (noteOf (c.take i)))), (6, .lit (.int .i64 (i : Int)))], [], M⟩ ∧ (i ≤ c.length) ∧ (Rem b c)) ?_ ?_
    · exact ⟨_, 0, rfl, rfl, Nat.zero_le _, by assumption⟩
    · rintro _ _ ⟨i, rfl, rfl, hi, hbc⟩
      have hcc := hbc.lc
      have hnl := noteOf_len (c.take i)
      have htl : (c.take i).length ≤ c.length := List.length_take_le' _ _
      refine AWp.seq ?_
      refine AWp.seq (AWp.region ?_)
      refine AOps.read trivial rfl (by decide) (Reader.move (.inl rfl) (ok_const rfl) (v := .lit (.int .i64 (i : Int))) rfl) ?_
      refine AOps.read trivial rfl (by decide) (Reader.move (.inl rfl) (ok_const rfl) (v := .list false 5 (byteAVs c)) rfl) ?_
      refine AOps.read trivial rfl (by decide) (Reader.len' (xs := byteAVs c) rfl rfl rfl rfl Tryd.underlying22 rfl (m := c.length) (byteAVs_len _)) ?_
      refine AOps.read trivial rfl (by decide) (Reader.int rfl rfl rfl (r := .bool (decide ((i : Int) < (c.length : Int)))) rfl) ?_
      refine AOps.nil ?_
      refine AWp.cond (b := decide ((i : Int) < (c.length : Int))) rfl (fun h5 => ?_) (fun h5 => ?_)
      · skip
        have h5' : i < c.length := (by have hh := of_decide_eq_true h5; omega)
        clear h5
        refine AWp.skip ?_
        refine AWp.seq ?_
        refine AWp.block ?_
        refine AWp.seq (AWp.region ?_)
        refine AOps.read trivial rfl (by decide) (Reader.move (.inl rfl) (ok_const rfl) (v := .list false 5 (byteAVs c)) rfl) ?_
        refine AOps.read trivial rfl (by decide) (Reader.move (.inl rfl) (ok_const rfl) (v := .lit (.int .i64 (i : Int))) rfl) ?_
        refine AOps.read trivial rfl (by decide) (Reader.elemAddr (m := i) rfl Tryd.underlying22 sizeOf_5 rfl rfl rfl (e := .lit (.int .u8 ((c.getD i 0).toNat : Int))) (byteAVs_at (by first | omega | (simp; omega)))) ?_
        refine AOps.read trivial rfl (by decide) (Reader.loadE rfl Tryd.underlying5 sizeOf_5 rfl (v := .lit (.int .u8 ((c.getD i 0).toNat : Int))) rfl rfl) ?_
        refine AOps.read trivial rfl (by decide) (Reader.int rfl rfl rfl (r := .bool (((c.getD i 0).toNat : Int) != 10)) rfl) ?_
        refine AOps.nil ?_
        refine AWp.cond (b := ((c.getD i 0).toNat : Int) != 10) rfl (fun h6 => ?_) (fun h6 => ?_)
        · skip
          have h6' : ((c.getD i 0).toNat) ≠ 10 := (by have hh := bne_iff_ne.1 h6; omega)
          clear h6
          refine AWp.region ?_
          refine AOps.steal trivial rfl (by decide) (by decide) (.inl rfl) (v := .list true 5 (byteAVs (noteOf (c.take i)))) rfl ?_
          refine AOps.read trivial rfl (by decide) (Reader.move (.inl rfl) (ok_const rfl) (v := .list false 5 (byteAVs c)) rfl) ?_
          refine AOps.read trivial rfl (by decide) (Reader.move (.inl rfl) (ok_const rfl) (v := .lit (.int .i64 (i : Int))) rfl) ?_
          refine AOps.read trivial rfl (by decide) (Reader.elemAddr (m := i) rfl Tryd.underlying22 sizeOf_5 rfl rfl rfl (e := .lit (.int .u8 ((c.getD i 0).toNat : Int))) (byteAVs_at (by first | omega | (simp; omega)))) ?_
          refine AOps.read trivial rfl (by decide) (Reader.loadE rfl Tryd.underlying5 sizeOf_5 rfl (v := .lit (.int .u8 ((c.getD i 0).toNat : Int))) rfl rfl) ?_
          refine AOps.buildSlice (ys := [(0, .lit (.int .u8 ((c.getD i 0).toNat : Int)))]) (Es := []) (cs := [.lit (.int .u8 ((c.getD i 0).toNat : Int))]) (xs := (byteAVs [c.getD i 0])) trivial rfl (by decide) rfl Tryd.underlying22 Tryd.i5 rfl rfl rfl (by decide) (by refine ⟨rfl, fun j p x hp hx => ?_⟩; match j, hp, hx with | 0, hp, hx => cases hp; cases hx; exact ⟨rfl, .inl ⟨rfl, rfl⟩, rfl, rfl⟩ | _ + 1, hp, hx => cases hp) rfl rfl rfl (all_len rfl) (all_sc rfl) rfl ?_
          refine AOps.appL (bytes := 1) trivial rfl (by decide) (by decide) rfl rfl rfl rfl Tryd.underlying22 Tryd.underlying22 Tryd.i5 rfl rfl rfl rfl (xs := (byteAVs (noteOf (c.take i)))) (ys := (byteAVs [c.getD i 0])) (zs := (byteAVs (noteOf (c.take (i + 1))))) rfl rfl (m1 := ((noteOf (c.take i)).length)) (m2 := 1) (byteAVs_len _) rfl (by first | omega | (unfold maxLen; omega)) (by omega) (note_snoc (by omega) (by assumption)) ?_
          refine AOps.steal trivial rfl (by decide) (by decide) (.inr rfl) (v := .list true 5 (byteAVs (noteOf (c.take (i + 1))))) rfl ?_
          refine AOps.nil ?_
          refine AWp.region ?_
          refine AOps.read trivial rfl (by decide) (Reader.move (.inl rfl) (ok_const rfl) (v := .lit (.int .i64 (i : Int))) rfl) ?_
          refine AOps.read trivial rfl (by decide) (Reader.sum rfl rfl rfl (m := (i : Int) + 1) (c := ((i + 1 : Nat) : Int)) rfl (by first | exact IntWalk.i64_in _ (by omega) | exact IntWalk.i64_in _ (by constructor <;> omega) | (simp only [];omega))) ?_
          refine AOps.read trivial rfl (by decide) (Reader.move (.inr rfl) (ok_const rfl) (v := .lit (.int .i64 ((i + 1 : Nat) : Int))) rfl) ?_
          refine AOps.nil ?_
          have hcc := hbc.lc
          first | exact ⟨_, by omega, i + 1, rfl, rfl, by omega, hbc⟩ | exact ⟨_, by omega, i + 1, rfl, (by rw [← note_skip (c := c) (i := i) (by omega) (by assumption)]; rfl), by omega, hbc⟩
        · skip
          have h6' : ¬ (((c.getD i 0).toNat) ≠ 10) := (by have hh := bne_eq_false_iff_eq.1 h6; omega)
          clear h6
          refine AWp.skip ?_
          refine AWp.region ?_
          refine AOps.read trivial rfl (by decide) (Reader.move (.inl rfl) (ok_const rfl) (v := .lit (.int .i64 (i : Int))) rfl) ?_
          refine AOps.read trivial rfl (by decide) (Reader.sum rfl rfl rfl (m := (i : Int) + 1) (c := ((i + 1 : Nat) : Int)) rfl (by first | exact IntWalk.i64_in _ (by omega) | exact IntWalk.i64_in _ (by constructor <;> omega) | (simp only [];omega))) ?_
          refine AOps.read trivial rfl (by decide) (Reader.move (.inr rfl) (ok_const rfl) (v := .lit (.int .i64 ((i + 1 : Nat) : Int))) rfl) ?_
          refine AOps.nil ?_
          have hcc := hbc.lc
          first | exact ⟨_, by omega, i + 1, rfl, rfl, by omega, hbc⟩ | exact ⟨_, by omega, i + 1, rfl, (by rw [← note_skip (c := c) (i := i) (by omega) (by assumption)]; rfl), by omega, hbc⟩
      · skip
        have h5' : ¬ (i < c.length) := (by have hh := of_decide_eq_false h5; omega)
        clear h5
        refine AWp.exit ?_
        refine AWp.seq (AWp.region ?_)
        refine AOps.nilList 5 trivial rfl (by decide) (.inl rfl) ?_
        refine AOps.nil ?_
        refine AWp.seq (AWp.region ?_)
        refine AOps.read trivial rfl (by decide) (Reader.move (.inr rfl) (ok_const rfl) (v := .lit (.int .i64 1)) rfl) ?_
        refine AOps.nil ?_
        refine AWp.seq ?_
        refine AWp.seq (AWp.region ?_)
        refine AOps.read trivial rfl (by decide) (Reader.move (.inr rfl) (ok_const rfl) (v := .lit (.int .i64 0)) rfl) ?_
        refine AOps.nil ?_
        refine AWp.block ?_
        refine AWp.loopE [0, 1, 5, 7, 8, 9] [] (fun m s => ∃ (i q : Nat), m = b.length - i ∧ s = ⟨[(0, .list false 5 (byteAVs b)), (1, .list false 5 (byteAVs c)), (5, .list true 5 (byteAVs (noteOf c))), (7, .list true 5 (byteAVs (expand (noteOf c) (b.take i)))), (8, .lit (.int .i64 (q : Int))), (9, .lit (.int .i64 (i : Int)))], [], M⟩ ∧ (i ≤ b.length) ∧ (q ≤ i + 1) ∧ (Rem b c)) ?_ ?_
        · exact ⟨_, 0, 1, rfl, (by rw [List.take_of_length_le (by omega)]; rfl), Nat.zero_le _, by omega, hbc⟩
        · rintro _ _ ⟨i, q, rfl, rfl, hi, hq, hbc⟩
          have hcc := hbc.lc
          have hbb := hbc.lb
          have hnl := noteOf_len c
          have hel := exp_le (b := b) (c := c) (i := i) hbb hcc
          refine AWp.seq ?_
          refine AWp.seq (AWp.region ?_)
          refine AOps.read trivial rfl (by decide) (Reader.move (.inl rfl) (ok_const rfl) (v := .lit (.int .i64 (i : Int))) rfl) ?_
          refine AOps.read trivial rfl (by decide) (Reader.move (.inl rfl) (ok_const rfl) (v := .list false 5 (byteAVs b)) rfl) ?_
          refine AOps.read trivial rfl (by decide) (Reader.len' (xs := byteAVs b) rfl rfl rfl rfl Tryd.underlying22 rfl (m := b.length) (byteAVs_len _)) ?_
          refine AOps.read trivial rfl (by decide) (Reader.int rfl rfl rfl (r := .bool (decide ((i : Int) < (b.length : Int)))) rfl) ?_
          refine AOps.nil ?_
          refine AWp.cond (b := decide ((i : Int) < (b.length : Int))) rfl (fun h7 => ?_) (fun h7 => ?_)
          · skip
            have h7' : i < b.length := (by have hh := of_decide_eq_true h7; omega)
            clear h7
            refine AWp.skip ?_
            refine AWp.seq ?_
            refine AWp.block ?_
            refine AWp.seq (AWp.region ?_)
            refine AOps.read trivial rfl (by decide) (Reader.move (.inl rfl) (ok_const rfl) (v := .list false 5 (byteAVs b)) rfl) ?_
            refine AOps.read trivial rfl (by decide) (Reader.move (.inl rfl) (ok_const rfl) (v := .lit (.int .i64 (i : Int))) rfl) ?_
            refine AOps.read trivial rfl (by decide) (Reader.elemAddr (m := i) rfl Tryd.underlying22 sizeOf_5 rfl rfl rfl (e := .lit (.int .u8 ((b.getD i 0).toNat : Int))) (byteAVs_at (by first | omega | (simp; omega)))) ?_
            refine AOps.read trivial rfl (by decide) (Reader.loadE rfl Tryd.underlying5 sizeOf_5 rfl (v := .lit (.int .u8 ((b.getD i 0).toNat : Int))) rfl rfl) ?_
            refine AOps.read trivial rfl (by decide) (Reader.int rfl rfl rfl (r := .bool (((b.getD i 0).toNat : Int) == 10)) rfl) ?_
            refine AOps.nil ?_
            refine AWp.cond (b := ((b.getD i 0).toNat : Int) == 10) rfl (fun h8 => ?_) (fun h8 => ?_)
            · skip
              have h8' : ((b.getD i 0).toNat) = 10 := (by have hh := eq_of_beq h8; omega)
              clear h8
              refine AWp.seq (AWp.region ?_)
              refine AOps.steal trivial rfl (by decide) (by decide) (.inl rfl) (v := .list true 5 (byteAVs (expand (noteOf c) (b.take i)))) rfl ?_
              refine AOps.buildSlice (ys := [(0, .lit (.int .u8 32)), (1, .lit (.int .u8 35))]) (Es := []) (cs := [.lit (.int .u8 32), .lit (.int .u8 35)]) (xs := (byteAVs [32, 35])) trivial rfl (by decide) rfl Tryd.underlying22 Tryd.i5 rfl rfl rfl (by decide) (by refine ⟨rfl, fun j p x hp hx => ?_⟩; match j, hp, hx with | 0, hp, hx => cases hp; cases hx; exact ⟨rfl, .inl ⟨rfl, rfl⟩, rfl, rfl⟩ | 1, hp, hx => cases hp; cases hx; exact ⟨rfl, .inl ⟨rfl, rfl⟩, rfl, rfl⟩ | _ + 2, hp, hx => cases hp) rfl rfl rfl (all_len rfl) (all_sc rfl) rfl ?_
              refine AOps.appL (bytes := 1) trivial rfl (by decide) (by decide) rfl rfl rfl rfl Tryd.underlying22 Tryd.underlying22 Tryd.i5 rfl rfl rfl rfl (xs := (byteAVs (expand (noteOf c) (b.take i)))) (ys := (byteAVs [32, 35])) (zs := (byteAVs ((expand (noteOf c) (b.take i)) ++ [32, 35]))) rfl rfl (m1 := ((expand (noteOf c) (b.take i)).length)) (m2 := 2) (byteAVs_len _) rfl (by first | omega | (unfold maxLen; omega)) (by omega) (by simp [byteAVs]) ?_
              refine AOps.read trivial rfl (by decide) (Reader.move (.inl rfl) (ok_const rfl) (v := .list false 5 (byteAVs (noteOf c))) rfl) ?_
              refine AOps.appL (bytes := 1) trivial rfl (by decide) (by decide) rfl rfl rfl rfl Tryd.underlying22 Tryd.underlying22 Tryd.i5 rfl rfl rfl rfl (xs := (byteAVs ((expand (noteOf c) (b.take i)) ++ [32, 35]))) (ys := (byteAVs (noteOf c))) (zs := (byteAVs (((expand (noteOf c) (b.take i)) ++ [32, 35]) ++ (noteOf c)))) rfl rfl (m1 := ((expand (noteOf c) (b.take i)).length + 2)) (m2 := ((noteOf c).length)) (by simp only [byteAVs_len, List.length_append, List.length_cons, List.length_nil]) (byteAVs_len _) (by first | omega | (unfold maxLen; omega)) (by omega) (by simp [byteAVs]) ?_
              refine AOps.buildSlice (ys := [(0, .lit (.int .u8 10))]) (Es := []) (cs := [.lit (.int .u8 10)]) (xs := (byteAVs [10])) trivial rfl (by decide) rfl Tryd.underlying22 Tryd.i5 rfl rfl rfl (by decide) (by refine ⟨rfl, fun j p x hp hx => ?_⟩; match j, hp, hx with | 0, hp, hx => cases hp; cases hx; exact ⟨rfl, .inl ⟨rfl, rfl⟩, rfl, rfl⟩ | _ + 1, hp, hx => cases hp) rfl rfl rfl (all_len rfl) (all_sc rfl) rfl ?_
              refine AOps.appL (bytes := 1) trivial rfl (by decide) (by decide) rfl rfl rfl rfl Tryd.underlying22 Tryd.underlying22 Tryd.i5 rfl rfl rfl rfl (xs := (byteAVs (((expand (noteOf c) (b.take i)) ++ [32, 35]) ++ (noteOf c)))) (ys := (byteAVs [10])) (zs := (byteAVs (expand (noteOf c) (b.take (i + 1))))) rfl rfl (m1 := ((expand (noteOf c) (b.take i)).length + 2 + (noteOf c).length)) (m2 := 1) (by simp only [byteAVs_len, List.length_append, List.length_cons, List.length_nil]) rfl (by first | omega | (unfold maxLen; omega)) (by omega) (expand_nl (by omega) (by assumption)) ?_
              refine AOps.steal trivial rfl (by decide) (by decide) (.inr rfl) (v := .list true 5 (byteAVs (expand (noteOf c) (b.take (i + 1))))) rfl ?_
              refine AOps.nil ?_
              refine AWp.region ?_
              refine AOps.read trivial rfl (by decide) (Reader.move (.inl rfl) (ok_const rfl) (v := .lit (.int .i64 (q : Int))) rfl) ?_
              refine AOps.read trivial rfl (by decide) (Reader.sum rfl rfl rfl (m := (q : Int) + 1) (c := ((q + 1 : Nat) : Int)) rfl (by first | exact IntWalk.i64_in _ (by omega) | exact IntWalk.i64_in _ (by constructor <;> omega) | (simp only [];omega))) ?_
              refine AOps.read trivial rfl (by decide) (Reader.move (.inr rfl) (ok_const rfl) (v := .lit (.int .i64 ((q + 1 : Nat) : Int))) rfl) ?_
              refine AOps.nil ?_
              refine AWp.region ?_
              refine AOps.read trivial rfl (by decide) (Reader.move (.inl rfl) (ok_const rfl) (v := .lit (.int .i64 (i : Int))) rfl) ?_
              refine AOps.read trivial rfl (by decide) (Reader.sum rfl rfl rfl (m := (i : Int) + 1) (c := ((i + 1 : Nat) : Int)) rfl (by first | exact IntWalk.i64_in _ (by omega) | exact IntWalk.i64_in _ (by constructor <;> omega) | (simp only [];omega))) ?_
              refine AOps.read trivial rfl (by decide) (Reader.move (.inr rfl) (ok_const rfl) (v := .lit (.int .i64 ((i + 1 : Nat) : Int))) rfl) ?_
              refine AOps.nil ?_
              first | exact ⟨_, by omega, i + 1, q, rfl, rfl, by omega, by omega, hbc⟩ | exact ⟨_, by omega, i + 1, q + 1, rfl, rfl, by omega, by omega, hbc⟩
            · skip
              have h8' : ¬ (((b.getD i 0).toNat) = 10) := (by have hh := beq_eq_false_iff_ne.1 h8; omega)
              clear h8
              refine AWp.region ?_
              refine AOps.steal trivial rfl (by decide) (by decide) (.inl rfl) (v := .list true 5 (byteAVs (expand (noteOf c) (b.take i)))) rfl ?_
              refine AOps.read trivial rfl (by decide) (Reader.move (.inl rfl) (ok_const rfl) (v := .list false 5 (byteAVs b)) rfl) ?_
              refine AOps.read trivial rfl (by decide) (Reader.move (.inl rfl) (ok_const rfl) (v := .lit (.int .i64 (i : Int))) rfl) ?_
              refine AOps.read trivial rfl (by decide) (Reader.elemAddr (m := i) rfl Tryd.underlying22 sizeOf_5 rfl rfl rfl (e := .lit (.int .u8 ((b.getD i 0).toNat : Int))) (byteAVs_at (by first | omega | (simp; omega)))) ?_
              refine AOps.read trivial rfl (by decide) (Reader.loadE rfl Tryd.underlying5 sizeOf_5 rfl (v := .lit (.int .u8 ((b.getD i 0).toNat : Int))) rfl rfl) ?_
              refine AOps.buildSlice (ys := [(0, .lit (.int .u8 ((b.getD i 0).toNat : Int)))]) (Es := []) (cs := [.lit (.int .u8 ((b.getD i 0).toNat : Int))]) (xs := (byteAVs [b.getD i 0])) trivial rfl (by decide) rfl Tryd.underlying22 Tryd.i5 rfl rfl rfl (by decide) (by refine ⟨rfl, fun j p x hp hx => ?_⟩; match j, hp, hx with | 0, hp, hx => cases hp; cases hx; exact ⟨rfl, .inl ⟨rfl, rfl⟩, rfl, rfl⟩ | _ + 1, hp, hx => cases hp) rfl rfl rfl (all_len rfl) (all_sc rfl) rfl ?_
              refine AOps.appL (bytes := 1) trivial rfl (by decide) (by decide) rfl rfl rfl rfl Tryd.underlying22 Tryd.underlying22 Tryd.i5 rfl rfl rfl rfl (xs := (byteAVs (expand (noteOf c) (b.take i)))) (ys := (byteAVs [b.getD i 0])) (zs := (byteAVs (expand (noteOf c) (b.take (i + 1))))) rfl rfl (m1 := ((expand (noteOf c) (b.take i)).length)) (m2 := 1) (byteAVs_len _) rfl (by first | omega | (unfold maxLen; omega)) (by omega) (expand_other (by omega) (by assumption)) ?_
              refine AOps.steal trivial rfl (by decide) (by decide) (.inr rfl) (v := .list true 5 (byteAVs (expand (noteOf c) (b.take (i + 1))))) rfl ?_
              refine AOps.nil ?_
              refine AWp.region ?_
              refine AOps.read trivial rfl (by decide) (Reader.move (.inl rfl) (ok_const rfl) (v := .lit (.int .i64 (i : Int))) rfl) ?_
              refine AOps.read trivial rfl (by decide) (Reader.sum rfl rfl rfl (m := (i : Int) + 1) (c := ((i + 1 : Nat) : Int)) rfl (by first | exact IntWalk.i64_in _ (by omega) | exact IntWalk.i64_in _ (by constructor <;> omega) | (simp only [];omega))) ?_
              refine AOps.read trivial rfl (by decide) (Reader.move (.inr rfl) (ok_const rfl) (v := .lit (.int .i64 ((i + 1 : Nat) : Int))) rfl) ?_
              refine AOps.nil ?_
              first | exact ⟨_, by omega, i + 1, q, rfl, rfl, by omega, by omega, hbc⟩ | exact ⟨_, by omega, i + 1, q + 1, rfl, rfl, by omega, by omega, hbc⟩
          · skip
            have h7' : ¬ (i < b.length) := (by have hh := of_decide_eq_false h7; omega)
            clear h7
            refine AWp.exit ?_
            refine AWp.seq ?_
            refine AWp.regionJ [88, 0, 1, 5, 7, 8, 9, 58] [] (fun z => ⟨(88, .lit (.bool z)) :: [(0, .list false 5 (byteAVs b)), (1, .list false 5 (byteAVs c)), (5, .list true 5 (byteAVs (noteOf c))), (7, .list true 5 (byteAVs (expand (noteOf c) (b.take i)))), (8, .lit (.int .i64 (q : Int))), (9, .lit (.int .i64 (i : Int))), (58, .lit (.bool (decide ((i : Int) < (b.length : Int)))))], [], M⟩) (z := bif (decide ((q : Int) > 200)) then true else (decide ((((expand (noteOf c) (b.take i)).length : Nat) : Int) > 60000))) ?_ ?_
            · skip
              refine AOps.read trivial rfl (by decide) (Reader.move (.inl rfl) (ok_const rfl) (v := .lit (.int .i64 (q : Int))) rfl) ?_
              refine AOps.read trivial rfl (by decide) (Reader.int rfl rfl rfl (r := .bool (decide ((q : Int) > 200))) rfl) ?_
              refine AOps.read trivial rfl (by decide) (Reader.move (.inl rfl) (ok_const rfl) (v := .lit (.bool (decide ((q : Int) > 200)))) rfl) ?_
              refine AOps.splitJ (t := 84) (b := decide ((q : Int) > 200)) (x := true) (y := (decide ((((expand (noteOf c) (b.take i)).length : Nat) : Int) > 60000))) rfl (fun h9 => ?_) (fun h9 => ?_)
              · skip
                have h9' : q > 200 := (by have hh := of_decide_eq_true h9; omega)
                clear h9
                refine AOps.skip ⟨2, false, 84, _, rfl, rfl, rfl, by simp⟩ rfl (by decide) ?_
                refine AOps.skip ⟨2, false, 84, _, rfl, rfl, rfl, by simp⟩ rfl (by decide) ?_
                refine AOps.skip ⟨2, false, 84, _, rfl, rfl, rfl, by simp⟩ rfl (by decide) ?_
                refine AOps.read trivial rfl (by decide) (Reader.pick rfl (b := true) rfl (ok_const rfl) (ok_const rfl) (v := .lit (.bool true)) rfl) ?_
                exact AOps.nil rfl
              · skip
                have h9' : ¬ (q > 200) := (by have hh := of_decide_eq_false h9; omega)
                clear h9
                refine AOps.read ⟨84, rfl, rfl⟩ rfl (by decide) (Reader.move (.inl rfl) (ok_const rfl) (v := .list false 5 (byteAVs (expand (noteOf c) (b.take i)))) rfl) ?_
                refine AOps.read ⟨84, rfl, rfl⟩ rfl (by decide) (Reader.len' (xs := byteAVs (expand (noteOf c) (b.take i))) rfl rfl rfl rfl Tryd.underlying22 rfl (m := (expand (noteOf c) (b.take i)).length) (byteAVs_len _)) ?_
                refine AOps.read ⟨84, rfl, rfl⟩ rfl (by decide) (Reader.int rfl rfl rfl (r := .bool (decide ((((expand (noteOf c) (b.take i)).length : Nat) : Int) > 60000))) rfl) ?_
                refine AOps.read trivial rfl (by decide) (Reader.pick rfl (b := false) rfl (ok_const rfl) (ok_const rfl) (v := .lit (.bool (decide ((((expand (noteOf c) (b.take i)).length : Nat) : Int) > 60000)))) rfl) ?_
                exact AOps.nil rfl
            refine AWp.cond (b := bif (decide ((q : Int) > 200)) then true else (decide ((((expand (noteOf c) (b.take i)).length : Nat) : Int) > 60000))) rfl (fun h10 => ?_) (fun h10 => ?_)
            · skip
              have h10' : True := trivial
              clear h10
              refine AWp.seq (AWp.region ?_)
              refine AOps.read trivial rfl (by decide) (Reader.move (.inr rfl) (ok_const rfl) (v := .lit (.bool true)) rfl) ?_
              refine AOps.nil ?_
              refine AWp.ret ?_
              exact ⟨.inl rfl, _, ResOf.one 4 (.lit (.bool true)) rfl rfl, ⟨rfl, rfl⟩⟩
            · skip
              have h10' : (expand (noteOf c) b).length ≤ 60000 := (rem_len (by omega) h10)
              clear h10
              refine AWp.skip ?_
              refine AWp.seq (AWp.region ?_)
              refine AOps.steal trivial rfl (by decide) (by decide) (.inl rfl) (v := .list true 5 (byteAVs (expand (noteOf c) (b.take i)))) rfl ?_
              refine AOps.buildSlice (ys := [(0, .lit (.int .u8 32)), (1, .lit (.int .u8 35))]) (Es := []) (cs := [.lit (.int .u8 32), .lit (.int .u8 35)]) (xs := (byteAVs [32, 35])) trivial rfl (by decide) rfl Tryd.underlying22 Tryd.i5 rfl rfl rfl (by decide) (by refine ⟨rfl, fun j p x hp hx => ?_⟩; match j, hp, hx with | 0, hp, hx => cases hp; cases hx; exact ⟨rfl, .inl ⟨rfl, rfl⟩, rfl, rfl⟩ | 1, hp, hx => cases hp; cases hx; exact ⟨rfl, .inl ⟨rfl, rfl⟩, rfl, rfl⟩ | _ + 2, hp, hx => cases hp) rfl rfl rfl (all_len rfl) (all_sc rfl) rfl ?_
              refine AOps.appL (bytes := 1) trivial rfl (by decide) (by decide) rfl rfl rfl rfl Tryd.underlying22 Tryd.underlying22 Tryd.i5 rfl rfl rfl rfl (xs := (byteAVs (expand (noteOf c) (b.take i)))) (ys := (byteAVs [32, 35])) (zs := (byteAVs ((expand (noteOf c) (b.take i)) ++ [32, 35]))) rfl rfl (m1 := ((expand (noteOf c) (b.take i)).length)) (m2 := 2) (byteAVs_len _) rfl (by first | omega | (unfold maxLen; omega)) (by omega) (by simp [byteAVs]) ?_
              refine AOps.read trivial rfl (by decide) (Reader.move (.inl rfl) (ok_const rfl) (v := .list false 5 (byteAVs (noteOf c))) rfl) ?_
              refine AOps.appL (bytes := 1) trivial rfl (by decide) (by decide) rfl rfl rfl rfl Tryd.underlying22 Tryd.underlying22 Tryd.i5 rfl rfl rfl rfl (xs := (byteAVs ((expand (noteOf c) (b.take i)) ++ [32, 35]))) (ys := (byteAVs (noteOf c))) (zs := (byteAVs (expand (noteOf c) b ++ 32 :: 35 :: noteOf c))) rfl rfl (m1 := ((expand (noteOf c) (b.take i)).length + 2)) (m2 := ((noteOf c).length)) (by simp only [byteAVs_len, List.length_append, List.length_cons, List.length_nil]) (byteAVs_len _) (by first | omega | (unfold maxLen; omega)) (by omega) (rem_final (by omega)) ?_
              refine AOps.steal trivial rfl (by decide) (by decide) (.inr rfl) (v := .list true 5 (byteAVs (expand (noteOf c) b ++ 32 :: 35 :: noteOf c))) rfl ?_
              refine AOps.nil ?_
              refine AWp.seq (AWp.region ?_)
              refine AOps.read trivial rfl (by decide) (Reader.move (.inl rfl) (ok_const rfl) (v := .list false 5 (byteAVs b)) rfl) ?_
              refine AOps.call (args := [.list false 5 (byteAVs b)]) trivial rfl (by decide) rfl rfl Tryd.call15 (args_ok rfl) rfl (by intro j x v hx hv; match j, hx, hv with | 0, hx, hv => cases hx; cases hv; exact .inl ⟨rfl, rfl⟩ | _ + 1, hx, hv => cases hx) (lines_any b (by first | assumption | omega | (simp only [List.length_append, List.length_cons, List.length_nil]; omega)) M) ?_
              rintro _ _ ⟨rfl, rfl⟩
              refine AOps.read trivial rfl (by decide) (Reader.move (.inl rfl) (ok_const rfl) (v := .tuple [.list false 31 ((lexLines b).map encL), .lit (.int .i64 (errI b))]) rfl) ?_
              refine AOps.read trivial rfl (by decide) (Reader.extract (v := .list false 31 ((lexLines b).map encL)) rfl rfl rfl rfl) ?_
              refine AOps.read trivial rfl (by decide) (Reader.extract (v := .lit (.int .i64 (errI b))) rfl rfl rfl rfl) ?_
              refine AOps.read trivial rfl (by decide) (Reader.move (.inr rfl) (ok_const rfl) (v := .list false 31 ((lexLines b).map encL)) rfl) ?_
              refine AOps.read trivial rfl (by decide) (Reader.move (.inr rfl) (ok_const rfl) (v := .lit (.int .i64 (errI b))) rfl) ?_
              refine AOps.nil ?_
              refine AWp.seq (AWp.region ?_)
              refine AOps.read trivial rfl (by decide) (Reader.move (.inl rfl) (ok_const rfl) (v := .list false 5 (byteAVs (expand (noteOf c) b ++ 32 :: 35 :: noteOf c))) rfl) ?_
              refine AOps.call (args := [.list false 5 (byteAVs (expand (noteOf c) b ++ 32 :: 35 :: noteOf c))]) trivial rfl (by decide) rfl rfl Tryd.call15 (args_ok rfl) rfl (by intro j x v hx hv; match j, hx, hv with | 0, hx, hv => cases hx; cases hv; exact .inl ⟨rfl, rfl⟩ | _ + 1, hx, hv => cases hx) (lines_any (expand (noteOf c) b ++ 32 :: 35 :: noteOf c) (by first | assumption | omega | (simp only [List.length_append, List.length_cons, List.length_nil]; omega)) M) ?_
              rintro _ _ ⟨rfl, rfl⟩
              refine AOps.read trivial rfl (by decide) (Reader.move (.inl rfl) (ok_const rfl) (v := .tuple [.list false 31 ((lexLines (expand (noteOf c) b ++ 32 :: 35 :: noteOf c)).map encL), .lit (.int .i64 (errI (expand (noteOf c) b ++ 32 :: 35 :: noteOf c)))]) rfl) ?_
              refine AOps.read trivial rfl (by decide) (Reader.extract (v := .list false 31 ((lexLines (expand (noteOf c) b ++ 32 :: 35 :: noteOf c)).map encL)) rfl rfl rfl rfl) ?_
              refine AOps.read trivial rfl (by decide) (Reader.extract (v := .lit (.int .i64 (errI (expand (noteOf c) b ++ 32 :: 35 :: noteOf c)))) rfl rfl rfl rfl) ?_
              refine AOps.read trivial rfl (by decide) (Reader.move (.inr rfl) (ok_const rfl) (v := .list false 31 ((lexLines (expand (noteOf c) b ++ 32 :: 35 :: noteOf c)).map encL)) rfl) ?_
              refine AOps.read trivial rfl (by decide) (Reader.move (.inr rfl) (ok_const rfl) (v := .lit (.int .i64 (errI (expand (noteOf c) b ++ 32 :: 35 :: noteOf c)))) rfl) ?_
              refine AOps.nil ?_
              refine AWp.regionJ [4, 88, 0, 1, 5, 7, 8, 9, 58, 10, 11, 12, 13] [] (fun z => ⟨(4, .lit (.bool z)) :: [(88, .lit (.bool (bif (decide ((q : Int) > 200)) then true else (decide ((((expand (noteOf c) (b.take i)).length : Nat) : Int) > 60000))))), (0, .list false 5 (byteAVs b)), (1, .list false 5 (byteAVs c)), (5, .list true 5 (byteAVs (noteOf c))), (7, .list true 5 (byteAVs (expand (noteOf c) b ++ 32 :: 35 :: noteOf c))), (8, .lit (.int .i64 (q : Int))), (9, .lit (.int .i64 (i : Int))), (58, .lit (.bool (decide ((i : Int) < (b.length : Int))))), (10, .list false 31 ((lexLines b).map encL)), (11, .lit (.int .i64 (errI b))), (12, .list false 31 ((lexLines (expand (noteOf c) b ++ 32 :: 35 :: noteOf c)).map encL)), (13, .lit (.int .i64 (errI (expand (noteOf c) b ++ 32 :: 35 :: noteOf c))))], [], M⟩) (z := bif ((errI b) == 0) then (bif ((errI (expand (noteOf c) b ++ 32 :: 35 :: noteOf c)) == 0) then (decide ((lexLines b) = (lexLines (expand (noteOf c) b ++ 32 :: 35 :: noteOf c)))) else false) else false) ?_ ?_
              · skip
                refine AOps.read trivial rfl (by decide) (Reader.move (.inl rfl) (ok_const rfl) (v := .lit (.int .i64 (errI b))) rfl) ?_
                refine AOps.read trivial rfl (by decide) (Reader.int rfl rfl rfl (r := .bool ((errI b) == 0)) rfl) ?_
                refine AOps.read trivial rfl (by decide) (Reader.move (.inl rfl) (ok_const rfl) (v := .lit (.bool ((errI b) == 0))) rfl) ?_
                refine AOps.splitJ (t := 106) (b := (errI b) == 0) (x := (bif ((errI (expand (noteOf c) b ++ 32 :: 35 :: noteOf c)) == 0) then (decide ((lexLines b) = (lexLines (expand (noteOf c) b ++ 32 :: 35 :: noteOf c)))) else false)) (y := false) rfl (fun h11 => ?_) (fun h11 => ?_)
                · skip
                  have h11' : (errI b) = 0 := (by have hh := eq_of_beq h11; omega)
                  clear h11
                  refine AOps.read ⟨106, rfl, rfl⟩ rfl (by decide) (Reader.move (.inl rfl) (ok_const rfl) (v := .lit (.int .i64 (errI (expand (noteOf c) b ++ 32 :: 35 :: noteOf c)))) rfl) ?_
                  refine AOps.read ⟨106, rfl, rfl⟩ rfl (by decide) (Reader.int rfl rfl rfl (r := .bool ((errI (expand (noteOf c) b ++ 32 :: 35 :: noteOf c)) == 0)) rfl) ?_
                  refine AOps.read trivial rfl (by decide) (Reader.pick rfl (b := true) rfl (ok_const rfl) (ok_const rfl) (v := .lit (.bool ((errI (expand (noteOf c) b ++ 32 :: 35 :: noteOf c)) == 0))) rfl) ?_
                  refine AOps.read trivial rfl (by decide) (Reader.move (.inl rfl) (ok_const rfl) (v := .lit (.bool ((errI (expand (noteOf c) b ++ 32 :: 35 :: noteOf c)) == 0))) rfl) ?_
                  refine AOps.splitJ (t := 110) (b := (errI (expand (noteOf c) b ++ 32 :: 35 :: noteOf c)) == 0) (x := (decide ((lexLines b) = (lexLines (expand (noteOf c) b ++ 32 :: 35 :: noteOf c))))) (y := false) rfl (fun h12 => ?_) (fun h12 => ?_)
                  · skip
                    have h12' : (errI (expand (noteOf c) b ++ 32 :: 35 :: noteOf c)) = 0 := (by have hh := eq_of_beq h12; omega)
                    clear h12
                    refine AOps.read ⟨110, rfl, rfl⟩ rfl (by decide) (Reader.move (.inl rfl) (ok_const rfl) (v := .list false 31 ((lexLines b).map encL)) rfl) ?_
                    refine AOps.read ⟨110, rfl, rfl⟩ rfl (by decide) (Reader.move (.inl rfl) (ok_const rfl) (v := .list false 31 ((lexLines (expand (noteOf c) b ++ 32 :: 35 :: noteOf c)).map encL)) rfl) ?_
                    refine AOps.call (args := [.list false 31 ((lexLines b).map encL), .list false 31 ((lexLines (expand (noteOf c) b ++ 32 :: 35 :: noteOf c)).map encL)]) ⟨110, rfl, rfl⟩ rfl (by decide) rfl rfl Tryd.call17 (args_ok rfl) rfl (by intro j x v hx hv; match j, hx, hv with | 0, hx, hv => cases hx; cases hv; exact .inl ⟨rfl, rfl⟩ | 1, hx, hv => cases hx; cases hv; exact .inl ⟨rfl, rfl⟩ | _ + 2, hx, hv => cases hx) (same_any (lexLines b) (lexLines (expand (noteOf c) b ++ 32 :: 35 :: noteOf c)) (lex_small b) (lex_small (expand (noteOf c) b ++ 32 :: 35 :: noteOf c)) M) ?_
                    rintro _ _ ⟨rfl, rfl⟩
                    refine AOps.read trivial rfl (by decide) (Reader.pick rfl (b := true) rfl (ok_const rfl) (ok_const rfl) (v := .lit (.bool (decide ((lexLines b) = (lexLines (expand (noteOf c) b ++ 32 :: 35 :: noteOf c)))))) rfl) ?_
                    refine AOps.read trivial rfl (by decide) (Reader.move (.inr rfl) (ok_const rfl) (v := .lit (.bool (decide ((lexLines b) = (lexLines (expand (noteOf c) b ++ 32 :: 35 :: noteOf c)))))) rfl) ?_
                    exact AOps.nil rfl
                  · skip
                    have h12' : ¬ ((errI (expand (noteOf c) b ++ 32 :: 35 :: noteOf c)) = 0) := (by have hh := beq_eq_false_iff_ne.1 h12; omega)
                    clear h12
                    refine AOps.skip ⟨6, true, 110, _, rfl, rfl, rfl, by simp⟩ rfl (by decide) ?_
                    refine AOps.skip ⟨6, true, 110, _, rfl, rfl, rfl, by simp⟩ rfl (by decide) ?_
                    refine AOps.skip ⟨6, true, 110, _, rfl, rfl, rfl, by simp⟩ rfl (by decide) ?_
                    refine AOps.read trivial rfl (by decide) (Reader.pick rfl (b := false) rfl (ok_const rfl) (ok_const rfl) (v := .lit (.bool false)) rfl) ?_
                    refine AOps.read trivial rfl (by decide) (Reader.move (.inr rfl) (ok_const rfl) (v := .lit (.bool false)) rfl) ?_
                    exact AOps.nil rfl
                · skip
                  have h11' : ¬ ((errI b) = 0) := (by have hh := beq_eq_false_iff_ne.1 h11; omega)
                  clear h11
                  refine AOps.skip ⟨2, true, 106, _, rfl, rfl, rfl, by simp⟩ rfl (by decide) ?_
                  refine AOps.skip ⟨2, true, 106, _, rfl, rfl, rfl, by simp⟩ rfl (by decide) ?_
                  refine AOps.read trivial rfl (by decide) (Reader.pick rfl (b := false) rfl (ok_const rfl) (ok_const rfl) (v := .lit (.bool false)) rfl) ?_
                  refine AOps.read trivial rfl (by decide) (Reader.move (.inl rfl) (ok_const rfl) (v := .lit (.bool false)) rfl) ?_
                  refine AOps.skip ⟨6, true, 110, _, rfl, rfl, rfl, by simp⟩ rfl (by decide) ?_
                  refine AOps.skip ⟨6, true, 110, _, rfl, rfl, rfl, by simp⟩ rfl (by decide) ?_
                  refine AOps.skip ⟨6, true, 110, _, rfl, rfl, rfl, by simp⟩ rfl (by decide) ?_
                  refine AOps.read trivial rfl (by decide) (Reader.pick rfl (b := false) rfl (ok_const rfl) (ok_const rfl) (v := .lit (.bool false)) rfl) ?_
                  refine AOps.read trivial rfl (by decide) (Reader.move (.inr rfl) (ok_const rfl) (v := .lit (.bool false)) rfl) ?_
                  exact AOps.nil rfl
              refine AWp.ret ?_
              exact ⟨.inl rfl, _, ResOf.one 4 (.lit (.bool (bif ((errI b) == 0) then (bif ((errI (expand (noteOf c) b ++ 32 :: 35 :: noteOf c)) == 0) then (decide ((lexLines b) = (lexLines (expand (noteOf c) b ++ 32 :: 35 :: noteOf c)))) else false) else false))) rfl rfl, ⟨congrArg (fun b => AV.lit (.bool b)) (rem_ok hbc (by assumption)), rfl⟩⟩

end Go.Proofs.YtkdpehhdbjkljaaDoor
