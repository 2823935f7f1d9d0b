/- Walks over abstract values, printed by my program av.py. -/
import Derived.Test.YtkdpehhdbjkljaaDoorLex5
namespace Go.Proofs.YtkdpehhdbjkljaaDoor
open Go.RowKit

theorem lexFrom_small (ls : List (List UInt8)) : ∀ n, (lexFrom n ls).length ≤ ls.length := by
  induction ls with
  | nil => intro n; exact Nat.zero_le _
  | cons s r ih =>
    intro n
    have := ih (n + 1)
    rw [lexFrom]
    split <;> simp <;> omega
theorem scan_small : ∀ (s : List UInt8) (n i : Nat), (scan n i s).length ≤ s.length := by
  intro s
  induction h : s.length using Nat.strongRecOn generalizing s with
  | _ m ih =>
    intro n i
    cases s with
    | nil => rw [scan_nil]; exact Nat.zero_le _
    | cons c r =>
      subst h
      cases hb : blankB c.toNat with
      | true =>
        rw [scan_blank hb]
        have := ih r.length (by simp) r rfl n (i + 1)
        simp; omega
      | false =>
        by_cases h35 : c.toNat = 35
        · rw [scan_hash hb h35]; exact Nat.zero_le _
        · rw [scan_word hb h35]
          have hl := (List.dropWhile_sublist (l := r) (fun c => !blankB c.toNat)).length_le
          have := ih _ (by simp; omega) (r.dropWhile (fun c => !blankB c.toNat)) rfl n (i + 1 + (r.takeWhile (fun c => !blankB c.toNat)).length)
          simp only [List.length_cons]; omega
theorem lexFrom_at_small (ls : List (List UInt8)) (N : Nat) (h : ∀ s ∈ ls, s.length ≤ N) : ∀ n, ∀ fs ∈ lexFrom n ls, fs.length ≤ N := by
  induction ls with
  | nil => intro n fs hf; simp [lexFrom] at hf
  | cons s r ih =>
    intro n fs hf
    rw [lexFrom] at hf
    have hr := ih (fun s hs => h s (List.mem_cons_of_mem _ hs)) (n + 1)
    split at hf
    · exact hr fs hf
    · rcases List.mem_cons.1 hf with h1 | h1
      · subst h1; exact Nat.le_trans (scan_small s n 0) (h s (List.mem_cons_self ..))
      · exact hr fs h1
theorem lex_lens (l : List UInt8) : (lexLines l).length ≤ 65537 ∧ ∀ fs ∈ lexLines l, fs.length ≤ 65536 := by
  unfold lexLines
  split
  · rename_i h
    have hl := readable_len h
    refine ⟨Nat.le_trans (lexFrom_small _ _) (by have := splitNl_le l; omega), lexFrom_at_small _ _ (fun s hs => ?_) 1⟩
    obtain ⟨k, hk⟩ := List.getElem?_of_mem hs
    have := splitNl_mem l k s hk
    omega
  · exact ⟨Nat.zero_le _, fun fs h => by cases h⟩
theorem lex_small (l : List UInt8) : Small (lexLines l) := by
  obtain ⟨h1, h2⟩ := lex_lens l
  refine ⟨by omega, fun i => ?_⟩
  rw [List.getD_eq_getElem?_getD]
  cases h : (lexLines l)[i]? with
  | none => exact Nat.zero_le _
  | some fs => have := h2 fs (List.mem_of_getElem? h); show fs.length ≤ _; omega

set_option maxRecDepth 20000 in
theorem LexLines_any (b : List UInt8) (M : Nat → Option (List AV)) : ACall Tryd.prog 3 [.list false 5 (byteAVs b)] M (fun r M' => r = .lit (.bool true) ∧ M = M') := by
  refine ACall.of Tryd.func3 rfl (n := 36) rfl rfl rfl ?_
  refine AWp.seq (AWp.region ?_)
  refine AOps.read trivial rfl (by decide) (Reader.move (.inr rfl) (ok_const rfl) (v := .lit (.bool false)) rfl) ?_
  refine AOps.nil ?_
  refine AWp.seq ?_
  refine AWp.regionJ [11, 0, 2] [] (fun z => ⟨(11, .lit (.bool z)) :: [(0, .list false 5 (byteAVs b)), (2, .lit (.bool false))], [], M⟩) (z := decide ((b.length : Int) > 70000)) ?_ ?_
  · skip
    refine AOps.call (args := []) trivial rfl (by decide) rfl rfl Tryd.call14 (args_ok rfl) rfl (by intro j x v hx hv; match j, hx, hv with  | _ + 0, hx, hv => cases hx) (awake_any M) ?_
    rintro _ _ ⟨rfl, rfl⟩
    refine AOps.read trivial rfl (by decide) (Reader.not (b := true) rfl rfl) ?_
    refine AOps.read trivial rfl (by decide) (Reader.move (.inl rfl) (ok_const rfl) (v := .lit (.bool false)) rfl) ?_
    refine AOps.read ⟨7, rfl, rfl⟩ rfl (by decide) (Reader.move (.inl rfl) (ok_const rfl) (v := .list false 5 (byteAVs b)) rfl) ?_
    refine AOps.read ⟨7, rfl, rfl⟩ rfl (by decide) (Reader.len' (xs := byteAVs b) rfl rfl rfl rfl Tryd.underlying22 rfl (m := b.length) (byteAVs_len _)) ?_
    refine AOps.read ⟨7, rfl, rfl⟩ rfl (by decide) (Reader.int rfl rfl rfl (r := .bool (decide ((b.length : Int) > 70000))) rfl) ?_
    refine AOps.read trivial rfl (by decide) (Reader.pick rfl (b := false) rfl (ok_const rfl) (ok_const rfl) (v := .lit (.bool (decide ((b.length : Int) > 70000)))) rfl) ?_
    exact AOps.nil rfl
  refine AWp.cond (b := decide ((b.length : Int) > 70000)) rfl (fun h1 => ?_) (fun h1 => ?_)
  · skip
    have h1' : (b.length : Int) > 70000 := (of_decide_eq_true h1)
    clear h1
    refine AWp.seq (AWp.region ?_)
    refine AOps.call (args := []) trivial rfl (by decide) rfl rfl Tryd.call14 (args_ok rfl) rfl (by intro j x v hx hv; match j, hx, hv with  | _ + 0, hx, hv => cases hx) (awake_any M) ?_
    rintro _ _ ⟨rfl, rfl⟩
    refine AOps.read trivial rfl (by decide) (Reader.move (.inr rfl) (ok_const rfl) (v := .lit (.bool true)) rfl) ?_
    refine AOps.nil ?_
    refine AWp.ret ?_
    exact ⟨.inl rfl, _, ResOf.one 2 (.lit (.bool true)) rfl rfl, ⟨rfl, rfl⟩⟩
  · skip
    have h1' : ¬ ((b.length : Int) > 70000) := (of_decide_eq_false h1)
    clear h1
    refine AWp.skip ?_
    refine AWp.seq (AWp.region ?_)
    refine AOps.read trivial rfl (by decide) (Reader.move (.inl rfl) (ok_const rfl) (v := .list false 5 (byteAVs b)) rfl) ?_
    refine AOps.call (args := [.list false 5 (byteAVs b)]) trivial rfl (by decide) rfl rfl Tryd.call15 (args_ok rfl) rfl (by intro j x v hx hv; match j, hx, hv with | 0, hx, hv => cases hx; cases hv; exact .inl ⟨rfl, rfl⟩ | _ + 1, hx, hv => cases hx) (lines_any b (by first | assumption | omega | decide | (simp only [List.length_append, List.length_cons, List.length_nil]; omega)) M) ?_
    rintro _ _ ⟨rfl, rfl⟩
    refine AOps.read trivial rfl (by decide) (Reader.move (.inl rfl) (ok_const rfl) (v := .tuple [.list false 31 ((lexLines b).map encL), .lit (.int .i64 (errI b))]) rfl) ?_
    refine AOps.read trivial rfl (by decide) (Reader.extract (v := .list false 31 ((lexLines b).map encL)) rfl rfl rfl rfl) ?_
    refine AOps.read trivial rfl (by decide) (Reader.extract (v := .lit (.int .i64 (errI b))) rfl rfl rfl rfl) ?_
    refine AOps.read trivial rfl (by decide) (Reader.move (.inr rfl) (ok_const rfl) (v := .list false 31 ((lexLines b).map encL)) rfl) ?_
    refine AOps.read trivial rfl (by decide) (Reader.move (.inr rfl) (ok_const rfl) (v := .lit (.int .i64 (errI b))) rfl) ?_
    refine AOps.nil ?_
    refine AWp.seq ?_
    refine AWp.seq (AWp.region ?_)
    refine AOps.read trivial rfl (by decide) (Reader.move (.inl rfl) (ok_const rfl) (v := .list false 5 (byteAVs b)) rfl) ?_
    refine AOps.call (args := [.list false 5 (byteAVs b)]) trivial rfl (by decide) rfl rfl Tryd.call16 (args_ok rfl) rfl (by intro j x v hx hv; match j, hx, hv with | 0, hx, hv => cases hx; cases hv; exact .inl ⟨rfl, rfl⟩ | _ + 1, hx, hv => cases hx) (rreadable_any b (by first | assumption | omega) M) ?_
    rintro _ _ ⟨rfl, rfl⟩
    refine AOps.read trivial rfl (by decide) (Reader.not (b := readableB b) rfl rfl) ?_
    refine AOps.nil ?_
    refine AWp.cond (b := !(readableB b)) rfl (fun h2 => ?_) (fun h2 => ?_)
    · skip
      have h2' : readableB b = false := (bnot_t h2)
      clear h2
      refine AWp.regionJ [2, 11, 0, 3, 4, 20] [] (fun z => ⟨(2, .lit (.bool z)) :: [(11, .lit (.bool (decide ((b.length : Int) > 70000)))), (0, .list false 5 (byteAVs b)), (3, .list false 31 ((lexLines b).map encL)), (4, .lit (.int .i64 (errI b))), (20, .lit (.bool (!(readableB b))))], [], M⟩) (z := bif ((errI b) == 2) then ((((lexLines b).length : Nat) : Int) == 0) else false) ?_ ?_
      · skip
        refine AOps.read trivial rfl (by decide) (Reader.move (.inl rfl) (ok_const rfl) (v := .lit (.int .i64 (errI b))) rfl) ?_
        refine AOps.read trivial rfl (by decide) (Reader.int rfl rfl rfl (r := .bool ((errI b) == 2)) rfl) ?_
        refine AOps.read trivial rfl (by decide) (Reader.move (.inl rfl) (ok_const rfl) (v := .lit (.bool ((errI b) == 2))) rfl) ?_
        refine AOps.splitJ (t := 23) (b := (errI b) == 2) (x := ((((lexLines b).length : Nat) : Int) == 0)) (y := false) rfl (fun h3 => ?_) (fun h3 => ?_)
        · skip
          have h3' : (errI b) = 2 := (by have hh := eq_of_beq h3; omega)
          clear h3
          refine AOps.read ⟨23, rfl, rfl⟩ rfl (by decide) (Reader.move (.inl rfl) (ok_const rfl) (v := .list false 31 ((lexLines b).map encL)) rfl) ?_
          refine AOps.read ⟨23, rfl, rfl⟩ rfl (by decide) (Reader.len' (xs := (lexLines b).map encL) rfl rfl rfl rfl Tryd.underlying24 rfl (m := (lexLines b).length) (by simp)) ?_
          refine AOps.read ⟨23, rfl, rfl⟩ rfl (by decide) (Reader.int rfl rfl rfl (r := .bool ((((lexLines b).length : Nat) : Int) == 0)) rfl) ?_
          refine AOps.read trivial rfl (by decide) (Reader.pick rfl (b := true) rfl (ok_const rfl) (ok_const rfl) (v := .lit (.bool ((((lexLines b).length : Nat) : Int) == 0))) rfl) ?_
          refine AOps.read trivial rfl (by decide) (Reader.move (.inr rfl) (ok_const rfl) (v := .lit (.bool ((((lexLines b).length : Nat) : Int) == 0))) rfl) ?_
          exact AOps.nil rfl
        · skip
          have h3' : ¬ ((errI b) = 2) := (by have hh := beq_eq_false_iff_ne.1 h3; omega)
          clear h3
          refine AOps.skip ⟨2, true, 23, _, rfl, rfl, rfl, by simp⟩ rfl (by decide) ?_
          refine AOps.skip ⟨2, true, 23, _, rfl, rfl, rfl, by simp⟩ rfl (by decide) ?_
          refine AOps.skip ⟨2, true, 23, _, rfl, rfl, rfl, by simp⟩ rfl (by decide) ?_
          refine AOps.read trivial rfl (by decide) (Reader.pick rfl (b := false) rfl (ok_const rfl) (ok_const rfl) (v := .lit (.bool false)) rfl) ?_
          refine AOps.read trivial rfl (by decide) (Reader.move (.inr rfl) (ok_const rfl) (v := .lit (.bool false)) rfl) ?_
          exact AOps.nil rfl
      refine AWp.ret ?_
      exact ⟨.inl rfl, _, ResOf.one 2 (.lit (.bool (bif ((errI b) == 2) then ((((lexLines b).length : Nat) : Int) == 0) else false))) rfl rfl, ⟨congrArg (fun b => AV.lit (.bool b)) (by simp [*, lexLines, errI]), rfl⟩⟩
    · skip
      have h2' : readableB b = true := (bnot_f h2)
      clear h2
      refine AWp.skip ?_
      refine AWp.regionJ [2, 11, 0, 3, 4, 20] [] (fun z => ⟨(2, .lit (.bool z)) :: [(11, .lit (.bool (decide ((b.length : Int) > 70000)))), (0, .list false 5 (byteAVs b)), (3, .list false 31 ((lexLines b).map encL)), (4, .lit (.int .i64 (errI b))), (20, .lit (.bool (!(readableB b))))], [], M⟩) (z := bif ((errI b) == 0) then (decide ((lexLines b) = (lexLines b))) else false) ?_ ?_
      · skip
        refine AOps.read trivial rfl (by decide) (Reader.move (.inl rfl) (ok_const rfl) (v := .lit (.int .i64 (errI b))) rfl) ?_
        refine AOps.read trivial rfl (by decide) (Reader.int rfl rfl rfl (r := .bool ((errI b) == 0)) rfl) ?_
        refine AOps.read trivial rfl (by decide) (Reader.move (.inl rfl) (ok_const rfl) (v := .lit (.bool ((errI b) == 0))) rfl) ?_
        refine AOps.splitJ (t := 30) (b := (errI b) == 0) (x := (decide ((lexLines b) = (lexLines b)))) (y := false) rfl (fun h4 => ?_) (fun h4 => ?_)
        · skip
          have h4' : (errI b) = 0 := (by have hh := eq_of_beq h4; omega)
          clear h4
          refine AOps.read ⟨30, rfl, rfl⟩ rfl (by decide) (Reader.move (.inl rfl) (ok_const rfl) (v := .list false 31 ((lexLines b).map encL)) rfl) ?_
          refine AOps.read ⟨30, rfl, rfl⟩ rfl (by decide) (Reader.move (.inl rfl) (ok_const rfl) (v := .list false 5 (byteAVs b)) rfl) ?_
          refine AOps.call (args := [.list false 5 (byteAVs b)]) ⟨30, rfl, rfl⟩ rfl (by decide) rfl rfl Tryd.call18 (args_ok rfl) rfl (by intro j x v hx hv; match j, hx, hv with | 0, hx, hv => cases hx; cases hv; exact .inl ⟨rfl, rfl⟩ | _ + 1, hx, hv => cases hx) (rlines_any b (by first | assumption | omega) (by assumption) M) ?_
          rintro _ _ ⟨rfl, rfl⟩
          refine AOps.call (args := [.list false 31 ((lexLines b).map encL), .list false 31 ((lexLines b).map encL)]) ⟨30, rfl, rfl⟩ rfl (by decide) rfl rfl Tryd.call17 (args_ok rfl) rfl (by intro j x v hx hv; match j, hx, hv with | 0, hx, hv => cases hx; cases hv; exact .inl ⟨rfl, rfl⟩ | 1, hx, hv => cases hx; cases hv; exact .inl ⟨rfl, rfl⟩ | _ + 2, hx, hv => cases hx) (same_any (lexLines b) (lexLines b) (lex_small _) (lex_small _) M) ?_
          rintro _ _ ⟨rfl, rfl⟩
          refine AOps.read trivial rfl (by decide) (Reader.pick rfl (b := true) rfl (ok_const rfl) (ok_const rfl) (v := .lit (.bool (decide ((lexLines b) = (lexLines b))))) rfl) ?_
          refine AOps.read trivial rfl (by decide) (Reader.move (.inr rfl) (ok_const rfl) (v := .lit (.bool (decide ((lexLines b) = (lexLines b))))) rfl) ?_
          exact AOps.nil rfl
        · skip
          have h4' : ¬ ((errI b) = 0) := (by have hh := beq_eq_false_iff_ne.1 h4; omega)
          clear h4
          refine AOps.skip ⟨2, true, 30, _, rfl, rfl, rfl, by simp⟩ rfl (by decide) ?_
          refine AOps.skip ⟨2, true, 30, _, rfl, rfl, rfl, by simp⟩ rfl (by decide) ?_
          refine AOps.skip ⟨2, true, 30, _, rfl, rfl, rfl, by simp⟩ rfl (by decide) ?_
          refine AOps.skip ⟨2, true, 30, _, rfl, rfl, rfl, by simp⟩ rfl (by decide) ?_
          refine AOps.read trivial rfl (by decide) (Reader.pick rfl (b := false) rfl (ok_const rfl) (ok_const rfl) (v := .lit (.bool false)) rfl) ?_
          refine AOps.read trivial rfl (by decide) (Reader.move (.inr rfl) (ok_const rfl) (v := .lit (.bool false)) rfl) ?_
          exact AOps.nil rfl
      refine AWp.ret ?_
      exact ⟨.inl rfl, _, ResOf.one 2 (.lit (.bool (bif ((errI b) == 0) then (decide ((lexLines b) = (lexLines b))) else false))) rfl rfl, ⟨congrArg (fun b => AV.lit (.bool b)) (by simp [*, lexLines, errI]), rfl⟩⟩

end Go.Proofs.YtkdpehhdbjkljaaDoor
