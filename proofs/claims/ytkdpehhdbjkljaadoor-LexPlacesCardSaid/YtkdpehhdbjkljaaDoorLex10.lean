/- Walks over abstract values, printed by my program av.py. -/
import Derived.Test.YtkdpehhdbjkljaaDoorLex8
import Derived.Test.YtkdpehhdbjkljaaDoorLexM3
namespace Go.Proofs.YtkdpehhdbjkljaaDoor
open Go.RowKit

theorem rd_of {b : List UInt8} (h : ¬ errI b ≠ 0) : readableB b = true := by
  cases hr : readableB b with
  | true => rfl
  | false => exact absurd (by unfold errI; rw [hr]; decide) h
theorem places_bad {b : List UInt8} (h : errI b ≠ 0) : ((((lexLines b).length : Nat) : Int) == 0) = true := by
  have hr : readableB b = false := by
    cases hr : readableB b with
    | false => rfl
    | true => exact absurd (by unfold errI; rw [hr]; rfl) h
  simp [lexLines, hr]
theorem Pl.ne {b : List UInt8} {i n bg q : Nat} (h : Pl b i n bg q) : i < (lexLines b).length → ((lexLines b).getD i []).length ≠ 0 := fun hi e => (h.2.head hi).ne (List.length_eq_zero_iff.1 e)
theorem pl_bad {b t : List UInt8} {n m e c bg : Nat} (h : n = m ∧ e < c ∧ t.length ≠ 0 ∧ bg + c - 1 + t.length ≤ b.length ∧ (b.take (bg + c - 1 + t.length)).drop (bg + c - 1) = t ∧ (t.getD 0 0).toNat ≠ 35)
    (hz : (bif ((n : Int) != (m : Int)) then true else (bif decide ((c : Int) ≤ (e : Int)) then true else (bif ((t.length : Int) == 0) then true else (bif decide (((bg + c - 1 + t.length : Nat) : Int) > (b.length : Int)) then true else (bif !((b.take (bg + c - 1 + t.length)).drop (bg + c - 1) == t) then true else (((t.getD 0 0).toNat : Int) == 35)))))) = true) : False := by
  obtain ⟨h1, h2, h3, h4, h5, h6⟩ := h
  have e1 : ((n : Int) != (m : Int)) = false := by simp [h1]
  have e2 : decide ((c : Int) ≤ (e : Int)) = false := by simp; omega
  have e3 : ((t.length : Int) == 0) = false := by simp only [beq_eq_false_iff_ne]; omega
  have e4 : decide (((bg + c - 1 + t.length : Nat) : Int) > (b.length : Int)) = false := by simp only [decide_eq_false_iff_not]; omega
  have e6 : (((t.getD 0 0).toNat : Int) == 35) = false := by simp only [beq_eq_false_iff_ne]; omega
  rw [e1, e2, e3, e4, h5, e6] at hz
  simp at hz
theorem Ql.lineb {b : List UInt8} {i k n bg q e : Nat} (h : Ql b i k n bg q e) : mOf b i ≤ b.length + 1 := by
  have := (List.getElem?_eq_some_iff.1 h.line.row).1
  have := splitNl_le b
  omega
theorem pl_t {n m q l : Nat} (h : (bif decide ((n : Int) < (m : Int)) then decide ((q : Int) < (l : Int)) else false) = true) : n < m ∧ q < l := by
  obtain ⟨h1, h2⟩ := and_t h
  have := of_decide_eq_true h2
  omega
theorem pl_f {n m q l : Nat} (h : (bif decide ((n : Int) < (m : Int)) then decide ((q : Int) < (l : Int)) else false) = false) : ¬ (n < m ∧ q < l) := by
  rintro ⟨h1, h2⟩
  have := of_decide_eq_false (and_f h (by omega))
  omega

set_option maxRecDepth 20000 in
set_option maxHeartbeats 1000000 in
theorem LexPlaces_any (b : List UInt8) (M : Nat → Option (List AV)) : ACall Tryd.prog 4 [.list false 5 (byteAVs b)] M (fun r M' => r = .lit (.bool true) ∧ M = M') := by
  have hla := (lex_lens b).1
  refine ACall.of Tryd.func4 rfl (n := 150) rfl rfl rfl ?_
  refine AWp.seq (AWp.region ?_)
  refine AOps.read trivial rfl (by decide) (Reader.move (.inr rfl) (ok_const rfl) (v := .lit (.bool false)) rfl) ?_
  refine AOps.nil ?_
  refine AWp.seq ?_
  refine AWp.regionJ [20, 0, 2] [] (fun z => ⟨(20, .lit (.bool z)) :: [(0, .list false 5 (byteAVs b)), (2, .lit (.bool false))], [], M⟩) (z := decide ((b.length : Int) > 5000)) ?_ ?_
  · skip
    refine AOps.call (args := []) trivial rfl (by decide) rfl rfl Tryd.call14 (args_ok rfl) rfl (by intro j x v hx hv; match j, hx, hv with  | _ + 0, hx, hv => cases hx) (awake_any M) ?_
    rintro _ _ ⟨rfl, rfl⟩
    refine AOps.read trivial rfl (by decide) (Reader.not (b := true) rfl rfl) ?_
    refine AOps.read trivial rfl (by decide) (Reader.move (.inl rfl) (ok_const rfl) (v := .lit (.bool false)) rfl) ?_
    refine AOps.read ⟨16, rfl, rfl⟩ rfl (by decide) (Reader.move (.inl rfl) (ok_const rfl) (v := .list false 5 (byteAVs b)) rfl) ?_
    refine AOps.read ⟨16, rfl, rfl⟩ rfl (by decide) (Reader.len' (xs := byteAVs b) rfl rfl rfl rfl Tryd.underlying22 rfl (m := b.length) (byteAVs_len _)) ?_
    refine AOps.read ⟨16, rfl, rfl⟩ rfl (by decide) (Reader.int rfl rfl rfl (r := .bool (decide ((b.length : Int) > 5000))) rfl) ?_
    refine AOps.read trivial rfl (by decide) (Reader.pick rfl (b := false) rfl (ok_const rfl) (ok_const rfl) (v := .lit (.bool (decide ((b.length : Int) > 5000)))) rfl) ?_
    exact AOps.nil rfl
  refine AWp.cond (b := decide ((b.length : Int) > 5000)) rfl (fun h1 => ?_) (fun h1 => ?_)
  · skip
    have h1' : b.length > 5000 := (big_t h1)
    clear h1
    refine AWp.seq (AWp.region ?_)
    refine AOps.call (args := []) trivial rfl (by decide) rfl rfl Tryd.call14 (args_ok rfl) rfl (by intro j x v hx hv; match j, hx, hv with  | _ + 0, hx, hv => cases hx) (awake_any M) ?_
    rintro _ _ ⟨rfl, rfl⟩
    refine AOps.read trivial rfl (by decide) (Reader.move (.inr rfl) (ok_const rfl) (v := .lit (.bool true)) rfl) ?_
    refine AOps.nil ?_
    refine AWp.ret ?_
    exact ⟨.inl rfl, _, ResOf.one 2 (.lit (.bool true)) rfl rfl, ⟨rfl, rfl⟩⟩
  · skip
    have h1' : b.length ≤ 5000 := (big_f h1)
    clear h1
    refine AWp.skip ?_
    refine AWp.seq (AWp.region ?_)
    refine AOps.read trivial rfl (by decide) (Reader.move (.inl rfl) (ok_const rfl) (v := .list false 5 (byteAVs b)) rfl) ?_
    refine AOps.call (args := [.list false 5 (byteAVs b)]) trivial rfl (by decide) rfl rfl Tryd.call15 (args_ok rfl) rfl (by intro j x v hx hv; match j, hx, hv with | 0, hx, hv => cases hx; cases hv; exact .inl ⟨rfl, rfl⟩ | _ + 1, hx, hv => cases hx) (lines_any b (by first | assumption | omega | decide) M) ?_
    rintro _ _ ⟨rfl, rfl⟩
    refine AOps.read trivial rfl (by decide) (Reader.move (.inl rfl) (ok_const rfl) (v := .tuple [.list false 31 ((lexLines b).map encL), .lit (.int .i64 (errI b))]) rfl) ?_
    refine AOps.read trivial rfl (by decide) (Reader.extract (v := .list false 31 ((lexLines b).map encL)) rfl rfl rfl rfl) ?_
    refine AOps.read trivial rfl (by decide) (Reader.extract (v := .lit (.int .i64 (errI b))) rfl rfl rfl rfl) ?_
    refine AOps.read trivial rfl (by decide) (Reader.move (.inr rfl) (ok_const rfl) (v := .list false 31 ((lexLines b).map encL)) rfl) ?_
    refine AOps.read trivial rfl (by decide) (Reader.move (.inr rfl) (ok_const rfl) (v := .lit (.int .i64 (errI b))) rfl) ?_
    refine AOps.nil ?_
    refine AWp.seq ?_
    refine AWp.seq (AWp.region ?_)
    refine AOps.read trivial rfl (by decide) (Reader.move (.inl rfl) (ok_const rfl) (v := .lit (.int .i64 (errI b))) rfl) ?_
    refine AOps.read trivial rfl (by decide) (Reader.int rfl rfl rfl (r := .bool ((errI b) != 0)) rfl) ?_
    refine AOps.nil ?_
    refine AWp.cond (b := (errI b) != 0) rfl (fun h2 => ?_) (fun h2 => ?_)
    · skip
      have h2' : (errI b) ≠ 0 := (by have hh := bne_iff_ne.1 h2; omega)
      clear h2
      refine AWp.seq (AWp.region ?_)
      refine AOps.read trivial rfl (by decide) (Reader.move (.inl rfl) (ok_const rfl) (v := .list false 31 ((lexLines b).map encL)) rfl) ?_
      refine AOps.read trivial rfl (by decide) (Reader.len' (xs := (lexLines b).map encL) rfl rfl rfl rfl Tryd.underlying24 rfl (m := (lexLines b).length) (by simp)) ?_
      refine AOps.read trivial rfl (by decide) (Reader.int rfl rfl rfl (r := .bool ((((lexLines b).length : Nat) : Int) == 0)) rfl) ?_
      refine AOps.read trivial rfl (by decide) (Reader.move (.inr rfl) (ok_const rfl) (v := .lit (.bool ((((lexLines b).length : Nat) : Int) == 0))) rfl) ?_
      refine AOps.nil ?_
      refine AWp.ret ?_
      exact ⟨.inl rfl, _, ResOf.one 2 (.lit (.bool ((((lexLines b).length : Nat) : Int) == 0))) rfl rfl, ⟨congrArg (fun b => AV.lit (.bool b)) (places_bad (by assumption)), rfl⟩⟩
    · skip
      have h2' : ¬ ((errI b) ≠ 0) := (by have hh := bne_eq_false_iff_eq.1 h2; omega)
      clear h2
      refine AWp.skip ?_
      refine AWp.seq (AWp.region ?_)
      refine AOps.read trivial rfl (by decide) (Reader.move (.inr rfl) (ok_const rfl) (v := .lit (.int .i64 1)) rfl) ?_
      refine AOps.nil ?_
      refine AWp.seq (AWp.region ?_)
      refine AOps.read trivial rfl (by decide) (Reader.move (.inr rfl) (ok_const rfl) (v := .lit (.int .i64 0)) rfl) ?_
      refine AOps.nil ?_
      refine AWp.seq (AWp.region ?_)
      refine AOps.read trivial rfl (by decide) (Reader.move (.inr rfl) (ok_const rfl) (v := .lit (.int .i64 0)) rfl) ?_
      refine AOps.nil ?_
      refine AWp.seq ?_
      refine AWp.seq (AWp.region ?_)
      refine AOps.read trivial rfl (by decide) (Reader.move (.inr rfl) (ok_const rfl) (v := .lit (.int .i64 0)) rfl) ?_
      refine AOps.nil ?_
      refine AWp.block ?_
      refine AWp.loopE [0, 3, 5, 6, 7, 8] [] (fun m s => ∃ (i n bg q : Nat), m = (lexLines b).length - i ∧ s = ⟨[(0, .list false 5 (byteAVs b)), (3, .list false 31 ((lexLines b).map encL)), (5, .lit (.int .i64 (n : Int))), (6, .lit (.int .i64 (bg : Int))), (7, .lit (.int .i64 (q : Int))), (8, .lit (.int .i64 (i : Int)))], [], M⟩ ∧ (i ≤ (lexLines b).length) ∧ (b.length ≤ 5000) ∧ (readableB b = true) ∧ (Pl b i n bg q)) ?_ ?_
      · exact ⟨_, 0, 1, 0, 0, rfl, rfl, Nat.zero_le _, by omega, rd_of (by assumption), Pl.start (rd_of (by assumption))⟩
      · rintro _ _ ⟨i, n, bg, q, rfl, rfl, hi, hb5, hrd, hP⟩
        have hfl := (lex_small b).2 i
        have hne := hP.ne
        refine AWp.seq ?_
        refine AWp.seq (AWp.region ?_)
        refine AOps.read trivial rfl (by decide) (Reader.move (.inl rfl) (ok_const rfl) (v := .lit (.int .i64 (i : Int))) rfl) ?_
        refine AOps.read trivial rfl (by decide) (Reader.move (.inl rfl) (ok_const rfl) (v := .list false 31 ((lexLines b).map encL)) rfl) ?_
        refine AOps.read trivial rfl (by decide) (Reader.len' (xs := (lexLines b).map encL) rfl rfl rfl rfl Tryd.underlying24 rfl (m := (lexLines b).length) (by simp)) ?_
        refine AOps.read trivial rfl (by decide) (Reader.int rfl rfl rfl (r := .bool (decide ((i : Int) < (((lexLines b).length : Nat) : Int)))) rfl) ?_
        refine AOps.nil ?_
        refine AWp.cond (b := decide ((i : Int) < (((lexLines b).length : Nat) : Int))) rfl (fun h3 => ?_) (fun h3 => ?_)
        · skip
          have h3' : i < ((lexLines b).length) := (by have hh := of_decide_eq_true h3; omega)
          clear h3
          refine AWp.skip ?_
          refine AWp.seq ?_
          refine AWp.block ?_
          refine AWp.seq ?_
          refine AWp.seq (AWp.region ?_)
          refine AOps.read trivial rfl (by decide) (Reader.move (.inl rfl) (ok_const rfl) (v := .list false 31 ((lexLines b).map encL)) rfl) ?_
          refine AOps.read trivial rfl (by decide) (Reader.move (.inl rfl) (ok_const rfl) (v := .lit (.int .i64 (i : Int))) rfl) ?_
          refine AOps.read trivial rfl (by decide) (Reader.elemAddr (m := i) rfl Tryd.underlying24 sizeOf_31 rfl rfl rfl (e := .list false 33 (((lexLines b).getD i []).map encF)) (getD_map (by first | assumption | omega))) ?_
          refine AOps.read trivial rfl (by decide) (Reader.loadE rfl Tryd.underlying31 sizeOf_31 rfl (v := .list false 33 (((lexLines b).getD i []).map encF)) rfl rfl) ?_
          refine AOps.read trivial rfl (by decide) (Reader.len' (xs := ((lexLines b).getD i []).map encF) rfl rfl rfl rfl Tryd.underlying31 rfl (m := ((lexLines b).getD i []).length) (by simp)) ?_
          refine AOps.read trivial rfl (by decide) (Reader.int rfl rfl rfl (r := .bool (((((lexLines b).getD i []).length : Nat) : Int) == 0)) rfl) ?_
          refine AOps.nil ?_
          refine AWp.cond (b := ((((lexLines b).getD i []).length : Nat) : Int) == 0) rfl (fun h4 => ?_) (fun h4 => ?_)
          · skip
            have h4' : (((lexLines b).getD i []).length) = 0 := (by have hh := eq_of_beq h4; omega)
            clear h4
            refine AWp.seq (AWp.region ?_)
            refine AOps.read trivial rfl (by decide) (Reader.move (.inr rfl) (ok_const rfl) (v := .lit (.bool false)) rfl) ?_
            refine AOps.nil ?_
            refine AWp.ret ?_
            exact ⟨.inl rfl, _, ResOf.one 2 (.lit (.bool false)) rfl rfl, ⟨False.elim (by first | assumption | omega), rfl⟩⟩
          · skip
            have h4' : ¬ ((((lexLines b).getD i []).length) = 0) := (by have hh := beq_eq_false_iff_ne.1 h4; omega)
            clear h4
            refine AWp.skip ?_
            refine AWp.seq (AWp.region ?_)
            refine AOps.read trivial rfl (by decide) (Reader.move (.inr rfl) (ok_const rfl) (v := .lit (.int .i64 0)) rfl) ?_
            refine AOps.nil ?_
            refine AWp.seq (AWp.region ?_)
            refine AOps.read trivial rfl (by decide) (Reader.move (.inr rfl) (ok_const rfl) (v := .lit (.int .i64 0)) rfl) ?_
            refine AOps.nil ?_
            refine AWp.block ?_
            refine AWp.loopE [0, 3, 5, 6, 7, 8, 9, 10] [] (fun m s => ∃ (k n1 bg1 q1 e : Nat), m = ((lexLines b).getD i []).length - k ∧ s = ⟨[(0, .list false 5 (byteAVs b)), (3, .list false 31 ((lexLines b).map encL)), (5, .lit (.int .i64 (n1 : Int))), (6, .lit (.int .i64 (bg1 : Int))), (7, .lit (.int .i64 (q1 : Int))), (8, .lit (.int .i64 (i : Int))), (9, .lit (.int .i64 (e : Int))), (10, .lit (.int .i64 (k : Int)))], [], M⟩ ∧ (k ≤ ((lexLines b).getD i []).length) ∧ (Ql b i k n1 bg1 q1 e)) ?_ ?_
            · exact ⟨_, 0, n, bg, q, 0, rfl, rfl, Nat.zero_le _, hP.inn (by omega)⟩
            · rintro _ _ ⟨k, n1, bg1, q1, e, rfl, rfl, hk, hQ⟩
              refine AWp.seq ?_
              refine AWp.seq (AWp.region ?_)
              refine AOps.read trivial rfl (by decide) (Reader.move (.inl rfl) (ok_const rfl) (v := .lit (.int .i64 (k : Int))) rfl) ?_
              refine AOps.read trivial rfl (by decide) (Reader.move (.inl rfl) (ok_const rfl) (v := .list false 31 ((lexLines b).map encL)) rfl) ?_
              refine AOps.read trivial rfl (by decide) (Reader.move (.inl rfl) (ok_const rfl) (v := .lit (.int .i64 (i : Int))) rfl) ?_
              refine AOps.read trivial rfl (by decide) (Reader.elemAddr (m := i) rfl Tryd.underlying24 sizeOf_31 rfl rfl rfl (e := .list false 33 (((lexLines b).getD i []).map encF)) (getD_map (by first | assumption | omega))) ?_
              refine AOps.read trivial rfl (by decide) (Reader.loadE rfl Tryd.underlying31 sizeOf_31 rfl (v := .list false 33 (((lexLines b).getD i []).map encF)) rfl rfl) ?_
              refine AOps.read trivial rfl (by decide) (Reader.len' (xs := ((lexLines b).getD i []).map encF) rfl rfl rfl rfl Tryd.underlying31 rfl (m := ((lexLines b).getD i []).length) (by simp)) ?_
              refine AOps.read trivial rfl (by decide) (Reader.int rfl rfl rfl (r := .bool (decide ((k : Int) < ((((lexLines b).getD i []).length : Nat) : Int)))) rfl) ?_
              refine AOps.nil ?_
              refine AWp.cond (b := decide ((k : Int) < ((((lexLines b).getD i []).length : Nat) : Int))) rfl (fun h5 => ?_) (fun h5 => ?_)
              · skip
                have h5' : k < (((lexLines b).getD i []).length) := (by have hh := of_decide_eq_true h5; omega)
                clear h5
                refine AWp.skip ?_
                refine AWp.seq ?_
                refine AWp.block ?_
                refine AWp.seq (AWp.region ?_)
                refine AOps.read trivial rfl (by decide) (Reader.move (.inl rfl) (ok_const rfl) (v := .list false 31 ((lexLines b).map encL)) rfl) ?_
                refine AOps.read trivial rfl (by decide) (Reader.move (.inl rfl) (ok_const rfl) (v := .lit (.int .i64 (i : Int))) rfl) ?_
                refine AOps.read trivial rfl (by decide) (Reader.elemAddr (m := i) rfl Tryd.underlying24 sizeOf_31 rfl rfl rfl (e := .list false 33 (((lexLines b).getD i []).map encF)) (getD_map (by first | assumption | omega))) ?_
                refine AOps.read trivial rfl (by decide) (Reader.loadE rfl Tryd.underlying31 sizeOf_31 rfl (v := .list false 33 (((lexLines b).getD i []).map encF)) rfl rfl) ?_
                refine AOps.read trivial rfl (by decide) (Reader.move (.inl rfl) (ok_const rfl) (v := .lit (.int .i64 (k : Int))) rfl) ?_
                refine AOps.read trivial rfl (by decide) (Reader.elemAddr (m := k) rfl Tryd.underlying31 sizeOf_33 rfl rfl rfl (e := encF (((lexLines b).getD i []).getD k f0)) (getD_map (by first | assumption | omega))) ?_
                refine AOps.read trivial rfl (by decide) (Reader.loadE rfl Tryd.underlying33 sizeOf_33 rfl (v := encF (((lexLines b).getD i []).getD k f0)) rfl rfl) ?_
                refine AOps.alloc (Es := []) trivial rfl (by decide) rfl (noL rfl) rfl zero_33 rfl (cells := [.str [], .lit (.int .i64 0), .lit (.int .i64 0)]) rfl (all_scalar rfl) (all_flat rfl) ?_
                refine AOps.storeL trivial rfl rfl rfl rfl sizeOf_33 (.inl ⟨rfl, rfl⟩) rfl (v := encF (((lexLines b).getD i []).getD k f0)) rfl (all_flat rfl) rfl (by decide) ?_
                refine AOps.nil ?_
                refine AWp.seq ?_
                refine AWp.block ?_
                refine AWp.loopE [0, 3, 5, 6, 7, 8, 9, 10, 11] [11] (fun m s => ∃ (n2 bg2 q2 : Nat), m = b.length - q2 ∧ s = ⟨[(0, .list false 5 (byteAVs b)), (3, .list false 31 ((lexLines b).map encL)), (5, .lit (.int .i64 (n2 : Int))), (6, .lit (.int .i64 (bg2 : Int))), (7, .lit (.int .i64 (q2 : Int))), (8, .lit (.int .i64 (i : Int))), (9, .lit (.int .i64 (e : Int))), (10, .lit (.int .i64 (k : Int))), (11, .lptr 11 0)], [(11, [.str ((((lexLines b).getD i []).getD k f0).text), .lit (.int .i64 (((((lexLines b).getD i []).getD k f0).line : Nat) : Int)), .lit (.int .i64 (((((lexLines b).getD i []).getD k f0).col : Nat) : Int))])], M⟩ ∧ (k < ((lexLines b).getD i []).length) ∧ (Ql b i k n2 bg2 q2 e)) ?_ ?_
                · exact ⟨_, n1, bg1, q1, rfl, rfl, by omega, hQ⟩
                · rintro _ _ ⟨n2, bg2, q2, rfl, rfl, hk', hQ2⟩
                  obtain ⟨hcb, hc1⟩ := hQ2.bound hk'
                  have hnle := hQ2.line.le
                  have hmlb := hQ2.lineb
                  have hln := (hQ2.cons hk').1
                  have hbgl := hQ2.place.bgl
                  refine AWp.seq ?_
                  refine AWp.regionJ [69, 0, 3, 5, 6, 7, 8, 9, 10, 11] [11] (fun z => ⟨(69, .lit (.bool z)) :: [(0, .list false 5 (byteAVs b)), (3, .list false 31 ((lexLines b).map encL)), (5, .lit (.int .i64 (n2 : Int))), (6, .lit (.int .i64 (bg2 : Int))), (7, .lit (.int .i64 (q2 : Int))), (8, .lit (.int .i64 (i : Int))), (9, .lit (.int .i64 (e : Int))), (10, .lit (.int .i64 (k : Int))), (11, .lptr 11 0)], [(11, [.str ((((lexLines b).getD i []).getD k f0).text), .lit (.int .i64 (((((lexLines b).getD i []).getD k f0).line : Nat) : Int)), .lit (.int .i64 (((((lexLines b).getD i []).getD k f0).col : Nat) : Int))])], M⟩) (z := bif (decide ((n2 : Int) < (((((lexLines b).getD i []).getD k f0).line : Nat) : Int))) then (decide ((q2 : Int) < (b.length : Int))) else false) ?_ ?_
                  · skip
                    refine AOps.read trivial rfl (by decide) (Reader.move (.inl rfl) (ok_const rfl) (v := .lit (.int .i64 (n2 : Int))) rfl) ?_
                    refine AOps.read trivial rfl (by decide) (Reader.fieldL rfl ⟨_, _, Tryd.underlying33, rfl, rfl, rfl, sizeOf_3⟩ (by decide) rfl) ?_
                    refine AOps.read trivial rfl (by decide) (Reader.loadL rfl Tryd.underlying3 sizeOf_3 rfl rfl (v := .lit (.int .i64 (((((lexLines b).getD i []).getD k f0).line : Nat) : Int))) rfl rfl) ?_
                    refine AOps.read trivial rfl (by decide) (Reader.int rfl rfl rfl (r := .bool (decide ((n2 : Int) < (((((lexLines b).getD i []).getD k f0).line : Nat) : Int)))) rfl) ?_
                    refine AOps.read trivial rfl (by decide) (Reader.move (.inl rfl) (ok_const rfl) (v := .lit (.bool (decide ((n2 : Int) < (((((lexLines b).getD i []).getD k f0).line : Nat) : Int))))) rfl) ?_
                    refine AOps.splitJ (t := 64) (b := decide ((n2 : Int) < (((((lexLines b).getD i []).getD k f0).line : Nat) : Int))) (x := (decide ((q2 : Int) < (b.length : Int)))) (y := false) rfl (fun h6 => ?_) (fun h6 => ?_)
                    · skip
                      have h6' : n2 < ((((lexLines b).getD i []).getD k f0).line) := (by have hh := of_decide_eq_true h6; omega)
                      clear h6
                      refine AOps.read ⟨64, rfl, rfl⟩ rfl (by decide) (Reader.move (.inl rfl) (ok_const rfl) (v := .lit (.int .i64 (q2 : Int))) rfl) ?_
                      refine AOps.read ⟨64, rfl, rfl⟩ rfl (by decide) (Reader.move (.inl rfl) (ok_const rfl) (v := .list false 5 (byteAVs b)) rfl) ?_
                      refine AOps.read ⟨64, rfl, rfl⟩ rfl (by decide) (Reader.len' (xs := byteAVs b) rfl rfl rfl rfl Tryd.underlying22 rfl (m := b.length) (byteAVs_len _)) ?_
                      refine AOps.read ⟨64, rfl, rfl⟩ rfl (by decide) (Reader.int rfl rfl rfl (r := .bool (decide ((q2 : Int) < (b.length : Int)))) rfl) ?_
                      refine AOps.read trivial rfl (by decide) (Reader.pick rfl (b := true) rfl (ok_const rfl) (ok_const rfl) (v := .lit (.bool (decide ((q2 : Int) < (b.length : Int))))) rfl) ?_
                      exact AOps.nil rfl
                    · skip
                      have h6' : ¬ (n2 < ((((lexLines b).getD i []).getD k f0).line)) := (by have hh := of_decide_eq_false h6; omega)
                      clear h6
                      refine AOps.skip ⟨4, true, 64, _, rfl, rfl, rfl, by simp⟩ rfl (by decide) ?_
                      refine AOps.skip ⟨4, true, 64, _, rfl, rfl, rfl, by simp⟩ rfl (by decide) ?_
                      refine AOps.skip ⟨4, true, 64, _, rfl, rfl, rfl, by simp⟩ rfl (by decide) ?_
                      refine AOps.skip ⟨4, true, 64, _, rfl, rfl, rfl, by simp⟩ rfl (by decide) ?_
                      refine AOps.read trivial rfl (by decide) (Reader.pick rfl (b := false) rfl (ok_const rfl) (ok_const rfl) (v := .lit (.bool false)) rfl) ?_
                      exact AOps.nil rfl
                  refine AWp.cond (b := bif (decide ((n2 : Int) < (((((lexLines b).getD i []).getD k f0).line : Nat) : Int))) then (decide ((q2 : Int) < (b.length : Int))) else false) rfl (fun h7 => ?_) (fun h7 => ?_)
                  · skip
                    have h7' : n2 < (((lexLines b).getD i []).getD k f0).line ∧ q2 < b.length := (pl_t h7)
                    clear h7
                    refine AWp.skip ?_
                    refine AWp.block ?_
                    refine AWp.seq ?_
                    refine AWp.seq (AWp.region ?_)
                    refine AOps.read trivial rfl (by decide) (Reader.move (.inl rfl) (ok_const rfl) (v := .list false 5 (byteAVs b)) rfl) ?_
                    refine AOps.read trivial rfl (by decide) (Reader.move (.inl rfl) (ok_const rfl) (v := .lit (.int .i64 (q2 : Int))) rfl) ?_
                    refine AOps.read trivial rfl (by decide) (Reader.elemAddr (m := q2) rfl Tryd.underlying22 sizeOf_5 rfl rfl rfl (e := .lit (.int .u8 ((b.getD q2 0).toNat : Int))) (byteAVs_at (by first | omega | (simp; omega)))) ?_
                    refine AOps.read trivial rfl (by decide) (Reader.loadE rfl Tryd.underlying5 sizeOf_5 rfl (v := .lit (.int .u8 ((b.getD q2 0).toNat : Int))) rfl rfl) ?_
                    refine AOps.read trivial rfl (by decide) (Reader.int rfl rfl rfl (r := .bool (((b.getD q2 0).toNat : Int) == 10)) rfl) ?_
                    refine AOps.nil ?_
                    refine AWp.cond (b := ((b.getD q2 0).toNat : Int) == 10) rfl (fun h8 => ?_) (fun h8 => ?_)
                    · skip
                      have h8' : ((b.getD q2 0).toNat) = 10 := (by have hh := eq_of_beq h8; omega)
                      clear h8
                      refine AWp.seq (AWp.region ?_)
                      refine AOps.read trivial rfl (by decide) (Reader.move (.inl rfl) (ok_const rfl) (v := .lit (.int .i64 (n2 : Int))) rfl) ?_
                      refine AOps.read trivial rfl (by decide) (Reader.sum rfl rfl rfl (m := (n2 : Int) + 1) (c := ((n2 + 1 : Nat) : Int)) rfl (by first | exact IntWalk.i64_in _ (by omega) | exact IntWalk.i64_in _ (by constructor <;> omega) | (simp only [];omega))) ?_
                      refine AOps.read trivial rfl (by decide) (Reader.move (.inr rfl) (ok_const rfl) (v := .lit (.int .i64 ((n2 + 1 : Nat) : Int))) rfl) ?_
                      refine AOps.nil ?_
                      refine AWp.region ?_
                      refine AOps.read trivial rfl (by decide) (Reader.move (.inl rfl) (ok_const rfl) (v := .lit (.int .i64 (q2 : Int))) rfl) ?_
                      refine AOps.read trivial rfl (by decide) (Reader.sum rfl rfl rfl (m := (q2 : Int) + 1) (c := ((q2 + 1 : Nat) : Int)) rfl (by first | exact IntWalk.i64_in _ (by omega) | exact IntWalk.i64_in _ (by constructor <;> omega) | (simp only [];omega))) ?_
                      refine AOps.read trivial rfl (by decide) (Reader.move (.inr rfl) (ok_const rfl) (v := .lit (.int .i64 ((q2 + 1 : Nat) : Int))) rfl) ?_
                      refine AOps.nil ?_
                      refine AWp.region ?_
                      refine AOps.read trivial rfl (by decide) (Reader.move (.inl rfl) (ok_const rfl) (v := .lit (.int .i64 (q2 : Int))) rfl) ?_
                      refine AOps.read trivial rfl (by decide) (Reader.sum rfl rfl rfl (m := (q2 : Int) + 1) (c := ((q2 + 1 : Nat) : Int)) rfl (by first | exact IntWalk.i64_in _ (by omega) | exact IntWalk.i64_in _ (by constructor <;> omega) | (simp only [];omega))) ?_
                      refine AOps.read trivial rfl (by decide) (Reader.move (.inr rfl) (ok_const rfl) (v := .lit (.int .i64 ((q2 + 1 : Nat) : Int))) rfl) ?_
                      refine AOps.nil ?_
                      first | exact ⟨_, by omega, n2, bg2, q2 + 1, rfl, rfl, hk', hQ2.stay (by omega) (by assumption)⟩ | exact ⟨_, by omega, n2 + 1, q2 + 1, q2 + 1, rfl, rfl, hk', hQ2.nextl hk' (by omega) (by omega) (by assumption)⟩
                    · skip
                      have h8' : ¬ (((b.getD q2 0).toNat) = 10) := (by have hh := beq_eq_false_iff_ne.1 h8; omega)
                      clear h8
                      refine AWp.skip ?_
                      refine AWp.region ?_
                      refine AOps.read trivial rfl (by decide) (Reader.move (.inl rfl) (ok_const rfl) (v := .lit (.int .i64 (q2 : Int))) rfl) ?_
                      refine AOps.read trivial rfl (by decide) (Reader.sum rfl rfl rfl (m := (q2 : Int) + 1) (c := ((q2 + 1 : Nat) : Int)) rfl (by first | exact IntWalk.i64_in _ (by omega) | exact IntWalk.i64_in _ (by constructor <;> omega) | (simp only [];omega))) ?_
                      refine AOps.read trivial rfl (by decide) (Reader.move (.inr rfl) (ok_const rfl) (v := .lit (.int .i64 ((q2 + 1 : Nat) : Int))) rfl) ?_
                      refine AOps.nil ?_
                      first | exact ⟨_, by omega, n2, bg2, q2 + 1, rfl, rfl, hk', hQ2.stay (by omega) (by assumption)⟩ | exact ⟨_, by omega, n2 + 1, q2 + 1, q2 + 1, rfl, rfl, hk', hQ2.nextl hk' (by omega) (by omega) (by assumption)⟩
                  · skip
                    have h7' : ¬ (n2 < (((lexLines b).getD i []).getD k f0).line ∧ q2 < b.length) := (pl_f h7)
                    clear h7
                    refine AWp.exit ?_
                    refine AWp.seq (AWp.region ?_)
                    refine AOps.read trivial rfl (by decide) (Reader.move (.inl rfl) (ok_const rfl) (v := .lit (.int .i64 (bg2 : Int))) rfl) ?_
                    refine AOps.read trivial rfl (by decide) (Reader.fieldL rfl ⟨_, _, Tryd.underlying33, rfl, rfl, rfl, sizeOf_3⟩ (by decide) rfl) ?_
                    refine AOps.read trivial rfl (by decide) (Reader.loadL rfl Tryd.underlying3 sizeOf_3 rfl rfl (v := .lit (.int .i64 (((((lexLines b).getD i []).getD k f0).col : Nat) : Int))) rfl rfl) ?_
                    refine AOps.read trivial rfl (by decide) (Reader.sum rfl rfl rfl (m := (bg2 : Int) + (((((lexLines b).getD i []).getD k f0).col : Nat) : Int)) (c := ((bg2 + ((((lexLines b).getD i []).getD k f0).col) : Nat) : Int)) rfl (by first | exact IntWalk.i64_in _ (by omega) | exact IntWalk.i64_in _ (by constructor <;> omega) | (simp only [];omega))) ?_
                    refine AOps.read trivial rfl (by decide) (Reader.sum rfl rfl rfl (m := ((bg2 + ((((lexLines b).getD i []).getD k f0).col) : Nat) : Int) - 1) (c := (((bg2 + ((((lexLines b).getD i []).getD k f0).col)) - 1 : Nat) : Int)) rfl (by rw [IntWalk.i64_in _ (by omega)]; omega)) ?_
                    refine AOps.read trivial rfl (by decide) (Reader.move (.inr rfl) (ok_const rfl) (v := .lit (.int .i64 (((bg2 + ((((lexLines b).getD i []).getD k f0).col)) - 1 : Nat) : Int))) rfl) ?_
                    refine AOps.nil ?_
                    refine AWp.seq ?_
                    refine AWp.drawnJ [131, 69, 0, 3, 5, 6, 7, 8, 9, 10, 11, 12] [11] (fun z => ⟨(131, .lit (.bool z)) :: [(69, .lit (.bool (bif (decide ((n2 : Int) < (((((lexLines b).getD i []).getD k f0).line : Nat) : Int))) then (decide ((q2 : Int) < (b.length : Int))) else false))), (0, .list false 5 (byteAVs b)), (3, .list false 31 ((lexLines b).map encL)), (5, .lit (.int .i64 (n2 : Int))), (6, .lit (.int .i64 (bg2 : Int))), (7, .lit (.int .i64 (q2 : Int))), (8, .lit (.int .i64 (i : Int))), (9, .lit (.int .i64 (e : Int))), (10, .lit (.int .i64 (k : Int))), (11, .lptr 11 0), (12, .lit (.int .i64 (((bg2 + ((((lexLines b).getD i []).getD k f0).col)) - 1 : Nat) : Int)))], [(11, [.str ((((lexLines b).getD i []).getD k f0).text), .lit (.int .i64 (((((lexLines b).getD i []).getD k f0).line : Nat) : Int)), .lit (.int .i64 (((((lexLines b).getD i []).getD k f0).col : Nat) : Int))])], M⟩) (z := bif ((n2 : Int) != (((((lexLines b).getD i []).getD k f0).line : Nat) : Int)) then true else (bif (decide ((((((lexLines b).getD i []).getD k f0).col : Nat) : Int) ≤ (e : Int))) then true else (bif (((((((lexLines b).getD i []).getD k f0).text).length : Nat) : Int) == 0) then true else (bif (decide (((((bg2 + ((((lexLines b).getD i []).getD k f0).col)) - 1) + (((((lexLines b).getD i []).getD k f0).text).length) : Nat) : Int) > (b.length : Int))) then true else (bif (!(((b.take (((bg2 + ((((lexLines b).getD i []).getD k f0).col)) - 1) + (((((lexLines b).getD i []).getD k f0).text).length))).drop ((bg2 + ((((lexLines b).getD i []).getD k f0).col)) - 1)) == ((((lexLines b).getD i []).getD k f0).text))) then true else (((((((lexLines b).getD i []).getD k f0).text).getD 0 0).toNat : Int) == 35)))))) (by kernel_rfl) (by kernel_rfl) ?_ ?_
                    · skip
                      refine AOpsE.read trivial rfl (by decide) (Reader.move (.inl rfl) (ok_const rfl) (v := .lit (.int .i64 (n2 : Int))) rfl) ?_
                      refine AOpsE.read trivial rfl (by decide) (Reader.fieldL rfl ⟨_, _, Tryd.underlying33, rfl, rfl, rfl, sizeOf_3⟩ (by decide) rfl) ?_
                      refine AOpsE.read trivial rfl (by decide) (Reader.loadL rfl Tryd.underlying3 sizeOf_3 rfl rfl (v := .lit (.int .i64 (((((lexLines b).getD i []).getD k f0).line : Nat) : Int))) rfl rfl) ?_
                      refine AOpsE.read trivial rfl (by decide) (Reader.int rfl rfl rfl (r := .bool ((n2 : Int) != (((((lexLines b).getD i []).getD k f0).line : Nat) : Int))) rfl) ?_
                      refine AOpsE.read trivial rfl (by decide) (Reader.move (.inl rfl) (ok_const rfl) (v := .lit (.bool ((n2 : Int) != (((((lexLines b).getD i []).getD k f0).line : Nat) : Int)))) rfl) ?_
                      refine AOpsE.splitJ (t := 90) (b := (n2 : Int) != (((((lexLines b).getD i []).getD k f0).line : Nat) : Int)) (x := true) (y := (bif (decide ((((((lexLines b).getD i []).getD k f0).col : Nat) : Int) ≤ (e : Int))) then true else (bif (((((((lexLines b).getD i []).getD k f0).text).length : Nat) : Int) == 0) then true else (bif (decide (((((bg2 + ((((lexLines b).getD i []).getD k f0).col)) - 1) + (((((lexLines b).getD i []).getD k f0).text).length) : Nat) : Int) > (b.length : Int))) then true else (bif (!(((b.take (((bg2 + ((((lexLines b).getD i []).getD k f0).col)) - 1) + (((((lexLines b).getD i []).getD k f0).text).length))).drop ((bg2 + ((((lexLines b).getD i []).getD k f0).col)) - 1)) == ((((lexLines b).getD i []).getD k f0).text))) then true else (((((((lexLines b).getD i []).getD k f0).text).getD 0 0).toNat : Int) == 35)))))) rfl (fun h9 => ?_) (fun h9 => ?_)
                      · skip
                        have h9' : n2 ≠ ((((lexLines b).getD i []).getD k f0).line) := (by have hh := bne_iff_ne.1 h9; omega)
                        clear h9
                        refine AOpsE.skip ⟨4, false, 90, _, rfl, rfl, rfl, by simp⟩ rfl (by decide) ?_
                        refine AOpsE.skip ⟨4, false, 90, _, rfl, rfl, rfl, by simp⟩ rfl (by decide) ?_
                        refine AOpsE.skip ⟨4, false, 90, _, rfl, rfl, rfl, by simp⟩ rfl (by decide) ?_
                        refine AOpsE.skip ⟨4, false, 90, _, rfl, rfl, rfl, by simp⟩ rfl (by decide) ?_
                        refine AOpsE.read trivial rfl (by decide) (Reader.pick rfl (b := true) rfl (ok_const rfl) (ok_const rfl) (v := .lit (.bool true)) rfl) ?_
                        refine AOpsE.read trivial rfl (by decide) (Reader.move (.inl rfl) (ok_const rfl) (v := .lit (.bool true)) rfl) ?_
                        refine AOpsE.skip ⟨10, false, 96, _, rfl, rfl, rfl, by simp⟩ rfl (by decide) ?_
                        refine AOpsE.skip ⟨10, false, 96, _, rfl, rfl, rfl, by simp⟩ rfl (by decide) ?_
                        refine AOpsE.skip ⟨10, false, 96, _, rfl, rfl, rfl, by simp⟩ rfl (by decide) ?_
                        refine AOpsE.skip ⟨10, false, 96, _, rfl, rfl, rfl, by simp⟩ rfl (by decide) ?_
                        refine AOpsE.read trivial rfl (by decide) (Reader.pick rfl (b := true) rfl (ok_const rfl) (ok_const rfl) (v := .lit (.bool true)) rfl) ?_
                        refine AOpsE.read trivial rfl (by decide) (Reader.move (.inl rfl) (ok_const rfl) (v := .lit (.bool true)) rfl) ?_
                        refine AOpsE.skip ⟨16, false, 102, _, rfl, rfl, rfl, by simp⟩ rfl (by decide) ?_
                        refine AOpsE.skip ⟨16, false, 102, _, rfl, rfl, rfl, by simp⟩ rfl (by decide) ?_
                        refine AOpsE.skip ⟨16, false, 102, _, rfl, rfl, rfl, by simp⟩ rfl (by decide) ?_
                        refine AOpsE.skip ⟨16, false, 102, _, rfl, rfl, rfl, by simp⟩ rfl (by decide) ?_
                        refine AOpsE.skip ⟨16, false, 102, _, rfl, rfl, rfl, by simp⟩ rfl (by decide) ?_
                        refine AOpsE.skip ⟨16, false, 102, _, rfl, rfl, rfl, by simp⟩ rfl (by decide) ?_
                        refine AOpsE.skip ⟨16, false, 102, _, rfl, rfl, rfl, by simp⟩ rfl (by decide) ?_
                        refine AOpsE.skip ⟨16, false, 102, _, rfl, rfl, rfl, by simp⟩ rfl (by decide) ?_
                        refine AOpsE.read trivial rfl (by decide) (Reader.pick rfl (b := true) rfl (ok_const rfl) (ok_const rfl) (v := .lit (.bool true)) rfl) ?_
                        refine AOpsE.read trivial rfl (by decide) (Reader.move (.inl rfl) (ok_const rfl) (v := .lit (.bool true)) rfl) ?_
                        refine AOpsE.skip ⟨26, false, 112, _, rfl, rfl, rfl, by simp⟩ rfl (by decide) ?_
                        refine AOpsE.skip ⟨26, false, 112, _, rfl, rfl, rfl, by simp⟩ rfl (by decide) ?_
                        refine AOpsE.skip ⟨26, false, 112, _, rfl, rfl, rfl, by simp⟩ rfl (by decide) ?_
                        refine AOpsE.skip ⟨26, false, 112, _, rfl, rfl, rfl, by simp⟩ rfl (by decide) ?_
                        refine AOpsE.skip ⟨26, false, 112, _, rfl, rfl, rfl, by simp⟩ rfl (by decide) ?_
                        refine AOpsE.skip ⟨26, false, 112, _, rfl, rfl, rfl, by simp⟩ rfl (by decide) ?_
                        refine AOpsE.skip ⟨26, false, 112, _, rfl, rfl, rfl, by simp⟩ rfl (by decide) ?_
                        refine AOpsE.skip ⟨26, false, 112, _, rfl, rfl, rfl, by simp⟩ rfl (by decide) ?_
                        refine AOpsE.skip ⟨26, false, 112, _, rfl, rfl, rfl, by simp⟩ rfl (by decide) ?_
                        refine AOpsE.skip ⟨26, false, 112, _, rfl, rfl, rfl, by simp⟩ rfl (by decide) ?_
                        refine AOpsE.skip ⟨26, false, 112, _, rfl, rfl, rfl, by simp⟩ rfl (by decide) ?_
                        refine AOpsE.skip ⟨26, false, 112, _, rfl, rfl, rfl, by simp⟩ rfl (by decide) ?_
                        refine AOpsE.read trivial rfl (by decide) (Reader.pick rfl (b := true) rfl (ok_const rfl) (ok_const rfl) (v := .lit (.bool true)) rfl) ?_
                        refine AOpsE.read trivial rfl (by decide) (Reader.move (.inl rfl) (ok_const rfl) (v := .lit (.bool true)) rfl) ?_
                        refine AOpsE.skip ⟨40, false, 126, _, rfl, rfl, rfl, by simp⟩ rfl (by decide) ?_
                        refine AOpsE.skip ⟨40, false, 126, _, rfl, rfl, rfl, by simp⟩ rfl (by decide) ?_
                        refine AOpsE.skip ⟨40, false, 126, _, rfl, rfl, rfl, by simp⟩ rfl (by decide) ?_
                        refine AOpsE.skip ⟨40, false, 126, _, rfl, rfl, rfl, by simp⟩ rfl (by decide) ?_
                        refine AOpsE.read trivial rfl (by decide) (Reader.pick rfl (b := true) rfl (ok_const rfl) (ok_const rfl) (v := .lit (.bool true)) rfl) ?_
                        exact AOpsE.nil rfl
                      · skip
                        have h9' : ¬ (n2 ≠ ((((lexLines b).getD i []).getD k f0).line)) := (by have hh := bne_eq_false_iff_eq.1 h9; omega)
                        clear h9
                        refine AOpsE.read ⟨90, rfl, rfl⟩ rfl (by decide) (Reader.fieldL rfl ⟨_, _, Tryd.underlying33, rfl, rfl, rfl, sizeOf_3⟩ (by decide) rfl) ?_
                        refine AOpsE.read ⟨90, rfl, rfl⟩ rfl (by decide) (Reader.loadL rfl Tryd.underlying3 sizeOf_3 rfl rfl (v := .lit (.int .i64 (((((lexLines b).getD i []).getD k f0).col : Nat) : Int))) rfl rfl) ?_
                        refine AOpsE.read ⟨90, rfl, rfl⟩ rfl (by decide) (Reader.move (.inl rfl) (ok_const rfl) (v := .lit (.int .i64 (e : Int))) rfl) ?_
                        refine AOpsE.read ⟨90, rfl, rfl⟩ rfl (by decide) (Reader.int rfl rfl rfl (r := .bool (decide ((((((lexLines b).getD i []).getD k f0).col : Nat) : Int) ≤ (e : Int)))) rfl) ?_
                        refine AOpsE.read trivial rfl (by decide) (Reader.pick rfl (b := false) rfl (ok_const rfl) (ok_const rfl) (v := .lit (.bool (decide ((((((lexLines b).getD i []).getD k f0).col : Nat) : Int) ≤ (e : Int))))) rfl) ?_
                        refine AOpsE.read trivial rfl (by decide) (Reader.move (.inl rfl) (ok_const rfl) (v := .lit (.bool (decide ((((((lexLines b).getD i []).getD k f0).col : Nat) : Int) ≤ (e : Int))))) rfl) ?_
                        refine AOpsE.splitJ (t := 96) (b := decide ((((((lexLines b).getD i []).getD k f0).col : Nat) : Int) ≤ (e : Int))) (x := true) (y := (bif (((((((lexLines b).getD i []).getD k f0).text).length : Nat) : Int) == 0) then true else (bif (decide (((((bg2 + ((((lexLines b).getD i []).getD k f0).col)) - 1) + (((((lexLines b).getD i []).getD k f0).text).length) : Nat) : Int) > (b.length : Int))) then true else (bif (!(((b.take (((bg2 + ((((lexLines b).getD i []).getD k f0).col)) - 1) + (((((lexLines b).getD i []).getD k f0).text).length))).drop ((bg2 + ((((lexLines b).getD i []).getD k f0).col)) - 1)) == ((((lexLines b).getD i []).getD k f0).text))) then true else (((((((lexLines b).getD i []).getD k f0).text).getD 0 0).toNat : Int) == 35))))) rfl (fun h10 => ?_) (fun h10 => ?_)
                        · skip
                          have h10' : ((((lexLines b).getD i []).getD k f0).col) ≤ e := (by have hh := of_decide_eq_true h10; omega)
                          clear h10
                          refine AOpsE.skip ⟨10, false, 96, _, rfl, rfl, rfl, by simp⟩ rfl (by decide) ?_
                          refine AOpsE.skip ⟨10, false, 96, _, rfl, rfl, rfl, by simp⟩ rfl (by decide) ?_
                          refine AOpsE.skip ⟨10, false, 96, _, rfl, rfl, rfl, by simp⟩ rfl (by decide) ?_
                          refine AOpsE.skip ⟨10, false, 96, _, rfl, rfl, rfl, by simp⟩ rfl (by decide) ?_
                          refine AOpsE.read trivial rfl (by decide) (Reader.pick rfl (b := true) rfl (ok_const rfl) (ok_const rfl) (v := .lit (.bool true)) rfl) ?_
                          refine AOpsE.read trivial rfl (by decide) (Reader.move (.inl rfl) (ok_const rfl) (v := .lit (.bool true)) rfl) ?_
                          refine AOpsE.skip ⟨16, false, 102, _, rfl, rfl, rfl, by simp⟩ rfl (by decide) ?_
                          refine AOpsE.skip ⟨16, false, 102, _, rfl, rfl, rfl, by simp⟩ rfl (by decide) ?_
                          refine AOpsE.skip ⟨16, false, 102, _, rfl, rfl, rfl, by simp⟩ rfl (by decide) ?_
                          refine AOpsE.skip ⟨16, false, 102, _, rfl, rfl, rfl, by simp⟩ rfl (by decide) ?_
                          refine AOpsE.skip ⟨16, false, 102, _, rfl, rfl, rfl, by simp⟩ rfl (by decide) ?_
                          refine AOpsE.skip ⟨16, false, 102, _, rfl, rfl, rfl, by simp⟩ rfl (by decide) ?_
                          refine AOpsE.skip ⟨16, false, 102, _, rfl, rfl, rfl, by simp⟩ rfl (by decide) ?_
                          refine AOpsE.skip ⟨16, false, 102, _, rfl, rfl, rfl, by simp⟩ rfl (by decide) ?_
                          refine AOpsE.read trivial rfl (by decide) (Reader.pick rfl (b := true) rfl (ok_const rfl) (ok_const rfl) (v := .lit (.bool true)) rfl) ?_
                          refine AOpsE.read trivial rfl (by decide) (Reader.move (.inl rfl) (ok_const rfl) (v := .lit (.bool true)) rfl) ?_
                          refine AOpsE.skip ⟨26, false, 112, _, rfl, rfl, rfl, by simp⟩ rfl (by decide) ?_
                          refine AOpsE.skip ⟨26, false, 112, _, rfl, rfl, rfl, by simp⟩ rfl (by decide) ?_
                          refine AOpsE.skip ⟨26, false, 112, _, rfl, rfl, rfl, by simp⟩ rfl (by decide) ?_
                          refine AOpsE.skip ⟨26, false, 112, _, rfl, rfl, rfl, by simp⟩ rfl (by decide) ?_
                          refine AOpsE.skip ⟨26, false, 112, _, rfl, rfl, rfl, by simp⟩ rfl (by decide) ?_
                          refine AOpsE.skip ⟨26, false, 112, _, rfl, rfl, rfl, by simp⟩ rfl (by decide) ?_
                          refine AOpsE.skip ⟨26, false, 112, _, rfl, rfl, rfl, by simp⟩ rfl (by decide) ?_
                          refine AOpsE.skip ⟨26, false, 112, _, rfl, rfl, rfl, by simp⟩ rfl (by decide) ?_
                          refine AOpsE.skip ⟨26, false, 112, _, rfl, rfl, rfl, by simp⟩ rfl (by decide) ?_
                          refine AOpsE.skip ⟨26, false, 112, _, rfl, rfl, rfl, by simp⟩ rfl (by decide) ?_
                          refine AOpsE.skip ⟨26, false, 112, _, rfl, rfl, rfl, by simp⟩ rfl (by decide) ?_
                          refine AOpsE.skip ⟨26, false, 112, _, rfl, rfl, rfl, by simp⟩ rfl (by decide) ?_
                          refine AOpsE.read trivial rfl (by decide) (Reader.pick rfl (b := true) rfl (ok_const rfl) (ok_const rfl) (v := .lit (.bool true)) rfl) ?_
                          refine AOpsE.read trivial rfl (by decide) (Reader.move (.inl rfl) (ok_const rfl) (v := .lit (.bool true)) rfl) ?_
                          refine AOpsE.skip ⟨40, false, 126, _, rfl, rfl, rfl, by simp⟩ rfl (by decide) ?_
                          refine AOpsE.skip ⟨40, false, 126, _, rfl, rfl, rfl, by simp⟩ rfl (by decide) ?_
                          refine AOpsE.skip ⟨40, false, 126, _, rfl, rfl, rfl, by simp⟩ rfl (by decide) ?_
                          refine AOpsE.skip ⟨40, false, 126, _, rfl, rfl, rfl, by simp⟩ rfl (by decide) ?_
                          refine AOpsE.read trivial rfl (by decide) (Reader.pick rfl (b := true) rfl (ok_const rfl) (ok_const rfl) (v := .lit (.bool true)) rfl) ?_
                          exact AOpsE.nil rfl
                        · skip
                          have h10' : ¬ (((((lexLines b).getD i []).getD k f0).col) ≤ e) := (by have hh := of_decide_eq_false h10; omega)
                          clear h10
                          refine AOpsE.read ⟨96, rfl, rfl⟩ rfl (by decide) (Reader.fieldL rfl ⟨_, _, Tryd.underlying33, rfl, rfl, rfl, sizeOf_9⟩ (by decide) rfl) ?_
                          refine AOpsE.read ⟨96, rfl, rfl⟩ rfl (by decide) (Reader.loadL rfl Tryd.underlying9 sizeOf_9 rfl rfl (v := .str ((((lexLines b).getD i []).getD k f0).text)) rfl rfl) ?_
                          refine AOpsE.read ⟨96, rfl, rfl⟩ rfl (by decide) (Reader.lenStr' (l := (((lexLines b).getD i []).getD k f0).text) rfl rfl rfl rfl Tryd.underlying9 rfl (m := ((((lexLines b).getD i []).getD k f0).text).length) (by first | rfl | simp)) ?_
                          refine AOpsE.read ⟨96, rfl, rfl⟩ rfl (by decide) (Reader.int rfl rfl rfl (r := .bool (((((((lexLines b).getD i []).getD k f0).text).length : Nat) : Int) == 0)) rfl) ?_
                          refine AOpsE.read trivial rfl (by decide) (Reader.pick rfl (b := false) rfl (ok_const rfl) (ok_const rfl) (v := .lit (.bool (((((((lexLines b).getD i []).getD k f0).text).length : Nat) : Int) == 0))) rfl) ?_
                          refine AOpsE.read trivial rfl (by decide) (Reader.move (.inl rfl) (ok_const rfl) (v := .lit (.bool (((((((lexLines b).getD i []).getD k f0).text).length : Nat) : Int) == 0))) rfl) ?_
                          refine AOpsE.splitJ (t := 102) (b := ((((((lexLines b).getD i []).getD k f0).text).length : Nat) : Int) == 0) (x := true) (y := (bif (decide (((((bg2 + ((((lexLines b).getD i []).getD k f0).col)) - 1) + (((((lexLines b).getD i []).getD k f0).text).length) : Nat) : Int) > (b.length : Int))) then true else (bif (!(((b.take (((bg2 + ((((lexLines b).getD i []).getD k f0).col)) - 1) + (((((lexLines b).getD i []).getD k f0).text).length))).drop ((bg2 + ((((lexLines b).getD i []).getD k f0).col)) - 1)) == ((((lexLines b).getD i []).getD k f0).text))) then true else (((((((lexLines b).getD i []).getD k f0).text).getD 0 0).toNat : Int) == 35)))) rfl (fun h11 => ?_) (fun h11 => ?_)
                          · skip
                            have h11' : (((((lexLines b).getD i []).getD k f0).text).length) = 0 := (by have hh := eq_of_beq h11; omega)
                            clear h11
                            refine AOpsE.skip ⟨16, false, 102, _, rfl, rfl, rfl, by simp⟩ rfl (by decide) ?_
                            refine AOpsE.skip ⟨16, false, 102, _, rfl, rfl, rfl, by simp⟩ rfl (by decide) ?_
                            refine AOpsE.skip ⟨16, false, 102, _, rfl, rfl, rfl, by simp⟩ rfl (by decide) ?_
                            refine AOpsE.skip ⟨16, false, 102, _, rfl, rfl, rfl, by simp⟩ rfl (by decide) ?_
                            refine AOpsE.skip ⟨16, false, 102, _, rfl, rfl, rfl, by simp⟩ rfl (by decide) ?_
                            refine AOpsE.skip ⟨16, false, 102, _, rfl, rfl, rfl, by simp⟩ rfl (by decide) ?_
                            refine AOpsE.skip ⟨16, false, 102, _, rfl, rfl, rfl, by simp⟩ rfl (by decide) ?_
                            refine AOpsE.skip ⟨16, false, 102, _, rfl, rfl, rfl, by simp⟩ rfl (by decide) ?_
                            refine AOpsE.read trivial rfl (by decide) (Reader.pick rfl (b := true) rfl (ok_const rfl) (ok_const rfl) (v := .lit (.bool true)) rfl) ?_
                            refine AOpsE.read trivial rfl (by decide) (Reader.move (.inl rfl) (ok_const rfl) (v := .lit (.bool true)) rfl) ?_
                            refine AOpsE.skip ⟨26, false, 112, _, rfl, rfl, rfl, by simp⟩ rfl (by decide) ?_
                            refine AOpsE.skip ⟨26, false, 112, _, rfl, rfl, rfl, by simp⟩ rfl (by decide) ?_
                            refine AOpsE.skip ⟨26, false, 112, _, rfl, rfl, rfl, by simp⟩ rfl (by decide) ?_
                            refine AOpsE.skip ⟨26, false, 112, _, rfl, rfl, rfl, by simp⟩ rfl (by decide) ?_
                            refine AOpsE.skip ⟨26, false, 112, _, rfl, rfl, rfl, by simp⟩ rfl (by decide) ?_
                            refine AOpsE.skip ⟨26, false, 112, _, rfl, rfl, rfl, by simp⟩ rfl (by decide) ?_
                            refine AOpsE.skip ⟨26, false, 112, _, rfl, rfl, rfl, by simp⟩ rfl (by decide) ?_
                            refine AOpsE.skip ⟨26, false, 112, _, rfl, rfl, rfl, by simp⟩ rfl (by decide) ?_
                            refine AOpsE.skip ⟨26, false, 112, _, rfl, rfl, rfl, by simp⟩ rfl (by decide) ?_
                            refine AOpsE.skip ⟨26, false, 112, _, rfl, rfl, rfl, by simp⟩ rfl (by decide) ?_
                            refine AOpsE.skip ⟨26, false, 112, _, rfl, rfl, rfl, by simp⟩ rfl (by decide) ?_
                            refine AOpsE.skip ⟨26, false, 112, _, rfl, rfl, rfl, by simp⟩ rfl (by decide) ?_
                            refine AOpsE.read trivial rfl (by decide) (Reader.pick rfl (b := true) rfl (ok_const rfl) (ok_const rfl) (v := .lit (.bool true)) rfl) ?_
                            refine AOpsE.read trivial rfl (by decide) (Reader.move (.inl rfl) (ok_const rfl) (v := .lit (.bool true)) rfl) ?_
                            refine AOpsE.skip ⟨40, false, 126, _, rfl, rfl, rfl, by simp⟩ rfl (by decide) ?_
                            refine AOpsE.skip ⟨40, false, 126, _, rfl, rfl, rfl, by simp⟩ rfl (by decide) ?_
                            refine AOpsE.skip ⟨40, false, 126, _, rfl, rfl, rfl, by simp⟩ rfl (by decide) ?_
                            refine AOpsE.skip ⟨40, false, 126, _, rfl, rfl, rfl, by simp⟩ rfl (by decide) ?_
                            refine AOpsE.read trivial rfl (by decide) (Reader.pick rfl (b := true) rfl (ok_const rfl) (ok_const rfl) (v := .lit (.bool true)) rfl) ?_
                            exact AOpsE.nil rfl
                          · skip
                            have h11' : ¬ ((((((lexLines b).getD i []).getD k f0).text).length) = 0) := (by have hh := beq_eq_false_iff_ne.1 h11; omega)
                            clear h11
                            refine AOpsE.read ⟨102, rfl, rfl⟩ rfl (by decide) (Reader.move (.inl rfl) (ok_const rfl) (v := .lit (.int .i64 (((bg2 + ((((lexLines b).getD i []).getD k f0).col)) - 1 : Nat) : Int))) rfl) ?_
                            refine AOpsE.read ⟨102, rfl, rfl⟩ rfl (by decide) (Reader.fieldL rfl ⟨_, _, Tryd.underlying33, rfl, rfl, rfl, sizeOf_9⟩ (by decide) rfl) ?_
                            refine AOpsE.read ⟨102, rfl, rfl⟩ rfl (by decide) (Reader.loadL rfl Tryd.underlying9 sizeOf_9 rfl rfl (v := .str ((((lexLines b).getD i []).getD k f0).text)) rfl rfl) ?_
                            refine AOpsE.read ⟨102, rfl, rfl⟩ rfl (by decide) (Reader.lenStr' (l := (((lexLines b).getD i []).getD k f0).text) rfl rfl rfl rfl Tryd.underlying9 rfl (m := ((((lexLines b).getD i []).getD k f0).text).length) (by first | rfl | simp)) ?_
                            refine AOpsE.read ⟨102, rfl, rfl⟩ rfl (by decide) (Reader.sum rfl rfl rfl (m := (((bg2 + ((((lexLines b).getD i []).getD k f0).col)) - 1 : Nat) : Int) + ((((((lexLines b).getD i []).getD k f0).text).length : Nat) : Int)) (c := ((((bg2 + ((((lexLines b).getD i []).getD k f0).col)) - 1) + (((((lexLines b).getD i []).getD k f0).text).length) : Nat) : Int)) rfl (by first | exact IntWalk.i64_in _ (by omega) | exact IntWalk.i64_in _ (by constructor <;> omega) | (simp only [];omega))) ?_
                            refine AOpsE.read ⟨102, rfl, rfl⟩ rfl (by decide) (Reader.move (.inl rfl) (ok_const rfl) (v := .list false 5 (byteAVs b)) rfl) ?_
                            refine AOpsE.read ⟨102, rfl, rfl⟩ rfl (by decide) (Reader.len' (xs := byteAVs b) rfl rfl rfl rfl Tryd.underlying22 rfl (m := b.length) (byteAVs_len _)) ?_
                            refine AOpsE.read ⟨102, rfl, rfl⟩ rfl (by decide) (Reader.int rfl rfl rfl (r := .bool (decide (((((bg2 + ((((lexLines b).getD i []).getD k f0).col)) - 1) + (((((lexLines b).getD i []).getD k f0).text).length) : Nat) : Int) > (b.length : Int)))) rfl) ?_
                            refine AOpsE.read trivial rfl (by decide) (Reader.pick rfl (b := false) rfl (ok_const rfl) (ok_const rfl) (v := .lit (.bool (decide (((((bg2 + ((((lexLines b).getD i []).getD k f0).col)) - 1) + (((((lexLines b).getD i []).getD k f0).text).length) : Nat) : Int) > (b.length : Int))))) rfl) ?_
                            refine AOpsE.read trivial rfl (by decide) (Reader.move (.inl rfl) (ok_const rfl) (v := .lit (.bool (decide (((((bg2 + ((((lexLines b).getD i []).getD k f0).col)) - 1) + (((((lexLines b).getD i []).getD k f0).text).length) : Nat) : Int) > (b.length : Int))))) rfl) ?_
                            refine AOpsE.splitJ (t := 112) (b := decide (((((bg2 + ((((lexLines b).getD i []).getD k f0).col)) - 1) + (((((lexLines b).getD i []).getD k f0).text).length) : Nat) : Int) > (b.length : Int))) (x := true) (y := (bif (!(((b.take (((bg2 + ((((lexLines b).getD i []).getD k f0).col)) - 1) + (((((lexLines b).getD i []).getD k f0).text).length))).drop ((bg2 + ((((lexLines b).getD i []).getD k f0).col)) - 1)) == ((((lexLines b).getD i []).getD k f0).text))) then true else (((((((lexLines b).getD i []).getD k f0).text).getD 0 0).toNat : Int) == 35))) rfl (fun h12 => ?_) (fun h12 => ?_)
                            · skip
                              have h12' : (((bg2 + ((((lexLines b).getD i []).getD k f0).col)) - 1) + (((((lexLines b).getD i []).getD k f0).text).length)) > b.length := (by have hh := of_decide_eq_true h12; omega)
                              clear h12
                              refine AOpsE.skip ⟨26, false, 112, _, rfl, rfl, rfl, by simp⟩ rfl (by decide) ?_
                              refine AOpsE.skip ⟨26, false, 112, _, rfl, rfl, rfl, by simp⟩ rfl (by decide) ?_
                              refine AOpsE.skip ⟨26, false, 112, _, rfl, rfl, rfl, by simp⟩ rfl (by decide) ?_
                              refine AOpsE.skip ⟨26, false, 112, _, rfl, rfl, rfl, by simp⟩ rfl (by decide) ?_
                              refine AOpsE.skip ⟨26, false, 112, _, rfl, rfl, rfl, by simp⟩ rfl (by decide) ?_
                              refine AOpsE.skip ⟨26, false, 112, _, rfl, rfl, rfl, by simp⟩ rfl (by decide) ?_
                              refine AOpsE.skip ⟨26, false, 112, _, rfl, rfl, rfl, by simp⟩ rfl (by decide) ?_
                              refine AOpsE.skip ⟨26, false, 112, _, rfl, rfl, rfl, by simp⟩ rfl (by decide) ?_
                              refine AOpsE.skip ⟨26, false, 112, _, rfl, rfl, rfl, by simp⟩ rfl (by decide) ?_
                              refine AOpsE.skip ⟨26, false, 112, _, rfl, rfl, rfl, by simp⟩ rfl (by decide) ?_
                              refine AOpsE.skip ⟨26, false, 112, _, rfl, rfl, rfl, by simp⟩ rfl (by decide) ?_
                              refine AOpsE.skip ⟨26, false, 112, _, rfl, rfl, rfl, by simp⟩ rfl (by decide) ?_
                              refine AOpsE.read trivial rfl (by decide) (Reader.pick rfl (b := true) rfl (ok_const rfl) (ok_const rfl) (v := .lit (.bool true)) rfl) ?_
                              refine AOpsE.read trivial rfl (by decide) (Reader.move (.inl rfl) (ok_const rfl) (v := .lit (.bool true)) rfl) ?_
                              refine AOpsE.skip ⟨40, false, 126, _, rfl, rfl, rfl, by simp⟩ rfl (by decide) ?_
                              refine AOpsE.skip ⟨40, false, 126, _, rfl, rfl, rfl, by simp⟩ rfl (by decide) ?_
                              refine AOpsE.skip ⟨40, false, 126, _, rfl, rfl, rfl, by simp⟩ rfl (by decide) ?_
                              refine AOpsE.skip ⟨40, false, 126, _, rfl, rfl, rfl, by simp⟩ rfl (by decide) ?_
                              refine AOpsE.read trivial rfl (by decide) (Reader.pick rfl (b := true) rfl (ok_const rfl) (ok_const rfl) (v := .lit (.bool true)) rfl) ?_
                              exact AOpsE.nil rfl
                            · skip
                              have h12' : ¬ ((((bg2 + ((((lexLines b).getD i []).getD k f0).col)) - 1) + (((((lexLines b).getD i []).getD k f0).text).length)) > b.length) := (by have hh := of_decide_eq_false h12; omega)
                              clear h12
                              refine AOpsE.read ⟨112, rfl, rfl⟩ rfl (by decide) (Reader.move (.inl rfl) (ok_const rfl) (v := .list false 5 (byteAVs b)) rfl) ?_
                              refine AOpsE.read ⟨112, rfl, rfl⟩ rfl (by decide) (Reader.move (.inl rfl) (ok_const rfl) (v := .lit (.int .i64 (((bg2 + ((((lexLines b).getD i []).getD k f0).col)) - 1 : Nat) : Int))) rfl) ?_
                              refine AOpsE.read ⟨112, rfl, rfl⟩ rfl (by decide) (Reader.move (.inl rfl) (ok_const rfl) (v := .lit (.int .i64 (((bg2 + ((((lexLines b).getD i []).getD k f0).col)) - 1 : Nat) : Int))) rfl) ?_
                              refine AOpsE.read ⟨112, rfl, rfl⟩ rfl (by decide) (Reader.fieldL rfl ⟨_, _, Tryd.underlying33, rfl, rfl, rfl, sizeOf_9⟩ (by decide) rfl) ?_
                              refine AOpsE.read ⟨112, rfl, rfl⟩ rfl (by decide) (Reader.loadL rfl Tryd.underlying9 sizeOf_9 rfl rfl (v := .str ((((lexLines b).getD i []).getD k f0).text)) rfl rfl) ?_
                              refine AOpsE.read ⟨112, rfl, rfl⟩ rfl (by decide) (Reader.lenStr' (l := (((lexLines b).getD i []).getD k f0).text) rfl rfl rfl rfl Tryd.underlying9 rfl (m := ((((lexLines b).getD i []).getD k f0).text).length) (by first | rfl | simp)) ?_
                              refine AOpsE.read ⟨112, rfl, rfl⟩ rfl (by decide) (Reader.sum rfl rfl rfl (m := (((bg2 + ((((lexLines b).getD i []).getD k f0).col)) - 1 : Nat) : Int) + ((((((lexLines b).getD i []).getD k f0).text).length : Nat) : Int)) (c := ((((bg2 + ((((lexLines b).getD i []).getD k f0).col)) - 1) + (((((lexLines b).getD i []).getD k f0).text).length) : Nat) : Int)) rfl (by first | exact IntWalk.i64_in _ (by omega) | exact IntWalk.i64_in _ (by constructor <;> omega) | (simp only [];omega))) ?_
                              refine AOpsE.read ⟨112, rfl, rfl⟩ rfl (by decide) (Reader.piece (xs := (byteAVs b)) (i := (bg2 + ((((lexLines b).getD i []).getD k f0).col)) - 1) (j := ((bg2 + ((((lexLines b).getD i []).getD k f0).col)) - 1) + (((((lexLines b).getD i []).getD k f0).text).length)) rfl Tryd.underlying22 sizeOf_5 rfl ⟨_, _, rfl, rfl⟩ ⟨_, _, rfl, rfl⟩ (by first | omega | (simp; omega)) (by rw [byteAVs_len]; omega) (ys := (byteAVs ((b.take (((bg2 + ((((lexLines b).getD i []).getD k f0).col)) - 1) + (((((lexLines b).getD i []).getD k f0).text).length))).drop ((bg2 + ((((lexLines b).getD i []).getD k f0).col)) - 1)))) (by simp [byteAVs, List.map_take, List.map_drop])) ?_
                              refine AOpsE.read ⟨112, rfl, rfl⟩ rfl (by decide) (Reader.ofBytes (l := (b.take (((bg2 + ((((lexLines b).getD i []).getD k f0).col)) - 1) + (((((lexLines b).getD i []).getD k f0).text).length))).drop ((bg2 + ((((lexLines b).getD i []).getD k f0).col)) - 1)) rfl Tryd.underlying22 Tryd.underlying9 Tryd.underlying5 rfl) ?_
                              refine AOpsE.read ⟨112, rfl, rfl⟩ rfl (by decide) (Reader.fieldL rfl ⟨_, _, Tryd.underlying33, rfl, rfl, rfl, sizeOf_9⟩ (by decide) rfl) ?_
                              refine AOpsE.read ⟨112, rfl, rfl⟩ rfl (by decide) (Reader.loadL rfl Tryd.underlying9 sizeOf_9 rfl rfl (v := .str ((((lexLines b).getD i []).getD k f0).text)) rfl rfl) ?_
                              refine AOpsE.read ⟨112, rfl, rfl⟩ rfl (by decide) (Reader.strs rfl rfl rfl (r := !(((b.take (((bg2 + ((((lexLines b).getD i []).getD k f0).col)) - 1) + (((((lexLines b).getD i []).getD k f0).text).length))).drop ((bg2 + ((((lexLines b).getD i []).getD k f0).col)) - 1)) == ((((lexLines b).getD i []).getD k f0).text))) rfl) ?_
                              refine AOpsE.read trivial rfl (by decide) (Reader.pick rfl (b := false) rfl (ok_const rfl) (ok_const rfl) (v := .lit (.bool (!(((b.take (((bg2 + ((((lexLines b).getD i []).getD k f0).col)) - 1) + (((((lexLines b).getD i []).getD k f0).text).length))).drop ((bg2 + ((((lexLines b).getD i []).getD k f0).col)) - 1)) == ((((lexLines b).getD i []).getD k f0).text))))) rfl) ?_
                              refine AOpsE.read trivial rfl (by decide) (Reader.move (.inl rfl) (ok_const rfl) (v := .lit (.bool (!(((b.take (((bg2 + ((((lexLines b).getD i []).getD k f0).col)) - 1) + (((((lexLines b).getD i []).getD k f0).text).length))).drop ((bg2 + ((((lexLines b).getD i []).getD k f0).col)) - 1)) == ((((lexLines b).getD i []).getD k f0).text))))) rfl) ?_
                              refine AOpsE.splitJ (t := 126) (b := !(((b.take (((bg2 + ((((lexLines b).getD i []).getD k f0).col)) - 1) + (((((lexLines b).getD i []).getD k f0).text).length))).drop ((bg2 + ((((lexLines b).getD i []).getD k f0).col)) - 1)) == ((((lexLines b).getD i []).getD k f0).text))) (x := true) (y := (((((((lexLines b).getD i []).getD k f0).text).getD 0 0).toNat : Int) == 35)) rfl (fun h13 => ?_) (fun h13 => ?_)
                              · skip
                                have h13' : ¬ (((b.take (((bg2 + ((((lexLines b).getD i []).getD k f0).col)) - 1) + (((((lexLines b).getD i []).getD k f0).text).length))).drop ((bg2 + ((((lexLines b).getD i []).getD k f0).col)) - 1)) = ((((lexLines b).getD i []).getD k f0).text)) := (beq_eq_false_iff_ne.1 (bnot_t h13))
                                clear h13
                                refine AOpsE.skip ⟨40, false, 126, _, rfl, rfl, rfl, by simp⟩ rfl (by decide) ?_
                                refine AOpsE.skip ⟨40, false, 126, _, rfl, rfl, rfl, by simp⟩ rfl (by decide) ?_
                                refine AOpsE.skip ⟨40, false, 126, _, rfl, rfl, rfl, by simp⟩ rfl (by decide) ?_
                                refine AOpsE.skip ⟨40, false, 126, _, rfl, rfl, rfl, by simp⟩ rfl (by decide) ?_
                                refine AOpsE.read trivial rfl (by decide) (Reader.pick rfl (b := true) rfl (ok_const rfl) (ok_const rfl) (v := .lit (.bool true)) rfl) ?_
                                exact AOpsE.nil rfl
                              · skip
                                have h13' : ((b.take (((bg2 + ((((lexLines b).getD i []).getD k f0).col)) - 1) + (((((lexLines b).getD i []).getD k f0).text).length))).drop ((bg2 + ((((lexLines b).getD i []).getD k f0).col)) - 1)) = ((((lexLines b).getD i []).getD k f0).text) := (eq_of_beq (bnot_f h13))
                                clear h13
                                refine AOpsE.read ⟨126, rfl, rfl⟩ rfl (by decide) (Reader.fieldL rfl ⟨_, _, Tryd.underlying33, rfl, rfl, rfl, sizeOf_9⟩ (by decide) rfl) ?_
                                refine AOpsE.read ⟨126, rfl, rfl⟩ rfl (by decide) (Reader.loadL rfl Tryd.underlying9 sizeOf_9 rfl rfl (v := .str ((((lexLines b).getD i []).getD k f0).text)) rfl rfl) ?_
                                refine AOpsE.read ⟨126, rfl, rfl⟩ rfl (by decide) (Reader.byte (m := 0) (c := ((((lexLines b).getD i []).getD k f0).text).getD 0 0) rfl Tryd.underlying9 rfl rfl rfl (getD_some (by first | omega | (simp; omega)))) ?_
                                refine AOpsE.read ⟨126, rfl, rfl⟩ rfl (by decide) (Reader.int rfl rfl rfl (r := .bool (((((((lexLines b).getD i []).getD k f0).text).getD 0 0).toNat : Int) == 35)) rfl) ?_
                                refine AOpsE.read trivial rfl (by decide) (Reader.pick rfl (b := false) rfl (ok_const rfl) (ok_const rfl) (v := .lit (.bool (((((((lexLines b).getD i []).getD k f0).text).getD 0 0).toNat : Int) == 35))) rfl) ?_
                                exact AOpsE.nil rfl
                    refine AWp.cond (b := bif ((n2 : Int) != (((((lexLines b).getD i []).getD k f0).line : Nat) : Int)) then true else (bif (decide ((((((lexLines b).getD i []).getD k f0).col : Nat) : Int) ≤ (e : Int))) then true else (bif (((((((lexLines b).getD i []).getD k f0).text).length : Nat) : Int) == 0) then true else (bif (decide (((((bg2 + ((((lexLines b).getD i []).getD k f0).col)) - 1) + (((((lexLines b).getD i []).getD k f0).text).length) : Nat) : Int) > (b.length : Int))) then true else (bif (!(((b.take (((bg2 + ((((lexLines b).getD i []).getD k f0).col)) - 1) + (((((lexLines b).getD i []).getD k f0).text).length))).drop ((bg2 + ((((lexLines b).getD i []).getD k f0).col)) - 1)) == ((((lexLines b).getD i []).getD k f0).text))) then true else (((((((lexLines b).getD i []).getD k f0).text).getD 0 0).toNat : Int) == 35)))))) rfl (fun h14 => ?_) (fun h14 => ?_)
                    · skip
                      have h14' : False := (pl_bad (hQ2.found hk' (by assumption)) h14)
                      clear h14
                      refine AWp.seq (AWp.region ?_)
                      refine AOps.read trivial rfl (by decide) (Reader.move (.inr rfl) (ok_const rfl) (v := .lit (.bool false)) rfl) ?_
                      refine AOps.nil ?_
                      refine AWp.ret ?_
                      exact ⟨.inl rfl, _, ResOf.one 2 (.lit (.bool false)) rfl rfl, ⟨False.elim (by first | assumption | omega), rfl⟩⟩
                    · skip
                      have h14' : True := trivial
                      clear h14
                      refine AWp.skip ?_
                      refine AWp.seq ?_
                      refine AWp.seq (AWp.region ?_)
                      refine AOps.read trivial rfl (by decide) (Reader.move (.inr rfl) (ok_const rfl) (v := .lit (.int .i64 0)) rfl) ?_
                      refine AOps.nil ?_
                      refine AWp.block ?_
                      refine AWp.loopE [0, 3, 5, 6, 7, 8, 9, 10, 11, 13] [11] (fun m s => ∃ (j : Nat), m = (((lexLines b).getD i []).getD k f0).text.length - j ∧ s = ⟨[(0, .list false 5 (byteAVs b)), (3, .list false 31 ((lexLines b).map encL)), (5, .lit (.int .i64 (n2 : Int))), (6, .lit (.int .i64 (bg2 : Int))), (7, .lit (.int .i64 (q2 : Int))), (8, .lit (.int .i64 (i : Int))), (9, .lit (.int .i64 (e : Int))), (10, .lit (.int .i64 (k : Int))), (11, .lptr 11 0), (13, .lit (.int .i64 (j : Int)))], [(11, [.str ((((lexLines b).getD i []).getD k f0).text), .lit (.int .i64 (((((lexLines b).getD i []).getD k f0).line : Nat) : Int)), .lit (.int .i64 (((((lexLines b).getD i []).getD k f0).col : Nat) : Int))])], M⟩) ?_ ?_
                      · exact ⟨_, 0, rfl, rfl⟩
                      · rintro _ _ ⟨j, rfl, rfl⟩
                        have hab := fun hj => hQ2.above (j := j) (by omega) hk' hj
                        refine AWp.seq ?_
                        refine AWp.seq (AWp.region ?_)
                        refine AOps.read trivial rfl (by decide) (Reader.move (.inl rfl) (ok_const rfl) (v := .lit (.int .i64 (j : Int))) rfl) ?_
                        refine AOps.read trivial rfl (by decide) (Reader.fieldL rfl ⟨_, _, Tryd.underlying33, rfl, rfl, rfl, sizeOf_9⟩ (by decide) rfl) ?_
                        refine AOps.read trivial rfl (by decide) (Reader.loadL rfl Tryd.underlying9 sizeOf_9 rfl rfl (v := .str ((((lexLines b).getD i []).getD k f0).text)) rfl rfl) ?_
                        refine AOps.read trivial rfl (by decide) (Reader.lenStr' (l := (((lexLines b).getD i []).getD k f0).text) rfl rfl rfl rfl Tryd.underlying9 rfl (m := ((((lexLines b).getD i []).getD k f0).text).length) (by first | rfl | simp)) ?_
                        refine AOps.read trivial rfl (by decide) (Reader.int rfl rfl rfl (r := .bool (decide ((j : Int) < ((((((lexLines b).getD i []).getD k f0).text).length : Nat) : Int)))) rfl) ?_
                        refine AOps.nil ?_
                        refine AWp.cond (b := decide ((j : Int) < ((((((lexLines b).getD i []).getD k f0).text).length : Nat) : Int))) rfl (fun h15 => ?_) (fun h15 => ?_)
                        · skip
                          have h15' : j < (((((lexLines b).getD i []).getD k f0).text).length) := (by have hh := of_decide_eq_true h15; omega)
                          clear h15
                          refine AWp.skip ?_
                          refine AWp.seq ?_
                          refine AWp.block ?_
                          refine AWp.seq (AWp.region ?_)
                          refine AOps.read trivial rfl (by decide) (Reader.fieldL rfl ⟨_, _, Tryd.underlying33, rfl, rfl, rfl, sizeOf_9⟩ (by decide) rfl) ?_
                          refine AOps.read trivial rfl (by decide) (Reader.loadL rfl Tryd.underlying9 sizeOf_9 rfl rfl (v := .str ((((lexLines b).getD i []).getD k f0).text)) rfl rfl) ?_
                          refine AOps.read trivial rfl (by decide) (Reader.move (.inl rfl) (ok_const rfl) (v := .lit (.int .i64 (j : Int))) rfl) ?_
                          refine AOps.read trivial rfl (by decide) (Reader.byte (m := j) (c := ((((lexLines b).getD i []).getD k f0).text).getD j 0) rfl Tryd.underlying9 rfl rfl rfl (getD_some (by first | omega | (simp; omega)))) ?_
                          refine AOps.read trivial rfl (by decide) (Reader.int rfl rfl rfl (r := .bool (decide (((((((lexLines b).getD i []).getD k f0).text).getD j 0).toNat : Int) ≤ 32))) rfl) ?_
                          refine AOps.nil ?_
                          refine AWp.cond (b := decide (((((((lexLines b).getD i []).getD k f0).text).getD j 0).toNat : Int) ≤ 32)) rfl (fun h16 => ?_) (fun h16 => ?_)
                          · skip
                            have h16' : ((((((lexLines b).getD i []).getD k f0).text).getD j 0).toNat) ≤ 32 := (by have hh := of_decide_eq_true h16; omega)
                            clear h16
                            refine AWp.seq (AWp.region ?_)
                            refine AOps.read trivial rfl (by decide) (Reader.move (.inr rfl) (ok_const rfl) (v := .lit (.bool false)) rfl) ?_
                            refine AOps.nil ?_
                            refine AWp.ret ?_
                            exact ⟨.inl rfl, _, ResOf.one 2 (.lit (.bool false)) rfl rfl, ⟨False.elim (by first | assumption | omega), rfl⟩⟩
                          · skip
                            have h16' : ¬ (((((((lexLines b).getD i []).getD k f0).text).getD j 0).toNat) ≤ 32) := (by have hh := of_decide_eq_false h16; omega)
                            clear h16
                            refine AWp.skip ?_
                            refine AWp.region ?_
                            refine AOps.read trivial rfl (by decide) (Reader.move (.inl rfl) (ok_const rfl) (v := .lit (.int .i64 (j : Int))) rfl) ?_
                            refine AOps.read trivial rfl (by decide) (Reader.sum rfl rfl rfl (m := (j : Int) + 1) (c := ((j + 1 : Nat) : Int)) rfl (by first | exact IntWalk.i64_in _ (by omega) | exact IntWalk.i64_in _ (by constructor <;> omega) | (simp only [];omega))) ?_
                            refine AOps.read trivial rfl (by decide) (Reader.move (.inr rfl) (ok_const rfl) (v := .lit (.int .i64 ((j + 1 : Nat) : Int))) rfl) ?_
                            refine AOps.nil ?_
                            exact ⟨_, by omega, j + 1, rfl, rfl⟩
                        · skip
                          have h15' : ¬ (j < (((((lexLines b).getD i []).getD k f0).text).length)) := (by have hh := of_decide_eq_false h15; omega)
                          clear h15
                          refine AWp.exit ?_
                          refine AWp.region ?_
                          refine AOps.read trivial rfl (by decide) (Reader.fieldL rfl ⟨_, _, Tryd.underlying33, rfl, rfl, rfl, sizeOf_3⟩ (by decide) rfl) ?_
                          refine AOps.read trivial rfl (by decide) (Reader.loadL rfl Tryd.underlying3 sizeOf_3 rfl rfl (v := .lit (.int .i64 (((((lexLines b).getD i []).getD k f0).col : Nat) : Int))) rfl rfl) ?_
                          refine AOps.read trivial rfl (by decide) (Reader.fieldL rfl ⟨_, _, Tryd.underlying33, rfl, rfl, rfl, sizeOf_9⟩ (by decide) rfl) ?_
                          refine AOps.read trivial rfl (by decide) (Reader.loadL rfl Tryd.underlying9 sizeOf_9 rfl rfl (v := .str ((((lexLines b).getD i []).getD k f0).text)) rfl rfl) ?_
                          refine AOps.read trivial rfl (by decide) (Reader.lenStr' (l := (((lexLines b).getD i []).getD k f0).text) rfl rfl rfl rfl Tryd.underlying9 rfl (m := ((((lexLines b).getD i []).getD k f0).text).length) (by first | rfl | simp)) ?_
                          refine AOps.read trivial rfl (by decide) (Reader.sum rfl rfl rfl (m := (((((lexLines b).getD i []).getD k f0).col : Nat) : Int) + ((((((lexLines b).getD i []).getD k f0).text).length : Nat) : Int)) (c := ((((((lexLines b).getD i []).getD k f0).col) + (((((lexLines b).getD i []).getD k f0).text).length) : Nat) : Int)) rfl (by first | exact IntWalk.i64_in _ (by omega) | exact IntWalk.i64_in _ (by constructor <;> omega) | (simp only [];omega))) ?_
                          refine AOps.read trivial rfl (by decide) (Reader.move (.inr rfl) (ok_const rfl) (v := .lit (.int .i64 ((((((lexLines b).getD i []).getD k f0).col) + (((((lexLines b).getD i []).getD k f0).text).length) : Nat) : Int))) rfl) ?_
                          refine AOps.nil ?_
                          refine AWp.region ?_
                          refine AOps.read trivial rfl (by decide) (Reader.move (.inl rfl) (ok_const rfl) (v := .lit (.int .i64 (k : Int))) rfl) ?_
                          refine AOps.read trivial rfl (by decide) (Reader.sum rfl rfl rfl (m := (k : Int) + 1) (c := ((k + 1 : Nat) : Int)) rfl (by first | exact IntWalk.i64_in _ (by omega) | exact IntWalk.i64_in _ (by constructor <;> omega) | (simp only [];omega))) ?_
                          refine AOps.read trivial rfl (by decide) (Reader.move (.inr rfl) (ok_const rfl) (v := .lit (.int .i64 ((k + 1 : Nat) : Int))) rfl) ?_
                          refine AOps.nil ?_
                          exact ⟨_, by omega, k + 1, n2, bg2, q2, _, rfl, rfl, by omega, hQ2.step hk'⟩
              · skip
                have h5' : ¬ (k < (((lexLines b).getD i []).length)) := (by have hh := of_decide_eq_false h5; omega)
                clear h5
                refine AWp.exit ?_
                refine AWp.region ?_
                refine AOps.read trivial rfl (by decide) (Reader.move (.inl rfl) (ok_const rfl) (v := .lit (.int .i64 (i : Int))) rfl) ?_
                refine AOps.read trivial rfl (by decide) (Reader.sum rfl rfl rfl (m := (i : Int) + 1) (c := ((i + 1 : Nat) : Int)) rfl (by first | exact IntWalk.i64_in _ (by omega) | exact IntWalk.i64_in _ (by constructor <;> omega) | (simp only [];omega))) ?_
                refine AOps.read trivial rfl (by decide) (Reader.move (.inr rfl) (ok_const rfl) (v := .lit (.int .i64 ((i + 1 : Nat) : Int))) rfl) ?_
                refine AOps.nil ?_
                exact ⟨_, by omega, i + 1, n1, bg1, q1, rfl, rfl, by omega, hb5, hrd, hQ.out⟩
        · skip
          have h3' : ¬ (i < ((lexLines b).length)) := (by have hh := of_decide_eq_false h3; omega)
          clear h3
          refine AWp.exit ?_
          refine AWp.seq (AWp.region ?_)
          refine AOps.read trivial rfl (by decide) (Reader.move (.inr rfl) (ok_const rfl) (v := .lit (.bool true)) rfl) ?_
          refine AOps.nil ?_
          refine AWp.ret ?_
          exact ⟨.inl rfl, _, ResOf.one 2 (.lit (.bool true)) rfl rfl, ⟨rfl, rfl⟩⟩

end Go.Proofs.YtkdpehhdbjkljaaDoor
