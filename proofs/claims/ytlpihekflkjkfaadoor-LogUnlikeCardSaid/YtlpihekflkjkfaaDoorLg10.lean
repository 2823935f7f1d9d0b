/- Walks over abstract values, printed by my program av.py. -/
import Derived.Test.YtlpihekflkjkfaaDoorLg9
namespace Go.Proofs.YtlpihekflkjkfaaDoor
open Go.RowKit

theorem rdE_id {t : List UInt8} (hl : t.length ≤ 4294967280) : (rdE t).id.length ≤ 4294967280 := by
  unfold rdE; split
  · exact gE_id hl
  · exact Nat.zero_le _
theorem rdE_n3 (t : List UInt8) : -9223372036854775808 ≤ (rdE t).n ∧ (rdE t).n ≤ 9223372036854775807 := by
  unfold rdE; split
  · exact gE_n3 t
  · exact ⟨by show (-9223372036854775808 : Int) ≤ 0; omega, by show (0 : Int) ≤ 9223372036854775807; omega⟩
theorem text_len (r : Int) {e : Ev} (hid : e.id.length ≤ 80) (hn : -9223372036854775808 ≤ e.n ∧ e.n ≤ 9223372036854775807) : (textE r e).length ≤ 400 := by
  unfold textE
  split
  · rename_i h
    unfold lineE
    have h1 := digs_len20 r.toNat (by have := h.2; omega)
    have h2 := join_len_le (kwOf e.kind) (flE e) 80 (fun y hy => by
      rcases List.mem_cons.1 hy with rfl | hy
      · have := kw_len e.kind; omega
      · have q1 := sgw_len e.sig
        have q2 := itoa_len20 hn
        have q3 : presL.length = 8 := rfl
        have q4 : roomL.length = 4 := rfl
        unfold flE at hy
        (repeat' split at hy) <;> simp only [List.mem_cons, List.mem_nil_iff, or_false] at hy
        all_goals first
          | (rcases hy with rfl | rfl | rfl <;> omega)
          | (rcases hy with rfl | rfl <;> omega)
          | (subst hy; omega))
    have h3 := fl_len e
    have h4 : ((flE e).length + 1) * (80 + 1) ≤ 4 * 81 := Nat.mul_le_mul_right _ (by omega)
    simp only [List.length_append, List.length_cons, List.length_nil]
    omega
  · exact Nat.zero_le _
theorem rdX_0 {t : List UInt8} (h : rdX t = 0) : OkL t := by
  by_cases hk : OkL t
  · exact hk
  · rw [(rd_no hk).2.2] at h; cases h
theorem lback_f {t : List UInt8} (h0 : rdX t = 0) (h : (bif errE (rdN t) (rdE t) != 0 then true else (bif !(textE (rdN t) (rdE t) == t) then true else !(decide (RightE (rdE t))))) = true) : False := by
  obtain ⟨h1, h2⟩ := ok_line (rdX_0 h0)
  rw [errE_yes h1, textE_yes h1, h2, decide_eq_true h1.1] at h
  simp at h
theorem err_ne {r : Int} {e : Ev} (h : errE r e ≠ 0) : ¬ HasLine r e := fun hh => h (errE_yes hh)
theorem err_eq {r : Int} {e : Ev} (h : ¬ errE r e ≠ 0) : HasLine r e := by
  by_cases hh : HasLine r e
  · exact hh
  · rw [errE_no hh] at h; exact absurd (by decide) h
theorem lback_no {r : Int} {e : Ev} (h : errE r e ≠ 0) : (((textE r e).length : Int) == 0) = true := by rw [textE_no (err_ne h)]; rfl
theorem lback_ok {r : Int} {e : Ev} (h : ¬ errE r e ≠ 0) (hn : e.n ≤ 9223372036854775807) : (bif rdX (textE r e) == 0 then (bif rdN (textE r e) == r then ((rdE (textE r e)).kind == e.kind) && (((rdE (textE r e)).id == e.id) && (((rdE (textE r e)).sig == e.sig) && (((rdE (textE r e)).n == e.n) && true))) else false) else false) = true := by
  have h1 := err_eq h
  obtain ⟨h2, h3, h4, _⟩ := line_read h1 hn rfl
  rw [textE_yes h1, (rd_ok h2).2.2, h3, h4]; simp
theorem unl_f {a b : Int} {e f : Ev} (h : (bif errE a e != 0 then true else errE b f != 0) = false) : HasLine a e ∧ HasLine b f := by
  by_cases h1 : HasLine a e
  · rw [errE_yes h1] at h
    by_cases h2 : HasLine b f
    · exact ⟨h1, h2⟩
    · rw [errE_no h2] at h; simp at h
  · rw [errE_no h1] at h; simp at h
theorem split_last : ∀ (l : List UInt8), splitC 32 (l ++ [32]) = splitC 32 l ++ [[]]
  | [] => by rw [List.nil_append, splitC_hit, splitC_nil]; rfl
  | c :: r => by
    by_cases hc : c = 32
    · subst hc; rw [List.cons_append, splitC_hit, splitC_hit, split_last r]; rfl
    · obtain ⟨hd, tl, e1, e2⟩ := splitC_ne hc r
      obtain ⟨hd2, tl2, e3, e4⟩ := splitC_ne hc (r ++ [32])
      rw [split_last r, e1, List.cons_append] at e3
      injection e3 with e5 e6
      rw [List.cons_append, e4, e2, ← e5, ← e6]; rfl
theorem fl_some {e : Ev} (h : RightE e) : ∀ y ∈ flE e, y ≠ [] := by
  have hw : ∀ {s : List UInt8}, wordB s = true → s ≠ [] := by
    rintro s hs rfl; revert hs; decide
  have hs : ∀ {n : Int}, inS n = true → sgw n ≠ [] := by
    intro n hn
    unfold sgw; rw [if_pos hn]; unfold wordOf
    split
    · decide
    · split <;> decide
  have hi : ∀ {n : Int}, 0 ≤ n → Lib.itoa n ≠ [] := by
    intro n hn; rw [itoa_pos hn]; exact digs_ne _
  have hr : roomL ≠ [] := by decide
  have hp : presL ≠ [] := by decide
  obtain ⟨k, id, sg, n⟩ := e
  rcases right_shapes.1 h with ⟨a, b, c, d⟩ | ⟨a, b, c, d⟩ | ⟨a, b, c, d⟩ | ⟨a, b, c, d⟩ | ⟨a, b, c, d⟩ | ⟨a, b, c, d⟩ | ⟨a, b, c, d⟩
  all_goals simp only at a b c d
  · subst a; subst b
    intro x hx
    simp [flE] at hx
    rcases hx with rfl | rfl | rfl
    · exact hw d
    · exact hp
    · exact hs c
  · subst a; subst b
    intro x hx
    simp [flE] at hx
    rcases hx with rfl | rfl
    · exact hw d
    · exact hr
  · subst a
    intro x hx
    simp [flE] at hx
    rcases hx with rfl | rfl
    · exact hw c
    · exact hs b
  · intro x hx
    rcases a with rfl | rfl <;> simp [flE] at hx <;> subst hx <;> exact hs b
  · intro x hx
    rcases a with rfl | rfl <;> simp [flE] at hx <;> rcases hx with rfl | rfl <;> first | exact hw c | exact hi b
  · subst a
    intro x hx
    simp [flE] at hx
    subst hx; exact hi b
  · intro x hx
    rcases a with rfl | rfl | rfl | rfl | rfl | rfl | rfl | rfl | rfl <;> simp [flE] at hx <;> subst hx <;> exact hw b
theorem ok_split {t : List UInt8} (h : OkL t) : ∃ r e, RightE e ∧ splitC 32 t = digs r :: kwOf e.kind :: flE e := by
  obtain ⟨h1, h2⟩ := ok_line h
  obtain ⟨_, _, _, h3⟩ := line_read h1 (rdE_n t) h2
  exact ⟨_, _, h1.1, h3⟩
theorem fl_ne (e : Ev) : flE e ≠ [] := by unfold flE; (repeat' split) <;> simp
theorem blank_behind (t : List UInt8) : ¬ OkL (t ++ [32]) := by
  intro h
  obtain ⟨r, e, h1, h2⟩ := ok_split h
  rw [split_last] at h2
  have h3 : (digs r :: kwOf e.kind :: flE e).getLast? = some [] := by rw [← h2]; simp
  have h4 : (digs r :: kwOf e.kind :: flE e).getLast? = (flE e).getLast? := by
    rw [List.getLast?_cons_of_ne_nil (by simp), List.getLast?_cons_of_ne_nil (fl_ne e)]
  rw [h4] at h3
  exact fl_some h1 [] (List.mem_of_getLast? h3) rfl
theorem blank_ahead (t : List UInt8) : ¬ OkL ([32] ++ t) := by
  intro h
  obtain ⟨r, e, h1, h2⟩ := ok_split h
  rw [List.singleton_append, splitC_hit] at h2
  injection h2 with h3 _
  exact digs_ne r h3.symm
theorem unlike_ok {a b : Int} {e f : Ev} (h1 : HasLine a e) (h2 : HasLine b f) (hn : e.n ≤ 9223372036854775807) (hm : f.n ≤ 9223372036854775807) :
    (bif a == b then (bif (textE a e == textE b f) == ((e.kind == f.kind) && ((e.id == f.id) && ((e.sig == f.sig) && ((e.n == f.n) && true)))) then (bif rdX (textE a e ++ [32]) == 2 then rdX ([32] ++ textE a e) == 2 else false) else false) else (bif (textE a e == textE b f) == false then (bif rdX (textE a e ++ [32]) == 2 then rdX ([32] ++ textE a e) == 2 else false) else false)) = true := by
  rw [(rd_no (blank_behind _)).2.2, (rd_no (blank_ahead _)).2.2]
  have key : (textE a e == textE b f) = (bif a == b then ((e.kind == f.kind) && ((e.id == f.id) && ((e.sig == f.sig) && ((e.n == f.n) && true)))) else false) := by
    rw [Bool.eq_iff_iff, beq_iff_eq, textE_yes h1, textE_yes h2]
    constructor
    · intro he
      obtain ⟨_, q1, q2, _⟩ := line_read h1 hn rfl
      obtain ⟨_, q3, q4, _⟩ := line_read h2 hm rfl
      rw [he] at q1 q2
      rw [← q1, q3, ← q2, q4]; simp
    · intro he
      by_cases hab : a = b
      · subst hab
        simp only [beq_self_eq_true, cond_true, Bool.and_eq_true, beq_iff_eq] at he
        obtain ⟨k, id, sg, n⟩ := e
        obtain ⟨k', id', sg', n'⟩ := f
        obtain ⟨q1, q2, q3, q4, _⟩ := he
        simp only at q1 q2 q3 q4
        rw [q1, q2, q3, q4]
      · rw [beq_eq_false_iff_ne.2 hab] at he; cases he
  rw [key]
  cases (a == b) <;> simp

set_option maxRecDepth 20000 in
theorem LogBack_any (r : Int) (e : Ev) (we : -9223372036854775808 ≤ e.n ∧ e.n ≤ 9223372036854775807) (t : List UInt8) (M : Nat → Option (List AV)) : ACall Tryd.prog 7 [.lit (.int .i64 r), encE e, .str t] M (fun r M' => r = .lit (.bool true) ∧ M = M') := by
  refine ACall.of Tryd.func7 rfl (n := 86) rfl rfl rfl ?_
  refine AWp.seq (AWp.region ?_)
  refine AOps.box trivial rfl (by decide) rfl (noL rfl) rfl (v := encE e) (.inl ⟨rfl, rfl⟩) rfl rfl (all_flat rfl) ?_
  refine AOps.read trivial rfl (by decide) (Reader.move (.inr rfl) (ok_const rfl) (v := .lit (.bool false)) rfl) ?_
  refine AOps.nil ?_
  refine AWp.seq ?_
  refine AWp.regionJ [29, 0, 1, 2, 4, 6] [4] (fun z => ⟨(29, .lit (.bool z)) :: [(0, .lit (.int .i64 r)), (1, encE e), (2, .str t), (4, .lptr 4 0), (6, .lit (.bool false))], [(4, [.lit (.int .i64 e.kind), .str e.id, .lit (.int .i64 e.sig), .lit (.int .i64 e.n)])], M⟩) (z := bif (decide ((e.id.length : Int) > 80)) then true else (decide ((t.length : Int) > 200))) ?_ ?_
  · skip
    refine AOps.call (args := []) trivial rfl (by decide) rfl rfl Tryd.call21 (args_ok rfl) rfl (by intro j x v hx hv; match j, hx, hv with  | _ + 0, hx, hv => cases hx) (lawake_any M) ?_
    rintro _ _ ⟨rfl, rfl⟩
    refine AOps.read trivial rfl (by decide) (Reader.not (b := true) rfl rfl) ?_
    refine AOps.read trivial rfl (by decide) (Reader.move (.inl rfl) (ok_const rfl) (v := .lit (.bool false)) rfl) ?_
    refine AOps.read ⟨19, rfl, rfl⟩ rfl (by decide) (Reader.fieldL rfl ⟨_, _, Tryd.underlying34, rfl, rfl, rfl, sizeOf_9⟩ (by decide) rfl) ?_
    refine AOps.read ⟨19, rfl, rfl⟩ rfl (by decide) (Reader.loadL rfl Tryd.underlying9 sizeOf_9 rfl rfl (v := .str e.id) rfl rfl) ?_
    refine AOps.read ⟨19, rfl, rfl⟩ rfl (by decide) (Reader.lenStr' (l := e.id) rfl rfl rfl rfl Tryd.underlying9 rfl (m := e.id.length) (by first | rfl | simp)) ?_
    refine AOps.read ⟨19, rfl, rfl⟩ rfl (by decide) (Reader.int rfl rfl rfl (r := .bool (decide ((e.id.length : Int) > 80))) rfl) ?_
    refine AOps.read trivial rfl (by decide) (Reader.pick rfl (b := false) rfl (ok_const rfl) (ok_const rfl) (v := .lit (.bool (decide ((e.id.length : Int) > 80)))) rfl) ?_
    refine AOps.read trivial rfl (by decide) (Reader.move (.inl rfl) (ok_const rfl) (v := .lit (.bool (decide ((e.id.length : Int) > 80)))) rfl) ?_
    refine AOps.splitJ (t := 25) (b := decide ((e.id.length : Int) > 80)) (x := true) (y := (decide ((t.length : Int) > 200))) rfl (fun h1 => ?_) (fun h1 => ?_)
    · skip
      have h1' : e.id.length > 80 := (by have hh := of_decide_eq_true h1; omega)
      clear h1
      refine AOps.skip ⟨8, false, 25, _, rfl, rfl, rfl, by simp⟩ rfl (by decide) ?_
      refine AOps.skip ⟨8, false, 25, _, rfl, rfl, rfl, by simp⟩ rfl (by decide) ?_
      refine AOps.skip ⟨8, false, 25, _, rfl, rfl, rfl, by simp⟩ rfl (by decide) ?_
      refine AOps.read trivial rfl (by decide) (Reader.pick rfl (b := true) rfl (ok_const rfl) (ok_const rfl) (v := .lit (.bool true)) rfl) ?_
      exact AOps.nil rfl
    · skip
      have h1' : ¬ (e.id.length > 80) := (by have hh := of_decide_eq_false h1; omega)
      clear h1
      refine AOps.read ⟨25, rfl, rfl⟩ rfl (by decide) (Reader.move (.inl rfl) (ok_const rfl) (v := .str t) rfl) ?_
      refine AOps.read ⟨25, rfl, rfl⟩ rfl (by decide) (Reader.lenStr' (l := t) rfl rfl rfl rfl Tryd.underlying9 rfl (m := t.length) (by first | rfl | simp)) ?_
      refine AOps.read ⟨25, rfl, rfl⟩ rfl (by decide) (Reader.int rfl rfl rfl (r := .bool (decide ((t.length : Int) > 200))) rfl) ?_
      refine AOps.read trivial rfl (by decide) (Reader.pick rfl (b := false) rfl (ok_const rfl) (ok_const rfl) (v := .lit (.bool (decide ((t.length : Int) > 200)))) rfl) ?_
      exact AOps.nil rfl
  have hz1 : (bif (decide ((e.id.length : Int) > 80)) then true else (decide ((t.length : Int) > 200))) = decide (e.id.length > 80 ∨ t.length > 200) := by rw [Bool.eq_iff_iff, decide_eq_true_iff]; simp only [Bool.cond_eq_ite]; (repeat' split) <;> simp_all <;> omega
  refine AWp.cond (b := bif (decide ((e.id.length : Int) > 80)) then true else (decide ((t.length : Int) > 200))) rfl (fun h2 => ?_) (fun h2 => ?_)
  · skip
    have h2' : e.id.length > 80 ∨ t.length > 200 := (of_decide_eq_true (hz1.symm.trans h2))
    clear h2
    refine AWp.seq (AWp.region ?_)
    refine AOps.call (args := []) trivial rfl (by decide) rfl rfl Tryd.call21 (args_ok rfl) rfl (by intro j x v hx hv; match j, hx, hv with  | _ + 0, hx, hv => cases hx) (lawake_any M) ?_
    rintro _ _ ⟨rfl, rfl⟩
    refine AOps.read trivial rfl (by decide) (Reader.move (.inr rfl) (ok_const rfl) (v := .lit (.bool true)) rfl) ?_
    refine AOps.nil ?_
    refine AWp.ret ?_
    exact ⟨.inl rfl, _, ResOf.one 6 (.lit (.bool true)) rfl rfl, ⟨rfl, rfl⟩⟩
  · skip
    have h2' : ¬ (e.id.length > 80 ∨ t.length > 200) := (of_decide_eq_false (hz1.symm.trans h2))
    clear h2
    refine AWp.skip ?_
    refine AWp.seq (AWp.region ?_)
    refine AOps.read trivial rfl (by decide) (Reader.move (.inl rfl) (ok_const rfl) (v := .str t) rfl) ?_
    refine AOps.call (args := [.str t]) trivial rfl (by decide) rfl rfl Tryd.call25 (args_ok rfl) rfl (by intro j x v hx hv; match j, hx, hv with | 0, hx, hv => cases hx; cases hv; exact .inl ⟨rfl, rfl⟩ | _ + 1, hx, hv => cases hx) (lread_any t (by omega) M) ?_
    rintro _ _ ⟨rfl, rfl⟩
    refine AOps.read trivial rfl (by decide) (Reader.move (.inl rfl) (ok_const rfl) (v := .tuple [.lit (.int .i64 (rdN t)), encE (rdE t), .lit (.int .i64 (rdX t))]) rfl) ?_
    refine AOps.read trivial rfl (by decide) (Reader.extract (v := .lit (.int .i64 (rdN t))) rfl rfl rfl rfl) ?_
    refine AOps.read trivial rfl (by decide) (Reader.extract (v := encE (rdE t)) rfl rfl rfl rfl) ?_
    refine AOps.read trivial rfl (by decide) (Reader.extract (v := .lit (.int .i64 (rdX t))) rfl rfl rfl rfl) ?_
    refine AOps.alloc (Es := []) trivial rfl (by decide) rfl (noL rfl) rfl zero_34 rfl (cells := [.lit (.int .i64 0), .str [], .lit (.int .i64 0), .lit (.int .i64 0)]) rfl (all_scalar rfl) (all_flat rfl) ?_
    refine AOps.read trivial rfl (by decide) (Reader.move (.inr rfl) (ok_const rfl) (v := .lit (.int .i64 (rdN t))) rfl) ?_
    refine AOps.storeL trivial rfl rfl rfl rfl sizeOf_34 (.inl ⟨rfl, rfl⟩) rfl (v := encE (rdE t)) rfl (all_flat rfl) rfl (Nat.le_of_ble_eq_true rfl) ?_
    refine AOps.read trivial rfl (by decide) (Reader.move (.inr rfl) (ok_const rfl) (v := .lit (.int .i64 (rdX t))) rfl) ?_
    refine AOps.nil ?_
    refine AWp.seq ?_
    refine AWp.seq (AWp.region ?_)
    refine AOps.read trivial rfl (by decide) (Reader.move (.inl rfl) (ok_const rfl) (v := .lit (.int .i64 (rdX t))) rfl) ?_
    refine AOps.read trivial rfl (by decide) (Reader.int rfl rfl rfl (r := .bool ((rdX t) == 0)) rfl) ?_
    refine AOps.nil ?_
    refine AWp.cond (b := (rdX t) == 0) rfl (fun h3 => ?_) (fun h3 => ?_)
    · skip
      have h3' : (rdX t) = 0 := (by have hh := eq_of_beq h3; omega)
      clear h3
      refine AWp.seq (AWp.region ?_)
      refine AOps.read trivial rfl (by decide) (Reader.move (.inl rfl) (ok_const rfl) (v := .lit (.int .i64 (rdN t))) rfl) ?_
      refine AOps.read trivial rfl (by decide) (Reader.loadL rfl Tryd.underlying34 sizeOf_34 rfl rfl (v := .agg [.lit (.int .i64 ((rdE t).kind)), .str ((rdE t).id), .lit (.int .i64 ((rdE t).sig)), .lit (.int .i64 ((rdE t).n))]) rfl rfl) ?_
      refine AOps.call (args := [.lit (.int .i64 (rdN t)), encE (rdE t)]) trivial rfl (by decide) rfl rfl Tryd.call22 (args_ok rfl) rfl (by intro j x v hx hv; match j, hx, hv with | 0, hx, hv => cases hx; cases hv; exact .inl ⟨rfl, rfl⟩ | 1, hx, hv => cases hx; cases hv; exact .inl ⟨rfl, rfl⟩ | _ + 2, hx, hv => cases hx) (lline_any (rdN t) (rdE t) (rdE_id (by omega)) (rdE_n3 t) M) ?_
      rintro _ _ ⟨rfl, rfl⟩
      refine AOps.read trivial rfl (by decide) (Reader.move (.inl rfl) (ok_const rfl) (v := .tuple [.str (textE (rdN t) (rdE t)), .lit (.int .i64 (errE (rdN t) (rdE t)))]) rfl) ?_
      refine AOps.read trivial rfl (by decide) (Reader.extract (v := .str (textE (rdN t) (rdE t))) rfl rfl rfl rfl) ?_
      refine AOps.read trivial rfl (by decide) (Reader.extract (v := .lit (.int .i64 (errE (rdN t) (rdE t)))) rfl rfl rfl rfl) ?_
      refine AOps.read trivial rfl (by decide) (Reader.move (.inr rfl) (ok_const rfl) (v := .str (textE (rdN t) (rdE t))) rfl) ?_
      refine AOps.read trivial rfl (by decide) (Reader.move (.inr rfl) (ok_const rfl) (v := .lit (.int .i64 (errE (rdN t) (rdE t)))) rfl) ?_
      refine AOps.nil ?_
      refine AWp.regionJ [56, 29, 0, 1, 2, 4, 6, 8, 7, 9, 38, 10, 11] [4, 8] (fun z => ⟨(56, .lit (.bool z)) :: [(29, .lit (.bool (bif (decide ((e.id.length : Int) > 80)) then true else (decide ((t.length : Int) > 200))))), (0, .lit (.int .i64 r)), (1, encE e), (2, .str t), (4, .lptr 4 0), (6, .lit (.bool false)), (8, .lptr 8 0), (7, .lit (.int .i64 (rdN t))), (9, .lit (.int .i64 (rdX t))), (38, .lit (.bool ((rdX t) == 0))), (10, .str (textE (rdN t) (rdE t))), (11, .lit (.int .i64 (errE (rdN t) (rdE t))))], [(4, [.lit (.int .i64 e.kind), .str e.id, .lit (.int .i64 e.sig), .lit (.int .i64 e.n)]), (8, [.lit (.int .i64 ((rdE t).kind)), .str ((rdE t).id), .lit (.int .i64 ((rdE t).sig)), .lit (.int .i64 ((rdE t).n))])], M⟩) (z := bif ((errE (rdN t) (rdE t)) != 0) then true else (bif (!((textE (rdN t) (rdE t)) == t)) then true else (!(decide (RightE (rdE t)))))) ?_ ?_
      · skip
        refine AOps.read trivial rfl (by decide) (Reader.move (.inl rfl) (ok_const rfl) (v := .lit (.int .i64 (errE (rdN t) (rdE t)))) rfl) ?_
        refine AOps.read trivial rfl (by decide) (Reader.int rfl rfl rfl (r := .bool ((errE (rdN t) (rdE t)) != 0)) rfl) ?_
        refine AOps.read trivial rfl (by decide) (Reader.move (.inl rfl) (ok_const rfl) (v := .lit (.bool ((errE (rdN t) (rdE t)) != 0))) rfl) ?_
        refine AOps.splitJ (t := 47) (b := (errE (rdN t) (rdE t)) != 0) (x := true) (y := (bif (!((textE (rdN t) (rdE t)) == t)) then true else (!(decide (RightE (rdE t)))))) rfl (fun h4 => ?_) (fun h4 => ?_)
        · skip
          have h4' : (errE (rdN t) (rdE t)) ≠ 0 := (by have hh := bne_iff_ne.1 h4; omega)
          clear h4
          refine AOps.skip ⟨2, false, 47, _, rfl, rfl, rfl, by simp⟩ rfl (by decide) ?_
          refine AOps.skip ⟨2, false, 47, _, rfl, rfl, rfl, by simp⟩ rfl (by decide) ?_
          refine AOps.skip ⟨2, false, 47, _, rfl, rfl, rfl, by simp⟩ rfl (by decide) ?_
          refine AOps.read trivial rfl (by decide) (Reader.pick rfl (b := true) rfl (ok_const rfl) (ok_const rfl) (v := .lit (.bool true)) rfl) ?_
          refine AOps.read trivial rfl (by decide) (Reader.move (.inl rfl) (ok_const rfl) (v := .lit (.bool true)) rfl) ?_
          refine AOps.skip ⟨7, false, 52, _, rfl, rfl, rfl, by simp⟩ rfl (by decide) ?_
          refine AOps.skip ⟨7, false, 52, _, rfl, rfl, rfl, by simp⟩ rfl (by decide) ?_
          refine AOps.skip ⟨7, false, 52, _, rfl, rfl, rfl, by simp⟩ rfl (by decide) ?_
          refine AOps.read trivial rfl (by decide) (Reader.pick rfl (b := true) rfl (ok_const rfl) (ok_const rfl) (v := .lit (.bool true)) rfl) ?_
          exact AOps.nil rfl
        · skip
          have h4' : ¬ ((errE (rdN t) (rdE t)) ≠ 0) := (by have hh := bne_eq_false_iff_eq.1 h4; omega)
          clear h4
          refine AOps.read ⟨47, rfl, rfl⟩ rfl (by decide) (Reader.move (.inl rfl) (ok_const rfl) (v := .str (textE (rdN t) (rdE t))) rfl) ?_
          refine AOps.read ⟨47, rfl, rfl⟩ rfl (by decide) (Reader.move (.inl rfl) (ok_const rfl) (v := .str t) rfl) ?_
          refine AOps.read ⟨47, rfl, rfl⟩ rfl (by decide) (Reader.strs rfl rfl rfl (r := !((textE (rdN t) (rdE t)) == t)) rfl) ?_
          refine AOps.read trivial rfl (by decide) (Reader.pick rfl (b := false) rfl (ok_const rfl) (ok_const rfl) (v := .lit (.bool (!((textE (rdN t) (rdE t)) == t)))) rfl) ?_
          refine AOps.read trivial rfl (by decide) (Reader.move (.inl rfl) (ok_const rfl) (v := .lit (.bool (!((textE (rdN t) (rdE t)) == t)))) rfl) ?_
          refine AOps.splitJ (t := 52) (b := !((textE (rdN t) (rdE t)) == t)) (x := true) (y := (!(decide (RightE (rdE t))))) rfl (fun h5 => ?_) (fun h5 => ?_)
          · skip
            have h5' : ¬ ((textE (rdN t) (rdE t)) = t) := (beq_eq_false_iff_ne.1 (bnot_t h5))
            clear h5
            refine AOps.skip ⟨7, false, 52, _, rfl, rfl, rfl, by simp⟩ rfl (by decide) ?_
            refine AOps.skip ⟨7, false, 52, _, rfl, rfl, rfl, by simp⟩ rfl (by decide) ?_
            refine AOps.skip ⟨7, false, 52, _, rfl, rfl, rfl, by simp⟩ rfl (by decide) ?_
            refine AOps.read trivial rfl (by decide) (Reader.pick rfl (b := true) rfl (ok_const rfl) (ok_const rfl) (v := .lit (.bool true)) rfl) ?_
            exact AOps.nil rfl
          · skip
            have h5' : (textE (rdN t) (rdE t)) = t := (eq_of_beq (bnot_f h5))
            clear h5
            refine AOps.read ⟨52, rfl, rfl⟩ rfl (by decide) (Reader.loadL rfl Tryd.underlying34 sizeOf_34 rfl rfl (v := .agg [.lit (.int .i64 ((rdE t).kind)), .str ((rdE t).id), .lit (.int .i64 ((rdE t).sig)), .lit (.int .i64 ((rdE t).n))]) rfl rfl) ?_
            refine AOps.call (args := [encE (rdE t)]) ⟨52, rfl, rfl⟩ rfl (by decide) rfl rfl Tryd.call24 (args_ok rfl) rfl (by intro j x v hx hv; match j, hx, hv with | 0, hx, hv => cases hx; cases hv; exact .inl ⟨rfl, rfl⟩ | _ + 1, hx, hv => cases hx) (lright_any (rdE t) (rdE_id (by omega)) (rdE_n3 t) M) ?_
            rintro _ _ ⟨rfl, rfl⟩
            refine AOps.read ⟨52, rfl, rfl⟩ rfl (by decide) (Reader.not (b := decide (RightE (rdE t))) rfl rfl) ?_
            refine AOps.read trivial rfl (by decide) (Reader.pick rfl (b := false) rfl (ok_const rfl) (ok_const rfl) (v := .lit (.bool (!(decide (RightE (rdE t)))))) rfl) ?_
            exact AOps.nil rfl
      refine AWp.cond (b := bif ((errE (rdN t) (rdE t)) != 0) then true else (bif (!((textE (rdN t) (rdE t)) == t)) then true else (!(decide (RightE (rdE t)))))) rfl (fun h6 => ?_) (fun h6 => ?_)
      · skip
        have h6' : False := (lback_f (by assumption) h6)
        clear h6
        refine AWp.seq (AWp.region ?_)
        refine AOps.read trivial rfl (by decide) (Reader.move (.inr rfl) (ok_const rfl) (v := .lit (.bool false)) rfl) ?_
        refine AOps.nil ?_
        refine AWp.ret ?_
        exact ⟨.inl rfl, _, ResOf.one 6 (.lit (.bool false)) rfl rfl, ⟨False.elim (by assumption), rfl⟩⟩
      · skip
        have h6' : True := trivial
        clear h6
        refine AWp.skip ?_
        refine AWp.seq (AWp.region ?_)
        refine AOps.read trivial rfl (by decide) (Reader.move (.inl rfl) (ok_const rfl) (v := .lit (.int .i64 r)) rfl) ?_
        refine AOps.read trivial rfl (by decide) (Reader.loadL rfl Tryd.underlying34 sizeOf_34 rfl rfl (v := .agg [.lit (.int .i64 e.kind), .str e.id, .lit (.int .i64 e.sig), .lit (.int .i64 e.n)]) rfl rfl) ?_
        refine AOps.call (args := [.lit (.int .i64 r), encE e]) trivial rfl (by decide) rfl rfl Tryd.call22 (args_ok rfl) rfl (by intro j x v hx hv; match j, hx, hv with | 0, hx, hv => cases hx; cases hv; exact .inl ⟨rfl, rfl⟩ | 1, hx, hv => cases hx; cases hv; exact .inl ⟨rfl, rfl⟩ | _ + 2, hx, hv => cases hx) (lline_any r e (by omega) we M) ?_
        rintro _ _ ⟨rfl, rfl⟩
        have htlr := text_len r (e := e) (by omega) we
        refine AOps.read trivial rfl (by decide) (Reader.move (.inl rfl) (ok_const rfl) (v := .tuple [.str (textE r e), .lit (.int .i64 (errE r e))]) rfl) ?_
        refine AOps.read trivial rfl (by decide) (Reader.extract (v := .str (textE r e)) rfl rfl rfl rfl) ?_
        refine AOps.read trivial rfl (by decide) (Reader.extract (v := .lit (.int .i64 (errE r e))) rfl rfl rfl rfl) ?_
        refine AOps.read trivial rfl (by decide) (Reader.move (.inr rfl) (ok_const rfl) (v := .str (textE r e)) rfl) ?_
        refine AOps.read trivial rfl (by decide) (Reader.move (.inr rfl) (ok_const rfl) (v := .lit (.int .i64 (errE r e))) rfl) ?_
        refine AOps.nil ?_
        refine AWp.seq ?_
        refine AWp.seq (AWp.region ?_)
        refine AOps.read trivial rfl (by decide) (Reader.move (.inl rfl) (ok_const rfl) (v := .lit (.int .i64 (errE r e))) rfl) ?_
        refine AOps.read trivial rfl (by decide) (Reader.int rfl rfl rfl (r := .bool ((errE r e) != 0)) rfl) ?_
        refine AOps.nil ?_
        refine AWp.cond (b := (errE r e) != 0) rfl (fun h7 => ?_) (fun h7 => ?_)
        · skip
          have h7' : (errE r e) ≠ 0 := (by have hh := bne_iff_ne.1 h7; omega)
          clear h7
          refine AWp.seq (AWp.region ?_)
          refine AOps.read trivial rfl (by decide) (Reader.move (.inl rfl) (ok_const rfl) (v := .str (textE r e)) rfl) ?_
          refine AOps.read trivial rfl (by decide) (Reader.lenStr' (l := textE r e) rfl rfl rfl rfl Tryd.underlying9 rfl (m := (textE r e).length) (by first | rfl | simp)) ?_
          refine AOps.read trivial rfl (by decide) (Reader.int rfl rfl rfl (r := .bool ((((textE r e).length : Nat) : Int) == 0)) rfl) ?_
          refine AOps.read trivial rfl (by decide) (Reader.move (.inr rfl) (ok_const rfl) (v := .lit (.bool ((((textE r e).length : Nat) : Int) == 0))) rfl) ?_
          refine AOps.nil ?_
          refine AWp.ret ?_
          exact ⟨.inl rfl, _, ResOf.one 6 (.lit (.bool ((((textE r e).length : Nat) : Int) == 0))) rfl rfl, ⟨congrArg (fun b => AV.lit (.bool b)) (lback_no (by assumption)), rfl⟩⟩
        · skip
          have h7' : ¬ ((errE r e) ≠ 0) := (by have hh := bne_eq_false_iff_eq.1 h7; omega)
          clear h7
          refine AWp.skip ?_
          refine AWp.seq (AWp.region ?_)
          refine AOps.read trivial rfl (by decide) (Reader.move (.inl rfl) (ok_const rfl) (v := .str (textE r e)) rfl) ?_
          refine AOps.call (args := [.str (textE r e)]) trivial rfl (by decide) rfl rfl Tryd.call25 (args_ok rfl) rfl (by intro j x v hx hv; match j, hx, hv with | 0, hx, hv => cases hx; cases hv; exact .inl ⟨rfl, rfl⟩ | _ + 1, hx, hv => cases hx) (lread_any (textE r e) (by have hq := text_len r (e := e) (by omega) we; first | omega | (simp only [List.length_append, List.length_cons, List.length_nil]; omega)) M) ?_
          rintro _ _ ⟨rfl, rfl⟩
          refine AOps.read trivial rfl (by decide) (Reader.move (.inl rfl) (ok_const rfl) (v := .tuple [.lit (.int .i64 (rdN (textE r e))), encE (rdE (textE r e)), .lit (.int .i64 (rdX (textE r e)))]) rfl) ?_
          refine AOps.read trivial rfl (by decide) (Reader.extract (v := .lit (.int .i64 (rdN (textE r e)))) rfl rfl rfl rfl) ?_
          refine AOps.read trivial rfl (by decide) (Reader.extract (v := encE (rdE (textE r e))) rfl rfl rfl rfl) ?_
          refine AOps.read trivial rfl (by decide) (Reader.extract (v := .lit (.int .i64 (rdX (textE r e)))) rfl rfl rfl rfl) ?_
          refine AOps.alloc (Es := []) trivial rfl (by decide) rfl (noL rfl) rfl zero_34 rfl (cells := [.lit (.int .i64 0), .str [], .lit (.int .i64 0), .lit (.int .i64 0)]) rfl (all_scalar rfl) (all_flat rfl) ?_
          refine AOps.read trivial rfl (by decide) (Reader.move (.inr rfl) (ok_const rfl) (v := .lit (.int .i64 (rdN (textE r e)))) rfl) ?_
          refine AOps.storeL trivial rfl rfl rfl rfl sizeOf_34 (.inl ⟨rfl, rfl⟩) rfl (v := encE (rdE (textE r e))) rfl (all_flat rfl) rfl (Nat.le_of_ble_eq_true rfl) ?_
          refine AOps.read trivial rfl (by decide) (Reader.move (.inr rfl) (ok_const rfl) (v := .lit (.int .i64 (rdX (textE r e)))) rfl) ?_
          refine AOps.nil ?_
          refine AWp.regionJ [6, 56, 29, 0, 1, 2, 4, 8, 7, 9, 38, 10, 11, 12, 13, 64, 15, 14, 16] [4, 8, 15] (fun z => ⟨(6, .lit (.bool z)) :: [(56, .lit (.bool (bif ((errE (rdN t) (rdE t)) != 0) then true else (bif (!((textE (rdN t) (rdE t)) == t)) then true else (!(decide (RightE (rdE t)))))))), (29, .lit (.bool (bif (decide ((e.id.length : Int) > 80)) then true else (decide ((t.length : Int) > 200))))), (0, .lit (.int .i64 r)), (1, encE e), (2, .str t), (4, .lptr 4 0), (8, .lptr 8 0), (7, .lit (.int .i64 (rdN t))), (9, .lit (.int .i64 (rdX t))), (38, .lit (.bool ((rdX t) == 0))), (10, .str (textE (rdN t) (rdE t))), (11, .lit (.int .i64 (errE (rdN t) (rdE t)))), (12, .str (textE r e)), (13, .lit (.int .i64 (errE r e))), (64, .lit (.bool ((errE r e) != 0))), (15, .lptr 15 0), (14, .lit (.int .i64 (rdN (textE r e)))), (16, .lit (.int .i64 (rdX (textE r e))))], [(4, [.lit (.int .i64 e.kind), .str e.id, .lit (.int .i64 e.sig), .lit (.int .i64 e.n)]), (8, [.lit (.int .i64 ((rdE t).kind)), .str ((rdE t).id), .lit (.int .i64 ((rdE t).sig)), .lit (.int .i64 ((rdE t).n))]), (15, [.lit (.int .i64 ((rdE (textE r e)).kind)), .str ((rdE (textE r e)).id), .lit (.int .i64 ((rdE (textE r e)).sig)), .lit (.int .i64 ((rdE (textE r e)).n))])], M⟩) (z := bif ((rdX (textE r e)) == 0) then (bif ((rdN (textE r e)) == r) then ((((rdE (textE r e)).kind) == e.kind) && ((((rdE (textE r e)).id) == e.id) && ((((rdE (textE r e)).sig) == e.sig) && ((((rdE (textE r e)).n) == e.n) && true)))) else false) else false) ?_ ?_
          · skip
            refine AOps.read trivial rfl (by decide) (Reader.move (.inl rfl) (ok_const rfl) (v := .lit (.int .i64 (rdX (textE r e)))) rfl) ?_
            refine AOps.read trivial rfl (by decide) (Reader.int rfl rfl rfl (r := .bool ((rdX (textE r e)) == 0)) rfl) ?_
            refine AOps.read trivial rfl (by decide) (Reader.move (.inl rfl) (ok_const rfl) (v := .lit (.bool ((rdX (textE r e)) == 0))) rfl) ?_
            refine AOps.splitJ (t := 76) (b := (rdX (textE r e)) == 0) (x := (bif ((rdN (textE r e)) == r) then ((((rdE (textE r e)).kind) == e.kind) && ((((rdE (textE r e)).id) == e.id) && ((((rdE (textE r e)).sig) == e.sig) && ((((rdE (textE r e)).n) == e.n) && true)))) else false)) (y := false) rfl (fun h8 => ?_) (fun h8 => ?_)
            · skip
              have h8' : (rdX (textE r e)) = 0 := (by have hh := eq_of_beq h8; omega)
              clear h8
              refine AOps.read ⟨76, rfl, rfl⟩ rfl (by decide) (Reader.move (.inl rfl) (ok_const rfl) (v := .lit (.int .i64 (rdN (textE r e)))) rfl) ?_
              refine AOps.read ⟨76, rfl, rfl⟩ rfl (by decide) (Reader.move (.inl rfl) (ok_const rfl) (v := .lit (.int .i64 r)) rfl) ?_
              refine AOps.read ⟨76, rfl, rfl⟩ rfl (by decide) (Reader.int rfl rfl rfl (r := .bool ((rdN (textE r e)) == r)) rfl) ?_
              refine AOps.read trivial rfl (by decide) (Reader.pick rfl (b := true) rfl (ok_const rfl) (ok_const rfl) (v := .lit (.bool ((rdN (textE r e)) == r))) rfl) ?_
              refine AOps.read trivial rfl (by decide) (Reader.move (.inl rfl) (ok_const rfl) (v := .lit (.bool ((rdN (textE r e)) == r))) rfl) ?_
              refine AOps.splitJ (t := 81) (b := (rdN (textE r e)) == r) (x := ((((rdE (textE r e)).kind) == e.kind) && ((((rdE (textE r e)).id) == e.id) && ((((rdE (textE r e)).sig) == e.sig) && ((((rdE (textE r e)).n) == e.n) && true))))) (y := false) rfl (fun h9 => ?_) (fun h9 => ?_)
              · skip
                have h9' : (rdN (textE r e)) = r := (by have hh := eq_of_beq h9; omega)
                clear h9
                refine AOps.read ⟨81, rfl, rfl⟩ rfl (by decide) (Reader.loadL rfl Tryd.underlying34 sizeOf_34 rfl rfl (v := .agg [.lit (.int .i64 ((rdE (textE r e)).kind)), .str ((rdE (textE r e)).id), .lit (.int .i64 ((rdE (textE r e)).sig)), .lit (.int .i64 ((rdE (textE r e)).n))]) rfl rfl) ?_
                refine AOps.read ⟨81, rfl, rfl⟩ rfl (by decide) (Reader.loadL rfl Tryd.underlying34 sizeOf_34 rfl rfl (v := .agg [.lit (.int .i64 e.kind), .str e.id, .lit (.int .i64 e.sig), .lit (.int .i64 e.n)]) rfl rfl) ?_
                refine AOps.read ⟨81, rfl, rfl⟩ rfl (by decide) (Reader.eqAgg (us := [(.int .i64 ((rdE (textE r e)).kind)), .string ⟨((rdE (textE r e)).id).toArray⟩, (.int .i64 ((rdE (textE r e)).sig)), (.int .i64 ((rdE (textE r e)).n))]) (vs := [(.int .i64 e.kind), .string ⟨(e.id).toArray⟩, (.int .i64 e.sig), (.int .i64 e.n)]) (b := ((((rdE (textE r e)).kind) == e.kind) && ((((rdE (textE r e)).id) == e.id) && ((((rdE (textE r e)).sig) == e.sig) && ((((rdE (textE r e)).n) == e.n) && true))))) (r := ((((rdE (textE r e)).kind) == e.kind) && ((((rdE (textE r e)).id) == e.id) && ((((rdE (textE r e)).sig) == e.sig) && ((((rdE (textE r e)).n) == e.n) && true))))) 9 rfl rfl rfl ⟨_, rfl⟩ ⟨_, rfl⟩ Tryd.underlying34 rfl eqg_34 (by decide) rfl rfl (eqV_34 ((rdE (textE r e)).kind) e.kind ((rdE (textE r e)).id) e.id ((rdE (textE r e)).sig) e.sig ((rdE (textE r e)).n) e.n) (.inl ⟨rfl, rfl⟩)) ?_
                refine AOps.read trivial rfl (by decide) (Reader.pick rfl (b := true) rfl (ok_const rfl) (ok_const rfl) (v := .lit (.bool ((((rdE (textE r e)).kind) == e.kind) && ((((rdE (textE r e)).id) == e.id) && ((((rdE (textE r e)).sig) == e.sig) && ((((rdE (textE r e)).n) == e.n) && true)))))) rfl) ?_
                refine AOps.read trivial rfl (by decide) (Reader.move (.inr rfl) (ok_const rfl) (v := .lit (.bool ((((rdE (textE r e)).kind) == e.kind) && ((((rdE (textE r e)).id) == e.id) && ((((rdE (textE r e)).sig) == e.sig) && ((((rdE (textE r e)).n) == e.n) && true)))))) rfl) ?_
                exact AOps.nil rfl
              · skip
                have h9' : ¬ ((rdN (textE r e)) = r) := (by have hh := beq_eq_false_iff_ne.1 h9; omega)
                clear h9
                refine AOps.skip ⟨7, true, 81, _, rfl, rfl, rfl, by simp⟩ rfl (by decide) ?_
                refine AOps.skip ⟨7, true, 81, _, rfl, rfl, rfl, by simp⟩ rfl (by decide) ?_
                refine AOps.skip ⟨7, true, 81, _, rfl, rfl, rfl, by simp⟩ rfl (by decide) ?_
                refine AOps.read trivial rfl (by decide) (Reader.pick rfl (b := false) rfl (ok_const rfl) (ok_const rfl) (v := .lit (.bool false)) rfl) ?_
                refine AOps.read trivial rfl (by decide) (Reader.move (.inr rfl) (ok_const rfl) (v := .lit (.bool false)) rfl) ?_
                exact AOps.nil rfl
            · skip
              have h8' : ¬ ((rdX (textE r e)) = 0) := (by have hh := beq_eq_false_iff_ne.1 h8; omega)
              clear h8
              refine AOps.skip ⟨2, true, 76, _, rfl, rfl, rfl, by simp⟩ rfl (by decide) ?_
              refine AOps.skip ⟨2, true, 76, _, rfl, rfl, rfl, by simp⟩ rfl (by decide) ?_
              refine AOps.skip ⟨2, true, 76, _, rfl, rfl, rfl, by simp⟩ rfl (by decide) ?_
              refine AOps.read trivial rfl (by decide) (Reader.pick rfl (b := false) rfl (ok_const rfl) (ok_const rfl) (v := .lit (.bool false)) rfl) ?_
              refine AOps.read trivial rfl (by decide) (Reader.move (.inl rfl) (ok_const rfl) (v := .lit (.bool false)) rfl) ?_
              refine AOps.skip ⟨7, true, 81, _, rfl, rfl, rfl, by simp⟩ rfl (by decide) ?_
              refine AOps.skip ⟨7, true, 81, _, rfl, rfl, rfl, by simp⟩ rfl (by decide) ?_
              refine AOps.skip ⟨7, true, 81, _, rfl, rfl, rfl, by simp⟩ rfl (by decide) ?_
              refine AOps.read trivial rfl (by decide) (Reader.pick rfl (b := false) rfl (ok_const rfl) (ok_const rfl) (v := .lit (.bool false)) rfl) ?_
              refine AOps.read trivial rfl (by decide) (Reader.move (.inr rfl) (ok_const rfl) (v := .lit (.bool false)) rfl) ?_
              exact AOps.nil rfl
          refine AWp.ret ?_
          exact ⟨.inl rfl, _, ResOf.one 6 (.lit (.bool (bif ((rdX (textE r e)) == 0) then (bif ((rdN (textE r e)) == r) then ((((rdE (textE r e)).kind) == e.kind) && ((((rdE (textE r e)).id) == e.id) && ((((rdE (textE r e)).sig) == e.sig) && ((((rdE (textE r e)).n) == e.n) && true)))) else false) else false))) rfl rfl, ⟨congrArg (fun b => AV.lit (.bool b)) (lback_ok (by assumption) we.2), rfl⟩⟩
    · skip
      have h3' : ¬ ((rdX t) = 0) := (by have hh := beq_eq_false_iff_ne.1 h3; omega)
      clear h3
      refine AWp.skip ?_
      refine AWp.seq (AWp.region ?_)
      refine AOps.read trivial rfl (by decide) (Reader.move (.inl rfl) (ok_const rfl) (v := .lit (.int .i64 r)) rfl) ?_
      refine AOps.read trivial rfl (by decide) (Reader.loadL rfl Tryd.underlying34 sizeOf_34 rfl rfl (v := .agg [.lit (.int .i64 e.kind), .str e.id, .lit (.int .i64 e.sig), .lit (.int .i64 e.n)]) rfl rfl) ?_
      refine AOps.call (args := [.lit (.int .i64 r), encE e]) trivial rfl (by decide) rfl rfl Tryd.call22 (args_ok rfl) rfl (by intro j x v hx hv; match j, hx, hv with | 0, hx, hv => cases hx; cases hv; exact .inl ⟨rfl, rfl⟩ | 1, hx, hv => cases hx; cases hv; exact .inl ⟨rfl, rfl⟩ | _ + 2, hx, hv => cases hx) (lline_any r e (by omega) we M) ?_
      rintro _ _ ⟨rfl, rfl⟩
      have htlr := text_len r (e := e) (by omega) we
      refine AOps.read trivial rfl (by decide) (Reader.move (.inl rfl) (ok_const rfl) (v := .tuple [.str (textE r e), .lit (.int .i64 (errE r e))]) rfl) ?_
      refine AOps.read trivial rfl (by decide) (Reader.extract (v := .str (textE r e)) rfl rfl rfl rfl) ?_
      refine AOps.read trivial rfl (by decide) (Reader.extract (v := .lit (.int .i64 (errE r e))) rfl rfl rfl rfl) ?_
      refine AOps.read trivial rfl (by decide) (Reader.move (.inr rfl) (ok_const rfl) (v := .str (textE r e)) rfl) ?_
      refine AOps.read trivial rfl (by decide) (Reader.move (.inr rfl) (ok_const rfl) (v := .lit (.int .i64 (errE r e))) rfl) ?_
      refine AOps.nil ?_
      refine AWp.seq ?_
      refine AWp.seq (AWp.region ?_)
      refine AOps.read trivial rfl (by decide) (Reader.move (.inl rfl) (ok_const rfl) (v := .lit (.int .i64 (errE r e))) rfl) ?_
      refine AOps.read trivial rfl (by decide) (Reader.int rfl rfl rfl (r := .bool ((errE r e) != 0)) rfl) ?_
      refine AOps.nil ?_
      refine AWp.cond (b := (errE r e) != 0) rfl (fun h10 => ?_) (fun h10 => ?_)
      · skip
        have h10' : (errE r e) ≠ 0 := (by have hh := bne_iff_ne.1 h10; omega)
        clear h10
        refine AWp.seq (AWp.region ?_)
        refine AOps.read trivial rfl (by decide) (Reader.move (.inl rfl) (ok_const rfl) (v := .str (textE r e)) rfl) ?_
        refine AOps.read trivial rfl (by decide) (Reader.lenStr' (l := textE r e) rfl rfl rfl rfl Tryd.underlying9 rfl (m := (textE r e).length) (by first | rfl | simp)) ?_
        refine AOps.read trivial rfl (by decide) (Reader.int rfl rfl rfl (r := .bool ((((textE r e).length : Nat) : Int) == 0)) rfl) ?_
        refine AOps.read trivial rfl (by decide) (Reader.move (.inr rfl) (ok_const rfl) (v := .lit (.bool ((((textE r e).length : Nat) : Int) == 0))) rfl) ?_
        refine AOps.nil ?_
        refine AWp.ret ?_
        exact ⟨.inl rfl, _, ResOf.one 6 (.lit (.bool ((((textE r e).length : Nat) : Int) == 0))) rfl rfl, ⟨congrArg (fun b => AV.lit (.bool b)) (lback_no (by assumption)), rfl⟩⟩
      · skip
        have h10' : ¬ ((errE r e) ≠ 0) := (by have hh := bne_eq_false_iff_eq.1 h10; omega)
        clear h10
        refine AWp.skip ?_
        refine AWp.seq (AWp.region ?_)
        refine AOps.read trivial rfl (by decide) (Reader.move (.inl rfl) (ok_const rfl) (v := .str (textE r e)) rfl) ?_
        refine AOps.call (args := [.str (textE r e)]) trivial rfl (by decide) rfl rfl Tryd.call25 (args_ok rfl) rfl (by intro j x v hx hv; match j, hx, hv with | 0, hx, hv => cases hx; cases hv; exact .inl ⟨rfl, rfl⟩ | _ + 1, hx, hv => cases hx) (lread_any (textE r e) (by have hq := text_len r (e := e) (by omega) we; first | omega | (simp only [List.length_append, List.length_cons, List.length_nil]; omega)) M) ?_
        rintro _ _ ⟨rfl, rfl⟩
        refine AOps.read trivial rfl (by decide) (Reader.move (.inl rfl) (ok_const rfl) (v := .tuple [.lit (.int .i64 (rdN (textE r e))), encE (rdE (textE r e)), .lit (.int .i64 (rdX (textE r e)))]) rfl) ?_
        refine AOps.read trivial rfl (by decide) (Reader.extract (v := .lit (.int .i64 (rdN (textE r e)))) rfl rfl rfl rfl) ?_
        refine AOps.read trivial rfl (by decide) (Reader.extract (v := encE (rdE (textE r e))) rfl rfl rfl rfl) ?_
        refine AOps.read trivial rfl (by decide) (Reader.extract (v := .lit (.int .i64 (rdX (textE r e)))) rfl rfl rfl rfl) ?_
        refine AOps.alloc (Es := []) trivial rfl (by decide) rfl (noL rfl) rfl zero_34 rfl (cells := [.lit (.int .i64 0), .str [], .lit (.int .i64 0), .lit (.int .i64 0)]) rfl (all_scalar rfl) (all_flat rfl) ?_
        refine AOps.read trivial rfl (by decide) (Reader.move (.inr rfl) (ok_const rfl) (v := .lit (.int .i64 (rdN (textE r e)))) rfl) ?_
        refine AOps.storeL trivial rfl rfl rfl rfl sizeOf_34 (.inl ⟨rfl, rfl⟩) rfl (v := encE (rdE (textE r e))) rfl (all_flat rfl) rfl (Nat.le_of_ble_eq_true rfl) ?_
        refine AOps.read trivial rfl (by decide) (Reader.move (.inr rfl) (ok_const rfl) (v := .lit (.int .i64 (rdX (textE r e)))) rfl) ?_
        refine AOps.nil ?_
        refine AWp.regionJ [6, 29, 0, 1, 2, 4, 8, 7, 9, 38, 12, 13, 64, 15, 14, 16] [4, 8, 15] (fun z => ⟨(6, .lit (.bool z)) :: [(29, .lit (.bool (bif (decide ((e.id.length : Int) > 80)) then true else (decide ((t.length : Int) > 200))))), (0, .lit (.int .i64 r)), (1, encE e), (2, .str t), (4, .lptr 4 0), (8, .lptr 8 0), (7, .lit (.int .i64 (rdN t))), (9, .lit (.int .i64 (rdX t))), (38, .lit (.bool ((rdX t) == 0))), (12, .str (textE r e)), (13, .lit (.int .i64 (errE r e))), (64, .lit (.bool ((errE r e) != 0))), (15, .lptr 15 0), (14, .lit (.int .i64 (rdN (textE r e)))), (16, .lit (.int .i64 (rdX (textE r e))))], [(4, [.lit (.int .i64 e.kind), .str e.id, .lit (.int .i64 e.sig), .lit (.int .i64 e.n)]), (8, [.lit (.int .i64 ((rdE t).kind)), .str ((rdE t).id), .lit (.int .i64 ((rdE t).sig)), .lit (.int .i64 ((rdE t).n))]), (15, [.lit (.int .i64 ((rdE (textE r e)).kind)), .str ((rdE (textE r e)).id), .lit (.int .i64 ((rdE (textE r e)).sig)), .lit (.int .i64 ((rdE (textE r e)).n))])], M⟩) (z := bif ((rdX (textE r e)) == 0) then (bif ((rdN (textE r e)) == r) then ((((rdE (textE r e)).kind) == e.kind) && ((((rdE (textE r e)).id) == e.id) && ((((rdE (textE r e)).sig) == e.sig) && ((((rdE (textE r e)).n) == e.n) && true)))) else false) else false) ?_ ?_
        · skip
          refine AOps.read trivial rfl (by decide) (Reader.move (.inl rfl) (ok_const rfl) (v := .lit (.int .i64 (rdX (textE r e)))) rfl) ?_
          refine AOps.read trivial rfl (by decide) (Reader.int rfl rfl rfl (r := .bool ((rdX (textE r e)) == 0)) rfl) ?_
          refine AOps.read trivial rfl (by decide) (Reader.move (.inl rfl) (ok_const rfl) (v := .lit (.bool ((rdX (textE r e)) == 0))) rfl) ?_
          refine AOps.splitJ (t := 76) (b := (rdX (textE r e)) == 0) (x := (bif ((rdN (textE r e)) == r) then ((((rdE (textE r e)).kind) == e.kind) && ((((rdE (textE r e)).id) == e.id) && ((((rdE (textE r e)).sig) == e.sig) && ((((rdE (textE r e)).n) == e.n) && true)))) else false)) (y := false) rfl (fun h11 => ?_) (fun h11 => ?_)
          · skip
            have h11' : (rdX (textE r e)) = 0 := (by have hh := eq_of_beq h11; omega)
            clear h11
            refine AOps.read ⟨76, rfl, rfl⟩ rfl (by decide) (Reader.move (.inl rfl) (ok_const rfl) (v := .lit (.int .i64 (rdN (textE r e)))) rfl) ?_
            refine AOps.read ⟨76, rfl, rfl⟩ rfl (by decide) (Reader.move (.inl rfl) (ok_const rfl) (v := .lit (.int .i64 r)) rfl) ?_
            refine AOps.read ⟨76, rfl, rfl⟩ rfl (by decide) (Reader.int rfl rfl rfl (r := .bool ((rdN (textE r e)) == r)) rfl) ?_
            refine AOps.read trivial rfl (by decide) (Reader.pick rfl (b := true) rfl (ok_const rfl) (ok_const rfl) (v := .lit (.bool ((rdN (textE r e)) == r))) rfl) ?_
            refine AOps.read trivial rfl (by decide) (Reader.move (.inl rfl) (ok_const rfl) (v := .lit (.bool ((rdN (textE r e)) == r))) rfl) ?_
            refine AOps.splitJ (t := 81) (b := (rdN (textE r e)) == r) (x := ((((rdE (textE r e)).kind) == e.kind) && ((((rdE (textE r e)).id) == e.id) && ((((rdE (textE r e)).sig) == e.sig) && ((((rdE (textE r e)).n) == e.n) && true))))) (y := false) rfl (fun h12 => ?_) (fun h12 => ?_)
            · skip
              have h12' : (rdN (textE r e)) = r := (by have hh := eq_of_beq h12; omega)
              clear h12
              refine AOps.read ⟨81, rfl, rfl⟩ rfl (by decide) (Reader.loadL rfl Tryd.underlying34 sizeOf_34 rfl rfl (v := .agg [.lit (.int .i64 ((rdE (textE r e)).kind)), .str ((rdE (textE r e)).id), .lit (.int .i64 ((rdE (textE r e)).sig)), .lit (.int .i64 ((rdE (textE r e)).n))]) rfl rfl) ?_
              refine AOps.read ⟨81, rfl, rfl⟩ rfl (by decide) (Reader.loadL rfl Tryd.underlying34 sizeOf_34 rfl rfl (v := .agg [.lit (.int .i64 e.kind), .str e.id, .lit (.int .i64 e.sig), .lit (.int .i64 e.n)]) rfl rfl) ?_
              refine AOps.read ⟨81, rfl, rfl⟩ rfl (by decide) (Reader.eqAgg (us := [(.int .i64 ((rdE (textE r e)).kind)), .string ⟨((rdE (textE r e)).id).toArray⟩, (.int .i64 ((rdE (textE r e)).sig)), (.int .i64 ((rdE (textE r e)).n))]) (vs := [(.int .i64 e.kind), .string ⟨(e.id).toArray⟩, (.int .i64 e.sig), (.int .i64 e.n)]) (b := ((((rdE (textE r e)).kind) == e.kind) && ((((rdE (textE r e)).id) == e.id) && ((((rdE (textE r e)).sig) == e.sig) && ((((rdE (textE r e)).n) == e.n) && true))))) (r := ((((rdE (textE r e)).kind) == e.kind) && ((((rdE (textE r e)).id) == e.id) && ((((rdE (textE r e)).sig) == e.sig) && ((((rdE (textE r e)).n) == e.n) && true))))) 9 rfl rfl rfl ⟨_, rfl⟩ ⟨_, rfl⟩ Tryd.underlying34 rfl eqg_34 (by decide) rfl rfl (eqV_34 ((rdE (textE r e)).kind) e.kind ((rdE (textE r e)).id) e.id ((rdE (textE r e)).sig) e.sig ((rdE (textE r e)).n) e.n) (.inl ⟨rfl, rfl⟩)) ?_
              refine AOps.read trivial rfl (by decide) (Reader.pick rfl (b := true) rfl (ok_const rfl) (ok_const rfl) (v := .lit (.bool ((((rdE (textE r e)).kind) == e.kind) && ((((rdE (textE r e)).id) == e.id) && ((((rdE (textE r e)).sig) == e.sig) && ((((rdE (textE r e)).n) == e.n) && true)))))) rfl) ?_
              refine AOps.read trivial rfl (by decide) (Reader.move (.inr rfl) (ok_const rfl) (v := .lit (.bool ((((rdE (textE r e)).kind) == e.kind) && ((((rdE (textE r e)).id) == e.id) && ((((rdE (textE r e)).sig) == e.sig) && ((((rdE (textE r e)).n) == e.n) && true)))))) rfl) ?_
              exact AOps.nil rfl
            · skip
              have h12' : ¬ ((rdN (textE r e)) = r) := (by have hh := beq_eq_false_iff_ne.1 h12; omega)
              clear h12
              refine AOps.skip ⟨7, true, 81, _, rfl, rfl, rfl, by simp⟩ rfl (by decide) ?_
              refine AOps.skip ⟨7, true, 81, _, rfl, rfl, rfl, by simp⟩ rfl (by decide) ?_
              refine AOps.skip ⟨7, true, 81, _, rfl, rfl, rfl, by simp⟩ rfl (by decide) ?_
              refine AOps.read trivial rfl (by decide) (Reader.pick rfl (b := false) rfl (ok_const rfl) (ok_const rfl) (v := .lit (.bool false)) rfl) ?_
              refine AOps.read trivial rfl (by decide) (Reader.move (.inr rfl) (ok_const rfl) (v := .lit (.bool false)) rfl) ?_
              exact AOps.nil rfl
          · skip
            have h11' : ¬ ((rdX (textE r e)) = 0) := (by have hh := beq_eq_false_iff_ne.1 h11; omega)
            clear h11
            refine AOps.skip ⟨2, true, 76, _, rfl, rfl, rfl, by simp⟩ rfl (by decide) ?_
            refine AOps.skip ⟨2, true, 76, _, rfl, rfl, rfl, by simp⟩ rfl (by decide) ?_
            refine AOps.skip ⟨2, true, 76, _, rfl, rfl, rfl, by simp⟩ rfl (by decide) ?_
            refine AOps.read trivial rfl (by decide) (Reader.pick rfl (b := false) rfl (ok_const rfl) (ok_const rfl) (v := .lit (.bool false)) rfl) ?_
            refine AOps.read trivial rfl (by decide) (Reader.move (.inl rfl) (ok_const rfl) (v := .lit (.bool false)) rfl) ?_
            refine AOps.skip ⟨7, true, 81, _, rfl, rfl, rfl, by simp⟩ rfl (by decide) ?_
            refine AOps.skip ⟨7, true, 81, _, rfl, rfl, rfl, by simp⟩ rfl (by decide) ?_
            refine AOps.skip ⟨7, true, 81, _, rfl, rfl, rfl, by simp⟩ rfl (by decide) ?_
            refine AOps.read trivial rfl (by decide) (Reader.pick rfl (b := false) rfl (ok_const rfl) (ok_const rfl) (v := .lit (.bool false)) rfl) ?_
            refine AOps.read trivial rfl (by decide) (Reader.move (.inr rfl) (ok_const rfl) (v := .lit (.bool false)) rfl) ?_
            exact AOps.nil rfl
        refine AWp.ret ?_
        exact ⟨.inl rfl, _, ResOf.one 6 (.lit (.bool (bif ((rdX (textE r e)) == 0) then (bif ((rdN (textE r e)) == r) then ((((rdE (textE r e)).kind) == e.kind) && ((((rdE (textE r e)).id) == e.id) && ((((rdE (textE r e)).sig) == e.sig) && ((((rdE (textE r e)).n) == e.n) && true)))) else false) else false))) rfl rfl, ⟨congrArg (fun b => AV.lit (.bool b)) (lback_ok (by assumption) we.2), rfl⟩⟩

set_option maxRecDepth 20000 in
theorem LogUnlike_any (a b : Int) (e f : Ev) (we : -9223372036854775808 ≤ e.n ∧ e.n ≤ 9223372036854775807) (wf : -9223372036854775808 ≤ f.n ∧ f.n ≤ 9223372036854775807) (M : Nat → Option (List AV)) : ACall Tryd.prog 8 [.lit (.int .i64 a), .lit (.int .i64 b), encE e, encE f] M (fun r M' => r = .lit (.bool true) ∧ M = M') := by
  refine ACall.of Tryd.func8 rfl (n := 86) rfl rfl rfl ?_
  refine AWp.seq (AWp.region ?_)
  refine AOps.box trivial rfl (by decide) rfl (noL rfl) rfl (v := encE e) (.inl ⟨rfl, rfl⟩) rfl rfl (all_flat rfl) ?_
  refine AOps.box trivial rfl (by decide) rfl (noL rfl) rfl (v := encE f) (.inl ⟨rfl, rfl⟩) rfl rfl (all_flat rfl) ?_
  refine AOps.read trivial rfl (by decide) (Reader.move (.inr rfl) (ok_const rfl) (v := .lit (.bool false)) rfl) ?_
  refine AOps.nil ?_
  refine AWp.seq ?_
  refine AWp.regionJ [32, 0, 1, 2, 3, 6, 7, 8] [6, 7] (fun z => ⟨(32, .lit (.bool z)) :: [(0, .lit (.int .i64 a)), (1, .lit (.int .i64 b)), (2, encE e), (3, encE f), (6, .lptr 6 0), (7, .lptr 7 0), (8, .lit (.bool false))], [(6, [.lit (.int .i64 e.kind), .str e.id, .lit (.int .i64 e.sig), .lit (.int .i64 e.n)]), (7, [.lit (.int .i64 f.kind), .str f.id, .lit (.int .i64 f.sig), .lit (.int .i64 f.n)])], M⟩) (z := bif (decide ((e.id.length : Int) > 80)) then true else (decide ((f.id.length : Int) > 80))) ?_ ?_
  · skip
    refine AOps.call (args := []) trivial rfl (by decide) rfl rfl Tryd.call21 (args_ok rfl) rfl (by intro j x v hx hv; match j, hx, hv with  | _ + 0, hx, hv => cases hx) (lawake_any M) ?_
    rintro _ _ ⟨rfl, rfl⟩
    refine AOps.read trivial rfl (by decide) (Reader.not (b := true) rfl rfl) ?_
    refine AOps.read trivial rfl (by decide) (Reader.move (.inl rfl) (ok_const rfl) (v := .lit (.bool false)) rfl) ?_
    refine AOps.read ⟨21, rfl, rfl⟩ rfl (by decide) (Reader.fieldL rfl ⟨_, _, Tryd.underlying34, rfl, rfl, rfl, sizeOf_9⟩ (by decide) rfl) ?_
    refine AOps.read ⟨21, rfl, rfl⟩ rfl (by decide) (Reader.loadL rfl Tryd.underlying9 sizeOf_9 rfl rfl (v := .str e.id) rfl rfl) ?_
    refine AOps.read ⟨21, rfl, rfl⟩ rfl (by decide) (Reader.lenStr' (l := e.id) rfl rfl rfl rfl Tryd.underlying9 rfl (m := e.id.length) (by first | rfl | simp)) ?_
    refine AOps.read ⟨21, rfl, rfl⟩ rfl (by decide) (Reader.int rfl rfl rfl (r := .bool (decide ((e.id.length : Int) > 80))) rfl) ?_
    refine AOps.read trivial rfl (by decide) (Reader.pick rfl (b := false) rfl (ok_const rfl) (ok_const rfl) (v := .lit (.bool (decide ((e.id.length : Int) > 80)))) rfl) ?_
    refine AOps.read trivial rfl (by decide) (Reader.move (.inl rfl) (ok_const rfl) (v := .lit (.bool (decide ((e.id.length : Int) > 80)))) rfl) ?_
    refine AOps.splitJ (t := 27) (b := decide ((e.id.length : Int) > 80)) (x := true) (y := (decide ((f.id.length : Int) > 80))) rfl (fun h1 => ?_) (fun h1 => ?_)
    · skip
      have h1' : e.id.length > 80 := (by have hh := of_decide_eq_true h1; omega)
      clear h1
      refine AOps.skip ⟨8, false, 27, _, rfl, rfl, rfl, by simp⟩ rfl (by decide) ?_
      refine AOps.skip ⟨8, false, 27, _, rfl, rfl, rfl, by simp⟩ rfl (by decide) ?_
      refine AOps.skip ⟨8, false, 27, _, rfl, rfl, rfl, by simp⟩ rfl (by decide) ?_
      refine AOps.skip ⟨8, false, 27, _, rfl, rfl, rfl, by simp⟩ rfl (by decide) ?_
      refine AOps.read trivial rfl (by decide) (Reader.pick rfl (b := true) rfl (ok_const rfl) (ok_const rfl) (v := .lit (.bool true)) rfl) ?_
      exact AOps.nil rfl
    · skip
      have h1' : ¬ (e.id.length > 80) := (by have hh := of_decide_eq_false h1; omega)
      clear h1
      refine AOps.read ⟨27, rfl, rfl⟩ rfl (by decide) (Reader.fieldL rfl ⟨_, _, Tryd.underlying34, rfl, rfl, rfl, sizeOf_9⟩ (by decide) rfl) ?_
      refine AOps.read ⟨27, rfl, rfl⟩ rfl (by decide) (Reader.loadL rfl Tryd.underlying9 sizeOf_9 rfl rfl (v := .str f.id) rfl rfl) ?_
      refine AOps.read ⟨27, rfl, rfl⟩ rfl (by decide) (Reader.lenStr' (l := f.id) rfl rfl rfl rfl Tryd.underlying9 rfl (m := f.id.length) (by first | rfl | simp)) ?_
      refine AOps.read ⟨27, rfl, rfl⟩ rfl (by decide) (Reader.int rfl rfl rfl (r := .bool (decide ((f.id.length : Int) > 80))) rfl) ?_
      refine AOps.read trivial rfl (by decide) (Reader.pick rfl (b := false) rfl (ok_const rfl) (ok_const rfl) (v := .lit (.bool (decide ((f.id.length : Int) > 80)))) rfl) ?_
      exact AOps.nil rfl
  have hz1 : (bif (decide ((e.id.length : Int) > 80)) then true else (decide ((f.id.length : Int) > 80))) = decide (e.id.length > 80 ∨ f.id.length > 80) := by rw [Bool.eq_iff_iff, decide_eq_true_iff]; simp only [Bool.cond_eq_ite]; (repeat' split) <;> simp_all <;> omega
  refine AWp.cond (b := bif (decide ((e.id.length : Int) > 80)) then true else (decide ((f.id.length : Int) > 80))) rfl (fun h2 => ?_) (fun h2 => ?_)
  · skip
    have h2' : e.id.length > 80 ∨ f.id.length > 80 := (of_decide_eq_true (hz1.symm.trans h2))
    clear h2
    refine AWp.seq (AWp.region ?_)
    refine AOps.call (args := []) trivial rfl (by decide) rfl rfl Tryd.call21 (args_ok rfl) rfl (by intro j x v hx hv; match j, hx, hv with  | _ + 0, hx, hv => cases hx) (lawake_any M) ?_
    rintro _ _ ⟨rfl, rfl⟩
    refine AOps.read trivial rfl (by decide) (Reader.move (.inr rfl) (ok_const rfl) (v := .lit (.bool true)) rfl) ?_
    refine AOps.nil ?_
    refine AWp.ret ?_
    exact ⟨.inl rfl, _, ResOf.one 8 (.lit (.bool true)) rfl rfl, ⟨rfl, rfl⟩⟩
  · skip
    have h2' : ¬ (e.id.length > 80 ∨ f.id.length > 80) := (of_decide_eq_false (hz1.symm.trans h2))
    clear h2
    refine AWp.skip ?_
    refine AWp.seq (AWp.region ?_)
    refine AOps.read trivial rfl (by decide) (Reader.move (.inl rfl) (ok_const rfl) (v := .lit (.int .i64 a)) rfl) ?_
    refine AOps.read trivial rfl (by decide) (Reader.loadL rfl Tryd.underlying34 sizeOf_34 rfl rfl (v := .agg [.lit (.int .i64 e.kind), .str e.id, .lit (.int .i64 e.sig), .lit (.int .i64 e.n)]) rfl rfl) ?_
    refine AOps.call (args := [.lit (.int .i64 a), encE e]) trivial rfl (by decide) rfl rfl Tryd.call22 (args_ok rfl) rfl (by intro j x v hx hv; match j, hx, hv with | 0, hx, hv => cases hx; cases hv; exact .inl ⟨rfl, rfl⟩ | 1, hx, hv => cases hx; cases hv; exact .inl ⟨rfl, rfl⟩ | _ + 2, hx, hv => cases hx) (lline_any a e (by omega) we M) ?_
    rintro _ _ ⟨rfl, rfl⟩
    have htla := text_len a (e := e) (by omega) we
    refine AOps.read trivial rfl (by decide) (Reader.move (.inl rfl) (ok_const rfl) (v := .tuple [.str (textE a e), .lit (.int .i64 (errE a e))]) rfl) ?_
    refine AOps.read trivial rfl (by decide) (Reader.extract (v := .str (textE a e)) rfl rfl rfl rfl) ?_
    refine AOps.read trivial rfl (by decide) (Reader.extract (v := .lit (.int .i64 (errE a e))) rfl rfl rfl rfl) ?_
    refine AOps.read trivial rfl (by decide) (Reader.move (.inr rfl) (ok_const rfl) (v := .str (textE a e)) rfl) ?_
    refine AOps.read trivial rfl (by decide) (Reader.move (.inr rfl) (ok_const rfl) (v := .lit (.int .i64 (errE a e))) rfl) ?_
    refine AOps.nil ?_
    refine AWp.seq (AWp.region ?_)
    refine AOps.read trivial rfl (by decide) (Reader.move (.inl rfl) (ok_const rfl) (v := .lit (.int .i64 b)) rfl) ?_
    refine AOps.read trivial rfl (by decide) (Reader.loadL rfl Tryd.underlying34 sizeOf_34 rfl rfl (v := .agg [.lit (.int .i64 f.kind), .str f.id, .lit (.int .i64 f.sig), .lit (.int .i64 f.n)]) rfl rfl) ?_
    refine AOps.call (args := [.lit (.int .i64 b), encE f]) trivial rfl (by decide) rfl rfl Tryd.call22 (args_ok rfl) rfl (by intro j x v hx hv; match j, hx, hv with | 0, hx, hv => cases hx; cases hv; exact .inl ⟨rfl, rfl⟩ | 1, hx, hv => cases hx; cases hv; exact .inl ⟨rfl, rfl⟩ | _ + 2, hx, hv => cases hx) (lline_any b f (by omega) wf M) ?_
    rintro _ _ ⟨rfl, rfl⟩
    have htlb := text_len b (e := f) (by omega) wf
    refine AOps.read trivial rfl (by decide) (Reader.move (.inl rfl) (ok_const rfl) (v := .tuple [.str (textE b f), .lit (.int .i64 (errE b f))]) rfl) ?_
    refine AOps.read trivial rfl (by decide) (Reader.extract (v := .str (textE b f)) rfl rfl rfl rfl) ?_
    refine AOps.read trivial rfl (by decide) (Reader.extract (v := .lit (.int .i64 (errE b f))) rfl rfl rfl rfl) ?_
    refine AOps.read trivial rfl (by decide) (Reader.move (.inr rfl) (ok_const rfl) (v := .str (textE b f)) rfl) ?_
    refine AOps.read trivial rfl (by decide) (Reader.move (.inr rfl) (ok_const rfl) (v := .lit (.int .i64 (errE b f))) rfl) ?_
    refine AOps.nil ?_
    refine AWp.seq ?_
    refine AWp.regionJ [51, 32, 0, 1, 2, 3, 6, 7, 8, 9, 10, 11, 12] [6, 7] (fun z => ⟨(51, .lit (.bool z)) :: [(32, .lit (.bool (bif (decide ((e.id.length : Int) > 80)) then true else (decide ((f.id.length : Int) > 80))))), (0, .lit (.int .i64 a)), (1, .lit (.int .i64 b)), (2, encE e), (3, encE f), (6, .lptr 6 0), (7, .lptr 7 0), (8, .lit (.bool false)), (9, .str (textE a e)), (10, .lit (.int .i64 (errE a e))), (11, .str (textE b f)), (12, .lit (.int .i64 (errE b f)))], [(6, [.lit (.int .i64 e.kind), .str e.id, .lit (.int .i64 e.sig), .lit (.int .i64 e.n)]), (7, [.lit (.int .i64 f.kind), .str f.id, .lit (.int .i64 f.sig), .lit (.int .i64 f.n)])], M⟩) (z := bif ((errE a e) != 0) then true else ((errE b f) != 0)) ?_ ?_
    · skip
      refine AOps.read trivial rfl (by decide) (Reader.move (.inl rfl) (ok_const rfl) (v := .lit (.int .i64 (errE a e))) rfl) ?_
      refine AOps.read trivial rfl (by decide) (Reader.int rfl rfl rfl (r := .bool ((errE a e) != 0)) rfl) ?_
      refine AOps.read trivial rfl (by decide) (Reader.move (.inl rfl) (ok_const rfl) (v := .lit (.bool ((errE a e) != 0))) rfl) ?_
      refine AOps.splitJ (t := 48) (b := (errE a e) != 0) (x := true) (y := ((errE b f) != 0)) rfl (fun h3 => ?_) (fun h3 => ?_)
      · skip
        have h3' : (errE a e) ≠ 0 := (by have hh := bne_iff_ne.1 h3; omega)
        clear h3
        refine AOps.skip ⟨2, false, 48, _, rfl, rfl, rfl, by simp⟩ rfl (by decide) ?_
        refine AOps.skip ⟨2, false, 48, _, rfl, rfl, rfl, by simp⟩ rfl (by decide) ?_
        refine AOps.read trivial rfl (by decide) (Reader.pick rfl (b := true) rfl (ok_const rfl) (ok_const rfl) (v := .lit (.bool true)) rfl) ?_
        exact AOps.nil rfl
      · skip
        have h3' : ¬ ((errE a e) ≠ 0) := (by have hh := bne_eq_false_iff_eq.1 h3; omega)
        clear h3
        refine AOps.read ⟨48, rfl, rfl⟩ rfl (by decide) (Reader.move (.inl rfl) (ok_const rfl) (v := .lit (.int .i64 (errE b f))) rfl) ?_
        refine AOps.read ⟨48, rfl, rfl⟩ rfl (by decide) (Reader.int rfl rfl rfl (r := .bool ((errE b f) != 0)) rfl) ?_
        refine AOps.read trivial rfl (by decide) (Reader.pick rfl (b := false) rfl (ok_const rfl) (ok_const rfl) (v := .lit (.bool ((errE b f) != 0))) rfl) ?_
        exact AOps.nil rfl
    refine AWp.cond (b := bif ((errE a e) != 0) then true else ((errE b f) != 0)) rfl (fun h4 => ?_) (fun h4 => ?_)
    · skip
      have h4' : True := trivial
      clear h4
      refine AWp.seq (AWp.region ?_)
      refine AOps.read trivial rfl (by decide) (Reader.move (.inr rfl) (ok_const rfl) (v := .lit (.bool true)) rfl) ?_
      refine AOps.nil ?_
      refine AWp.ret ?_
      exact ⟨.inl rfl, _, ResOf.one 8 (.lit (.bool true)) rfl rfl, ⟨rfl, rfl⟩⟩
    · skip
      have h4' : HasLine a e ∧ HasLine b f := (unl_f h4)
      clear h4
      refine AWp.skip ?_
      refine AWp.seq (AWp.region ?_)
      refine AOps.read trivial rfl (by decide) (Reader.move (.inl rfl) (ok_const rfl) (v := .str (textE a e)) rfl) ?_
      refine AOps.read trivial rfl (by decide) (Reader.cat rfl rfl rfl (by first | omega | (simp only [List.length_append, List.length_cons, List.length_nil]; omega) | (simp; omega)) (c := (textE a e) ++ [32]) rfl) ?_
      refine AOps.call (args := [.str ((textE a e) ++ [32])]) trivial rfl (by decide) rfl rfl Tryd.call25 (args_ok rfl) rfl (by intro j x v hx hv; match j, hx, hv with | 0, hx, hv => cases hx; cases hv; exact .inl ⟨rfl, rfl⟩ | _ + 1, hx, hv => cases hx) (lread_any ((textE a e) ++ [32]) (by have hq := text_len a (e := e) (by omega) we; simp only [List.length_append, List.length_cons, List.length_nil]; omega) M) ?_
      rintro _ _ ⟨rfl, rfl⟩
      refine AOps.read trivial rfl (by decide) (Reader.move (.inl rfl) (ok_const rfl) (v := .tuple [.lit (.int .i64 (rdN ((textE a e) ++ [32]))), encE (rdE ((textE a e) ++ [32])), .lit (.int .i64 (rdX ((textE a e) ++ [32])))]) rfl) ?_
      refine AOps.read trivial rfl (by decide) (Reader.extract (v := .lit (.int .i64 (rdN ((textE a e) ++ [32])))) rfl rfl rfl rfl) ?_
      refine AOps.read trivial rfl (by decide) (Reader.extract (v := encE (rdE ((textE a e) ++ [32]))) rfl rfl rfl rfl) ?_
      refine AOps.read trivial rfl (by decide) (Reader.extract (v := .lit (.int .i64 (rdX ((textE a e) ++ [32])))) rfl rfl rfl rfl) ?_
      refine AOps.alloc (Es := []) trivial rfl (by decide) rfl (noL rfl) rfl zero_34 rfl (cells := [.lit (.int .i64 0), .str [], .lit (.int .i64 0), .lit (.int .i64 0)]) rfl (all_scalar rfl) (all_flat rfl) ?_
      refine AOps.read trivial rfl (by decide) (Reader.move (.inr rfl) (ok_const rfl) (v := .lit (.int .i64 (rdN ((textE a e) ++ [32])))) rfl) ?_
      refine AOps.storeL trivial rfl rfl rfl rfl sizeOf_34 (.inl ⟨rfl, rfl⟩) rfl (v := encE (rdE ((textE a e) ++ [32]))) rfl (all_flat rfl) rfl (Nat.le_of_ble_eq_true rfl) ?_
      refine AOps.read trivial rfl (by decide) (Reader.move (.inr rfl) (ok_const rfl) (v := .lit (.int .i64 (rdX ((textE a e) ++ [32])))) rfl) ?_
      refine AOps.nil ?_
      refine AWp.seq (AWp.region ?_)
      refine AOps.read trivial rfl (by decide) (Reader.move (.inl rfl) (ok_const rfl) (v := .str (textE a e)) rfl) ?_
      refine AOps.read trivial rfl (by decide) (Reader.cat rfl rfl rfl (by first | omega | (simp only [List.length_append, List.length_cons, List.length_nil]; omega) | (simp; omega)) (c := [32] ++ (textE a e)) rfl) ?_
      refine AOps.call (args := [.str ([32] ++ (textE a e))]) trivial rfl (by decide) rfl rfl Tryd.call25 (args_ok rfl) rfl (by intro j x v hx hv; match j, hx, hv with | 0, hx, hv => cases hx; cases hv; exact .inl ⟨rfl, rfl⟩ | _ + 1, hx, hv => cases hx) (lread_any ([32] ++ (textE a e)) (by have hq := text_len a (e := e) (by omega) we; simp only [List.length_append, List.length_cons, List.length_nil]; omega) M) ?_
      rintro _ _ ⟨rfl, rfl⟩
      refine AOps.read trivial rfl (by decide) (Reader.move (.inl rfl) (ok_const rfl) (v := .tuple [.lit (.int .i64 (rdN ([32] ++ (textE a e)))), encE (rdE ([32] ++ (textE a e))), .lit (.int .i64 (rdX ([32] ++ (textE a e))))]) rfl) ?_
      refine AOps.read trivial rfl (by decide) (Reader.extract (v := .lit (.int .i64 (rdN ([32] ++ (textE a e))))) rfl rfl rfl rfl) ?_
      refine AOps.read trivial rfl (by decide) (Reader.extract (v := encE (rdE ([32] ++ (textE a e)))) rfl rfl rfl rfl) ?_
      refine AOps.read trivial rfl (by decide) (Reader.extract (v := .lit (.int .i64 (rdX ([32] ++ (textE a e))))) rfl rfl rfl rfl) ?_
      refine AOps.alloc (Es := []) trivial rfl (by decide) rfl (noL rfl) rfl zero_34 rfl (cells := [.lit (.int .i64 0), .str [], .lit (.int .i64 0), .lit (.int .i64 0)]) rfl (all_scalar rfl) (all_flat rfl) ?_
      refine AOps.read trivial rfl (by decide) (Reader.move (.inr rfl) (ok_const rfl) (v := .lit (.int .i64 (rdN ([32] ++ (textE a e))))) rfl) ?_
      refine AOps.storeL trivial rfl rfl rfl rfl sizeOf_34 (.inl ⟨rfl, rfl⟩) rfl (v := encE (rdE ([32] ++ (textE a e)))) rfl (all_flat rfl) rfl (Nat.le_of_ble_eq_true rfl) ?_
      refine AOps.read trivial rfl (by decide) (Reader.move (.inr rfl) (ok_const rfl) (v := .lit (.int .i64 (rdX ([32] ++ (textE a e))))) rfl) ?_
      refine AOps.nil ?_
      refine AWp.regionJ [8, 51, 32, 0, 1, 2, 3, 6, 7, 9, 10, 11, 12, 15, 18] [6, 7, 14, 17] (fun z => ⟨(8, .lit (.bool z)) :: [(51, .lit (.bool (bif ((errE a e) != 0) then true else ((errE b f) != 0)))), (32, .lit (.bool (bif (decide ((e.id.length : Int) > 80)) then true else (decide ((f.id.length : Int) > 80))))), (0, .lit (.int .i64 a)), (1, .lit (.int .i64 b)), (2, encE e), (3, encE f), (6, .lptr 6 0), (7, .lptr 7 0), (9, .str (textE a e)), (10, .lit (.int .i64 (errE a e))), (11, .str (textE b f)), (12, .lit (.int .i64 (errE b f))), (15, .lit (.int .i64 (rdX ((textE a e) ++ [32])))), (18, .lit (.int .i64 (rdX ([32] ++ (textE a e)))))], [(6, [.lit (.int .i64 e.kind), .str e.id, .lit (.int .i64 e.sig), .lit (.int .i64 e.n)]), (7, [.lit (.int .i64 f.kind), .str f.id, .lit (.int .i64 f.sig), .lit (.int .i64 f.n)]), (14, [.lit (.int .i64 ((rdE ((textE a e) ++ [32])).kind)), .str ((rdE ((textE a e) ++ [32])).id), .lit (.int .i64 ((rdE ((textE a e) ++ [32])).sig)), .lit (.int .i64 ((rdE ((textE a e) ++ [32])).n))]), (17, [.lit (.int .i64 ((rdE ([32] ++ (textE a e))).kind)), .str ((rdE ([32] ++ (textE a e))).id), .lit (.int .i64 ((rdE ([32] ++ (textE a e))).sig)), .lit (.int .i64 ((rdE ([32] ++ (textE a e))).n))])], M⟩) (z := bif (a == b) then (bif (((textE a e) == (textE b f)) == ((e.kind == f.kind) && ((e.id == f.id) && ((e.sig == f.sig) && ((e.n == f.n) && true))))) then (bif ((rdX ((textE a e) ++ [32])) == 2) then ((rdX ([32] ++ (textE a e))) == 2) else false) else false) else (bif (((textE a e) == (textE b f)) == false) then (bif ((rdX ((textE a e) ++ [32])) == 2) then ((rdX ([32] ++ (textE a e))) == 2) else false) else false)) ?_ ?_
      · skip
        refine AOps.read trivial rfl (by decide) (Reader.move (.inl rfl) (ok_const rfl) (v := .str (textE a e)) rfl) ?_
        refine AOps.read trivial rfl (by decide) (Reader.move (.inl rfl) (ok_const rfl) (v := .str (textE b f)) rfl) ?_
        refine AOps.read trivial rfl (by decide) (Reader.strs rfl rfl rfl (r := (textE a e) == (textE b f)) rfl) ?_
        refine AOps.read trivial rfl (by decide) (Reader.move (.inl rfl) (ok_const rfl) (v := .lit (.int .i64 a)) rfl) ?_
        refine AOps.read trivial rfl (by decide) (Reader.move (.inl rfl) (ok_const rfl) (v := .lit (.int .i64 b)) rfl) ?_
        refine AOps.read trivial rfl (by decide) (Reader.int rfl rfl rfl (r := .bool (a == b)) rfl) ?_
        refine AOps.read trivial rfl (by decide) (Reader.move (.inl rfl) (ok_const rfl) (v := .lit (.bool (a == b))) rfl) ?_
        refine AOps.splitJ (t := 72) (b := a == b) (x := (bif (((textE a e) == (textE b f)) == ((e.kind == f.kind) && ((e.id == f.id) && ((e.sig == f.sig) && ((e.n == f.n) && true))))) then (bif ((rdX ((textE a e) ++ [32])) == 2) then ((rdX ([32] ++ (textE a e))) == 2) else false) else false)) (y := (bif (((textE a e) == (textE b f)) == false) then (bif ((rdX ((textE a e) ++ [32])) == 2) then ((rdX ([32] ++ (textE a e))) == 2) else false) else false)) rfl (fun h5 => ?_) (fun h5 => ?_)
        · skip
          have h5' : a = b := (by have hh := eq_of_beq h5; omega)
          clear h5
          refine AOps.read ⟨72, rfl, rfl⟩ rfl (by decide) (Reader.loadL rfl Tryd.underlying34 sizeOf_34 rfl rfl (v := .agg [.lit (.int .i64 e.kind), .str e.id, .lit (.int .i64 e.sig), .lit (.int .i64 e.n)]) rfl rfl) ?_
          refine AOps.read ⟨72, rfl, rfl⟩ rfl (by decide) (Reader.loadL rfl Tryd.underlying34 sizeOf_34 rfl rfl (v := .agg [.lit (.int .i64 f.kind), .str f.id, .lit (.int .i64 f.sig), .lit (.int .i64 f.n)]) rfl rfl) ?_
          refine AOps.read ⟨72, rfl, rfl⟩ rfl (by decide) (Reader.eqAgg (us := [(.int .i64 e.kind), .string ⟨(e.id).toArray⟩, (.int .i64 e.sig), (.int .i64 e.n)]) (vs := [(.int .i64 f.kind), .string ⟨(f.id).toArray⟩, (.int .i64 f.sig), (.int .i64 f.n)]) (b := ((e.kind == f.kind) && ((e.id == f.id) && ((e.sig == f.sig) && ((e.n == f.n) && true))))) (r := ((e.kind == f.kind) && ((e.id == f.id) && ((e.sig == f.sig) && ((e.n == f.n) && true))))) 9 rfl rfl rfl ⟨_, rfl⟩ ⟨_, rfl⟩ Tryd.underlying34 rfl eqg_34 (by decide) rfl rfl (eqV_34 e.kind f.kind e.id f.id e.sig f.sig e.n f.n) (.inl ⟨rfl, rfl⟩)) ?_
          refine AOps.read trivial rfl (by decide) (Reader.pick rfl (b := true) rfl (ok_const rfl) (ok_const rfl) (v := .lit (.bool ((e.kind == f.kind) && ((e.id == f.id) && ((e.sig == f.sig) && ((e.n == f.n) && true)))))) rfl) ?_
          refine AOps.read trivial rfl (by decide) (Reader.bools (r := ((textE a e) == (textE b f)) == ((e.kind == f.kind) && ((e.id == f.id) && ((e.sig == f.sig) && ((e.n == f.n) && true))))) rfl Tryd.underlying4 rfl rfl (.inl ⟨rfl, rfl⟩)) ?_
          refine AOps.read trivial rfl (by decide) (Reader.move (.inl rfl) (ok_const rfl) (v := .lit (.bool (((textE a e) == (textE b f)) == ((e.kind == f.kind) && ((e.id == f.id) && ((e.sig == f.sig) && ((e.n == f.n) && true))))))) rfl) ?_
          refine AOps.splitJ (t := 78) (b := ((textE a e) == (textE b f)) == ((e.kind == f.kind) && ((e.id == f.id) && ((e.sig == f.sig) && ((e.n == f.n) && true))))) (x := (bif ((rdX ((textE a e) ++ [32])) == 2) then ((rdX ([32] ++ (textE a e))) == 2) else false)) (y := false) rfl (fun h6 => ?_) (fun h6 => ?_)
          · skip
            refine AOps.read ⟨78, rfl, rfl⟩ rfl (by decide) (Reader.move (.inl rfl) (ok_const rfl) (v := .lit (.int .i64 (rdX ((textE a e) ++ [32])))) rfl) ?_
            refine AOps.read ⟨78, rfl, rfl⟩ rfl (by decide) (Reader.int rfl rfl rfl (r := .bool ((rdX ((textE a e) ++ [32])) == 2)) rfl) ?_
            refine AOps.read trivial rfl (by decide) (Reader.pick rfl (b := true) rfl (ok_const rfl) (ok_const rfl) (v := .lit (.bool ((rdX ((textE a e) ++ [32])) == 2))) rfl) ?_
            refine AOps.read trivial rfl (by decide) (Reader.move (.inl rfl) (ok_const rfl) (v := .lit (.bool ((rdX ((textE a e) ++ [32])) == 2))) rfl) ?_
            refine AOps.splitJ (t := 82) (b := (rdX ((textE a e) ++ [32])) == 2) (x := ((rdX ([32] ++ (textE a e))) == 2)) (y := false) rfl (fun h7 => ?_) (fun h7 => ?_)
            · skip
              have h7' : (rdX ((textE a e) ++ [32])) = 2 := (by have hh := eq_of_beq h7; omega)
              clear h7
              refine AOps.read ⟨82, rfl, rfl⟩ rfl (by decide) (Reader.move (.inl rfl) (ok_const rfl) (v := .lit (.int .i64 (rdX ([32] ++ (textE a e))))) rfl) ?_
              refine AOps.read ⟨82, rfl, rfl⟩ rfl (by decide) (Reader.int rfl rfl rfl (r := .bool ((rdX ([32] ++ (textE a e))) == 2)) rfl) ?_
              refine AOps.read trivial rfl (by decide) (Reader.pick rfl (b := true) rfl (ok_const rfl) (ok_const rfl) (v := .lit (.bool ((rdX ([32] ++ (textE a e))) == 2))) rfl) ?_
              refine AOps.read trivial rfl (by decide) (Reader.move (.inr rfl) (ok_const rfl) (v := .lit (.bool ((rdX ([32] ++ (textE a e))) == 2))) rfl) ?_
              exact AOps.nil rfl
            · skip
              have h7' : ¬ ((rdX ((textE a e) ++ [32])) = 2) := (by have hh := beq_eq_false_iff_ne.1 h7; omega)
              clear h7
              refine AOps.skip ⟨16, true, 82, _, rfl, rfl, rfl, by simp⟩ rfl (by decide) ?_
              refine AOps.skip ⟨16, true, 82, _, rfl, rfl, rfl, by simp⟩ rfl (by decide) ?_
              refine AOps.read trivial rfl (by decide) (Reader.pick rfl (b := false) rfl (ok_const rfl) (ok_const rfl) (v := .lit (.bool false)) rfl) ?_
              refine AOps.read trivial rfl (by decide) (Reader.move (.inr rfl) (ok_const rfl) (v := .lit (.bool false)) rfl) ?_
              exact AOps.nil rfl
          · skip
            refine AOps.skip ⟨12, true, 78, _, rfl, rfl, rfl, by simp⟩ rfl (by decide) ?_
            refine AOps.skip ⟨12, true, 78, _, rfl, rfl, rfl, by simp⟩ rfl (by decide) ?_
            refine AOps.read trivial rfl (by decide) (Reader.pick rfl (b := false) rfl (ok_const rfl) (ok_const rfl) (v := .lit (.bool false)) rfl) ?_
            refine AOps.read trivial rfl (by decide) (Reader.move (.inl rfl) (ok_const rfl) (v := .lit (.bool false)) rfl) ?_
            refine AOps.skip ⟨16, true, 82, _, rfl, rfl, rfl, by simp⟩ rfl (by decide) ?_
            refine AOps.skip ⟨16, true, 82, _, rfl, rfl, rfl, by simp⟩ rfl (by decide) ?_
            refine AOps.read trivial rfl (by decide) (Reader.pick rfl (b := false) rfl (ok_const rfl) (ok_const rfl) (v := .lit (.bool false)) rfl) ?_
            refine AOps.read trivial rfl (by decide) (Reader.move (.inr rfl) (ok_const rfl) (v := .lit (.bool false)) rfl) ?_
            exact AOps.nil rfl
        · skip
          have h5' : ¬ (a = b) := (by have hh := beq_eq_false_iff_ne.1 h5; omega)
          clear h5
          refine AOps.skip ⟨6, true, 72, _, rfl, rfl, rfl, by simp⟩ rfl (by decide) ?_
          refine AOps.skip ⟨6, true, 72, _, rfl, rfl, rfl, by simp⟩ rfl (by decide) ?_
          refine AOps.skip ⟨6, true, 72, _, rfl, rfl, rfl, by simp⟩ rfl (by decide) ?_
          refine AOps.read trivial rfl (by decide) (Reader.pick rfl (b := false) rfl (ok_const rfl) (ok_const rfl) (v := .lit (.bool false)) rfl) ?_
          refine AOps.read trivial rfl (by decide) (Reader.bools (r := ((textE a e) == (textE b f)) == false) rfl Tryd.underlying4 rfl rfl (.inl ⟨rfl, rfl⟩)) ?_
          refine AOps.read trivial rfl (by decide) (Reader.move (.inl rfl) (ok_const rfl) (v := .lit (.bool (((textE a e) == (textE b f)) == false))) rfl) ?_
          refine AOps.splitJ (t := 78) (b := ((textE a e) == (textE b f)) == false) (x := (bif ((rdX ((textE a e) ++ [32])) == 2) then ((rdX ([32] ++ (textE a e))) == 2) else false)) (y := false) rfl (fun h8 => ?_) (fun h8 => ?_)
          · skip
            refine AOps.read ⟨78, rfl, rfl⟩ rfl (by decide) (Reader.move (.inl rfl) (ok_const rfl) (v := .lit (.int .i64 (rdX ((textE a e) ++ [32])))) rfl) ?_
            refine AOps.read ⟨78, rfl, rfl⟩ rfl (by decide) (Reader.int rfl rfl rfl (r := .bool ((rdX ((textE a e) ++ [32])) == 2)) rfl) ?_
            refine AOps.read trivial rfl (by decide) (Reader.pick rfl (b := true) rfl (ok_const rfl) (ok_const rfl) (v := .lit (.bool ((rdX ((textE a e) ++ [32])) == 2))) rfl) ?_
            refine AOps.read trivial rfl (by decide) (Reader.move (.inl rfl) (ok_const rfl) (v := .lit (.bool ((rdX ((textE a e) ++ [32])) == 2))) rfl) ?_
            refine AOps.splitJ (t := 82) (b := (rdX ((textE a e) ++ [32])) == 2) (x := ((rdX ([32] ++ (textE a e))) == 2)) (y := false) rfl (fun h9 => ?_) (fun h9 => ?_)
            · skip
              have h9' : (rdX ((textE a e) ++ [32])) = 2 := (by have hh := eq_of_beq h9; omega)
              clear h9
              refine AOps.read ⟨82, rfl, rfl⟩ rfl (by decide) (Reader.move (.inl rfl) (ok_const rfl) (v := .lit (.int .i64 (rdX ([32] ++ (textE a e))))) rfl) ?_
              refine AOps.read ⟨82, rfl, rfl⟩ rfl (by decide) (Reader.int rfl rfl rfl (r := .bool ((rdX ([32] ++ (textE a e))) == 2)) rfl) ?_
              refine AOps.read trivial rfl (by decide) (Reader.pick rfl (b := true) rfl (ok_const rfl) (ok_const rfl) (v := .lit (.bool ((rdX ([32] ++ (textE a e))) == 2))) rfl) ?_
              refine AOps.read trivial rfl (by decide) (Reader.move (.inr rfl) (ok_const rfl) (v := .lit (.bool ((rdX ([32] ++ (textE a e))) == 2))) rfl) ?_
              exact AOps.nil rfl
            · skip
              have h9' : ¬ ((rdX ((textE a e) ++ [32])) = 2) := (by have hh := beq_eq_false_iff_ne.1 h9; omega)
              clear h9
              refine AOps.skip ⟨16, true, 82, _, rfl, rfl, rfl, by simp⟩ rfl (by decide) ?_
              refine AOps.skip ⟨16, true, 82, _, rfl, rfl, rfl, by simp⟩ rfl (by decide) ?_
              refine AOps.read trivial rfl (by decide) (Reader.pick rfl (b := false) rfl (ok_const rfl) (ok_const rfl) (v := .lit (.bool false)) rfl) ?_
              refine AOps.read trivial rfl (by decide) (Reader.move (.inr rfl) (ok_const rfl) (v := .lit (.bool false)) rfl) ?_
              exact AOps.nil rfl
          · skip
            refine AOps.skip ⟨12, true, 78, _, rfl, rfl, rfl, by simp⟩ rfl (by decide) ?_
            refine AOps.skip ⟨12, true, 78, _, rfl, rfl, rfl, by simp⟩ rfl (by decide) ?_
            refine AOps.read trivial rfl (by decide) (Reader.pick rfl (b := false) rfl (ok_const rfl) (ok_const rfl) (v := .lit (.bool false)) rfl) ?_
            refine AOps.read trivial rfl (by decide) (Reader.move (.inl rfl) (ok_const rfl) (v := .lit (.bool false)) rfl) ?_
            refine AOps.skip ⟨16, true, 82, _, rfl, rfl, rfl, by simp⟩ rfl (by decide) ?_
            refine AOps.skip ⟨16, true, 82, _, rfl, rfl, rfl, by simp⟩ rfl (by decide) ?_
            refine AOps.read trivial rfl (by decide) (Reader.pick rfl (b := false) rfl (ok_const rfl) (ok_const rfl) (v := .lit (.bool false)) rfl) ?_
            refine AOps.read trivial rfl (by decide) (Reader.move (.inr rfl) (ok_const rfl) (v := .lit (.bool false)) rfl) ?_
            exact AOps.nil rfl
      refine AWp.ret ?_
      exact ⟨.inl rfl, _, ResOf.one 8 (.lit (.bool (bif (a == b) then (bif (((textE a e) == (textE b f)) == ((e.kind == f.kind) && ((e.id == f.id) && ((e.sig == f.sig) && ((e.n == f.n) && true))))) then (bif ((rdX ((textE a e) ++ [32])) == 2) then ((rdX ([32] ++ (textE a e))) == 2) else false) else false) else (bif (((textE a e) == (textE b f)) == false) then (bif ((rdX ((textE a e) ++ [32])) == 2) then ((rdX ([32] ++ (textE a e))) == 2) else false) else false)))) rfl rfl, ⟨congrArg (fun b => AV.lit (.bool b)) (unlike_ok (show HasLine a e ∧ HasLine b f by assumption).1 (show HasLine a e ∧ HasLine b f by assumption).2 we.2 wf.2), rfl⟩⟩

end Go.Proofs.YtlpihekflkjkfaaDoor
