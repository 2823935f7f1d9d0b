/- Walks over abstract values, printed by my program av.py. -/
import Derived.Test.YtlpihekflkjkfaaDoorLg2
namespace Go.Proofs.YtlpihekflkjkfaaDoor
open Go.RowKit

/-- What is told: the kind's word, and the fields. -/
def toldL (e : Ev) : List (List UInt8) := if 1 ≤ e.kind ∧ e.kind ≤ 16 then kwOf e.kind :: flE e else []
theorem told_yes {e : Ev} (h : 1 ≤ e.kind ∧ e.kind ≤ 16) : toldL e = kwOf e.kind :: flE e := if_pos h
theorem told_not {e : Ev} (h : ¬ (1 ≤ e.kind ∧ e.kind ≤ 16)) : toldL e = [] := if_neg h
theorem fl_len (e : Ev) : (flE e).length ≤ 3 := by
  unfold flE; (repeat' split) <;> simp
theorem told_b {e : Ev} (h1 : 1 ≤ e.kind) (h2 : e.kind ≤ 16) (h : okE e = false) : decide (RightE e) = false := decide_eq_false fun hr => by
  have := hr.2.2.1; rw [h] at this; cases this
theorem told_t {e : Ev} (h1 : 1 ≤ e.kind) (h2 : e.kind ≤ 16) (h : okE e = true) : (((restE e).kind == e.kind) && (((restE e).id == []) && (((restE e).sig == 0) && (((restE e).n == 0) && true)))) = decide (RightE e) := by
  rw [Bool.eq_iff_iff, decide_eq_true_iff]
  unfold RightE
  constructor
  · intro hh
    simp only [Bool.and_eq_true, beq_iff_eq] at hh
    refine ⟨h1, h2, h, ?_⟩
    generalize restE e = x at hh
    obtain ⟨a, b, c, d⟩ := x
    obtain ⟨q1, q2, q3, q4, _⟩ := hh
    simp only at q1 q2 q3 q4
    rw [q1, q2, q3, q4]
  · rintro ⟨_, _, _, hh⟩
    rw [hh]; simp
theorem told_len (e : Ev) : (toldL e).length ≤ 4 := by
  unfold toldL; have := fl_len e
  split
  · rw [List.length_cons]; omega
  · exact Nat.zero_le _
theorem kw_len (k : Int) : (kwOf k).length ≤ 7 := by
  unfold kwOf
  have : ∀ j, (kwL.getD j []).length ≤ 7 := by
    intro j
    match j with
    | 0 | 1 | 2 | 3 | 4 | 5 | 6 | 7 | 8 | 9 | 10 | 11 | 12 | 13 | 14 | 15 | 16 => decide
    | j + 17 => exact Nat.zero_le _
  exact this _
theorem sgw_len (n : Int) : (sgw n).length ≤ 6 := by unfold sgw wordOf; (repeat' split) <;> decide
theorem itoa_len20 {n : Int} (h : -9223372036854775808 ≤ n ∧ n ≤ 9223372036854775807) : (Lib.itoa n).length ≤ 21 := Lib.itoa_length_le n h.1 h.2
theorem itoa_r_len {r : Int} (h : 0 ≤ r ∧ r ≤ 1099511627776) : (Lib.itoa r).length ≤ 21 := itoa_len20 (by omega)
theorem join_len_le (x : List UInt8) (l : List (List UInt8)) (b : Nat) (h : ∀ y ∈ x :: l, y.length ≤ b) : (Lib.join (x :: l) [32]).length ≤ (l.length + 1) * (b + 1) := by
  induction l generalizing x with
  | nil => rw [Lib.join_one]; have := h x (List.mem_cons_self ..); simp; omega
  | cons y r ih =>
    rw [join_two, List.length_append, List.length_cons]
    have h1 := ih y (fun z hz => h z (List.mem_cons_of_mem _ hz))
    have h2 := h x (List.mem_cons_self ..)
    rw [List.length_cons]
    have e : (r.length + 1 + 1) * (b + 1) = (r.length + 1) * (b + 1) + (b + 1) := Nat.succ_mul _ _
    omega
theorem fl_each {e : Ev} (hid : e.id.length ≤ 4294967280) (hn : -9223372036854775808 ≤ e.n ∧ e.n ≤ 9223372036854775807) : ∀ y ∈ flE e, y.length ≤ 4294967280 := by
  have h1 := sgw_len e.sig
  have h2 := itoa_len20 hn
  have h3 : presL.length = 8 := rfl
  have h4 : roomL.length = 4 := rfl
  intro y hy
  unfold flE at hy
  (repeat' split at hy) <;> simp only [List.mem_cons, List.mem_nil_iff, or_false] at hy
  all_goals first
    | (rcases hy with rfl | rfl | rfl <;> omega)
    | (rcases hy with rfl | rfl <;> omega)
    | (subst hy; omega)
theorem told_join (e : Ev) (hid : e.id.length ≤ 4294967280) (hn : -9223372036854775808 ≤ e.n ∧ e.n ≤ 9223372036854775807) : (Lib.join (toldL e) [32]).length ≤ 17179869200 := by
  unfold toldL
  split
  · have := join_len_le (kwOf e.kind) (flE e) 4294967280 (fun y hy => by
      rcases List.mem_cons.1 hy with rfl | hy
      · have := kw_len e.kind; omega
      · exact fl_each hid hn y hy)
    have h3 := fl_len e
    have h4 : ((flE e).length + 1) * (4294967280 + 1) ≤ 4 * (4294967280 + 1) := Nat.mul_le_mul_right _ (by omega)
    omega
  · rw [Lib.join_nil]; simp
theorem hl_t {r : Int} {e : Ev} (h : (bif !(decide (RightE e)) then true else (bif decide (r < 0) then true else decide (r > 1099511627776))) = true) : ¬ HasLine r e := by
  rintro ⟨h1, h2, h3⟩
  rw [decide_eq_true h1, decide_eq_false (show ¬ r < 0 by omega), decide_eq_false (show ¬ r > 1099511627776 by omega)] at h; cases h
theorem hl_f {r : Int} {e : Ev} (h : (bif !(decide (RightE e)) then true else (bif decide (r < 0) then true else decide (r > 1099511627776))) = false) : (0 ≤ r ∧ r ≤ 1099511627776) ∧ HasLine r e := by
  by_cases h1 : RightE e
  · rw [decide_eq_true h1] at h
    by_cases h2 : r < 0
    · rw [decide_eq_true h2] at h; cases h
    · rw [decide_eq_false h2] at h
      have h3 := of_decide_eq_false h
      exact ⟨by omega, h1, by omega, by omega⟩
  · rw [decide_eq_false h1] at h; cases h
theorem textE_no {r : Int} {e : Ev} (h : ¬ HasLine r e) : textE r e = [] := if_neg h
theorem errE_no {r : Int} {e : Ev} (h : ¬ HasLine r e) : errE r e = 1 := if_neg h
theorem errE_yes {r : Int} {e : Ev} (h : HasLine r e) : errE r e = 0 := if_pos h
theorem textE_yes {r : Int} {e : Ev} (h : HasLine r e) : textE r e = lineE r e := if_pos h
theorem line_text {r : Int} {e : Ev} (h : HasLine r e) : textE r e = (Lib.itoa r ++ [32]) ++ Lib.join (toldL e) [32] := by
  rw [textE_yes h, itoa_pos h.2.1, told_yes ⟨h.1.1, h.1.2.1⟩]; rfl

set_option maxRecDepth 20000 in
theorem told_k (e : Ev) (h1 : 1 ≤ e.kind) (h2 : e.kind ≤ 16) (hid : e.id.length ≤ 4294967280) (hn : -9223372036854775808 ≤ e.n ∧ e.n ≤ 9223372036854775807) (M : Nat → Option (List AV)) : ACall Tryd.prog 48 [encE e] M (fun r M' => r = .tuple [.list true 9 ((toldL e).map AV.str), .lit (.bool (decide (RightE e)))] ∧ M = M') := by
  have hfl := fl_len e
  refine ACall.of Tryd.func48 rfl (n := 33) rfl rfl rfl ?_
  refine AWp.seq (AWp.region ?_)
  refine AOps.box trivial rfl (by decide) rfl (noL rfl) rfl (v := encE e) (.inl ⟨rfl, rfl⟩) rfl rfl (all_flat rfl) ?_
  refine AOps.nilList 9 trivial rfl (by decide) (.inl rfl) ?_
  refine AOps.read trivial rfl (by decide) (Reader.move (.inr rfl) (ok_const rfl) (v := .lit (.bool false)) rfl) ?_
  refine AOps.nil ?_
  refine AWp.seq ?_
  refine AWp.seq (AWp.region ?_)
  refine AOps.read trivial rfl (by decide) (Reader.fieldL rfl ⟨_, _, Tryd.underlying34, rfl, rfl, rfl, sizeOf_3⟩ (by decide) rfl) ?_
  refine AOps.read trivial rfl (by decide) (Reader.loadL rfl Tryd.underlying3 sizeOf_3 rfl rfl (v := .lit (.int .i64 e.kind)) rfl rfl) ?_
  refine AOps.call (args := [.lit (.int .i64 e.kind)]) trivial rfl (by decide) rfl rfl Tryd.call60 (args_ok rfl) rfl (by intro j x v hx hv; match j, hx, hv with | 0, hx, hv => cases hx; cases hv; exact .inl ⟨rfl, rfl⟩ | _ + 1, hx, hv => cases hx) (known_any e.kind M) ?_
  rintro _ _ ⟨rfl, rfl⟩
  refine AOps.read trivial rfl (by decide) (Reader.not (b := decide (KnownP e.kind)) rfl rfl) ?_
  refine AOps.nil ?_
  refine AWp.cond (b := !(decide (KnownP e.kind))) rfl (fun h1 => ?_) (fun h1 => ?_)
  · skip
    have h1' : ¬ (1 ≤ e.kind ∧ e.kind ≤ 16) := (of_decide_eq_false (bnot_t h1))
    clear h1
    exfalso; omega
  · skip
    have h1' : 1 ≤ e.kind ∧ e.kind ≤ 16 := (of_decide_eq_true (bnot_f h1))
    clear h1
    refine AWp.skip ?_
    refine AWp.seq (AWp.region ?_)
    refine AOps.read trivial rfl (by decide) (Reader.loadL rfl Tryd.underlying34 sizeOf_34 rfl rfl (v := .agg [.lit (.int .i64 e.kind), .str e.id, .lit (.int .i64 e.sig), .lit (.int .i64 e.n)]) rfl rfl) ?_
    refine AOps.call (args := [encE e]) trivial rfl (by decide) rfl rfl Tryd.call79 (args_ok rfl) rfl (by intro j x v hx hv; match j, hx, hv with | 0, hx, hv => cases hx; cases hv; exact .inl ⟨rfl, rfl⟩ | _ + 1, hx, hv => cases hx) (fields_any e (by omega) (by omega) hid hn M) ?_
    rintro _ _ ⟨rfl, rfl⟩
    refine AOps.read trivial rfl (by decide) (Reader.move (.inl rfl) (ok_const rfl) (v := .tuple [.list false 9 ((flE e).map AV.str), encE (restE e), .lit (.bool (okE e))]) rfl) ?_
    refine AOps.read trivial rfl (by decide) (Reader.extract (v := .list false 9 ((flE e).map AV.str)) rfl rfl rfl rfl) ?_
    refine AOps.read trivial rfl (by decide) (Reader.extract (v := encE (restE e)) rfl rfl rfl rfl) ?_
    refine AOps.read trivial rfl (by decide) (Reader.extract (v := .lit (.bool (okE e))) rfl rfl rfl rfl) ?_
    refine AOps.alloc (Es := []) trivial rfl (by decide) rfl (noL rfl) rfl zero_34 rfl (cells := [.lit (.int .i64 0), .str [], .lit (.int .i64 0), .lit (.int .i64 0)]) rfl (all_scalar rfl) (all_flat rfl) ?_
    refine AOps.read trivial rfl (by decide) (Reader.move (.inr rfl) (ok_const rfl) (v := .list false 9 ((flE e).map AV.str)) rfl) ?_
    refine AOps.storeL trivial rfl rfl rfl rfl sizeOf_34 (.inl ⟨rfl, rfl⟩) rfl (v := encE (restE e)) rfl (all_flat rfl) rfl (Nat.le_of_ble_eq_true rfl) ?_
    refine AOps.read trivial rfl (by decide) (Reader.move (.inr rfl) (ok_const rfl) (v := .lit (.bool (okE e))) rfl) ?_
    refine AOps.nil ?_
    refine AWp.cases 6 (b := okE e) rfl (fun h2 => ?_) (fun h2 => ?_)
    · skip
      have h2' : okE e = true := h2
      clear h2
      refine AWp.seq (AWp.anyR [0, 1, 2, 3, 10, 5, 4, 6] [1, 5] (⟨[(0, encE e), (1, .lptr 1 0), (2, .list true 9 ([.str (kwL.getD e.kind.toNat [])] ++ ((flE e).map AV.str))), (3, .lit (.bool ((((restE e).kind) == e.kind) && ((((restE e).id) == []) && ((((restE e).sig) == 0) && ((((restE e).n) == 0) && true)))))), (10, .lit (.bool (!(decide (KnownP e.kind))))), (5, .lptr 5 0), (4, .list false 9 ((flE e).map AV.str)), (6, .lit (.bool true))], [(1, [.lit (.int .i64 e.kind), .str e.id, .lit (.int .i64 e.sig), .lit (.int .i64 e.n)]), (5, [.lit (.int .i64 ((restE e).kind)), .str ((restE e).id), .lit (.int .i64 ((restE e).sig)), .lit (.int .i64 ((restE e).n))])], M⟩) (by kernel_rfl) ?_ ?_)
      · skip
        skip
        refine SAny.share 3 #[true, true, true, true, true, true, true, true, true, true, true, true, true, true, false, false, true, false] (⟨[(0, encE e), (1, .lptr 1 0), (2, .list true 9 ([.str (kwL.getD e.kind.toNat [])] ++ ((flE e).map AV.str))), (3, .lit (.bool false)), (7, .lptr 1 0), (8, .lit (.int .i64 e.kind)), (9, .lit (.bool (decide (KnownP e.kind)))), (10, .lit (.bool (!(decide (KnownP e.kind))))), (12, .agg [.lit (.int .i64 e.kind), .str e.id, .lit (.int .i64 e.sig), .lit (.int .i64 e.n)]), (13, .tuple [.list true 9 ((flE e).map AV.str), encE (restE e), .lit (.bool (okE e))]), (11, .tuple [.list false 9 ((flE e).map AV.str), encE (restE e), .lit (.bool (okE e))]), (14, .list false 9 ((flE e).map AV.str)), (15, encE (restE e)), (16, .lit (.bool (okE e))), (5, .lptr 5 0), (4, .list false 9 ((flE e).map AV.str)), (6, .lit (.bool true)), (18, .lptr 1 0), (23, .list false 9 ((flE e).map AV.str)), (25, .lit (.bool true)), (19, .lit (.int .i64 e.kind)), (17, .list true 9 (kwL.map AV.str)), (20, .eptr (.str (kwL.getD e.kind.toNat [])) 0), (21, .str (kwL.getD e.kind.toNat [])), (22, .list false 9 [.str (kwL.getD e.kind.toNat [])]), (24, .list false 9 ([.str (kwL.getD e.kind.toNat [])] ++ ((flE e).map AV.str))), (26, .lit (.bool true)), (28, .lptr 1 0), (29, .lit (.int .i64 e.kind)), (30, .agg [.lit (.int .i64 e.kind), .str [], .lit (.int .i64 0), .lit (.int .i64 0)]), (27, .agg [.lit (.int .i64 ((restE e).kind)), .str ((restE e).id), .lit (.int .i64 ((restE e).sig)), .lit (.int .i64 ((restE e).n))])], [(1, [.lit (.int .i64 e.kind), .str e.id, .lit (.int .i64 e.sig), .lit (.int .i64 e.n)]), (5, [.lit (.int .i64 ((restE e).kind)), .str ((restE e).id), .lit (.int .i64 ((restE e).sig)), .lit (.int .i64 ((restE e).n))])], M⟩) ?_ (fun n0 => ?_)
        · skip
          refine SAny.step [14] (by kernel_rfl) (by decide) ?_
          intro iq hq; simp only [List.mem_cons, List.mem_nil_iff, or_false] at hq
          rcases hq with rfl
          · refine ⟨_, rfl, ?_⟩
            refine AOps.read ⟨26, rfl, rfl⟩ rfl (by decide) (Reader.eqAgg (us := [(.int .i64 ((restE e).kind)), .string ⟨((restE e).id).toArray⟩, (.int .i64 ((restE e).sig)), (.int .i64 ((restE e).n))]) (vs := [(.int .i64 e.kind), .string ⟨([]).toArray⟩, (.int .i64 0), (.int .i64 0)]) (b := ((((restE e).kind) == e.kind) && ((((restE e).id) == []) && ((((restE e).sig) == 0) && ((((restE e).n) == 0) && true))))) (r := ((((restE e).kind) == e.kind) && ((((restE e).id) == []) && ((((restE e).sig) == 0) && ((((restE e).n) == 0) && true))))) 9 rfl rfl rfl ⟨_, rfl⟩ ⟨_, rfl⟩ Tryd.underlying34 rfl eqg_34 (by decide) rfl rfl (eqV_34 ((restE e).kind) e.kind ((restE e).id) [] ((restE e).sig) 0 ((restE e).n) 0) (.inl ⟨rfl, rfl⟩)) ?_
            refine AOps.nil ?_
            refine SAny.take 15 rfl (by kernel_rfl) (by kernel_rfl) (by kernel_rfl) trivial rfl (by decide) (PReader.pick rfl (b := true) rfl (ok_const rfl) (ok_const rfl) (v := .lit (.bool ((((restE e).kind) == e.kind) && ((((restE e).id) == []) && ((((restE e).sig) == 0) && ((((restE e).n) == 0) && true)))))) rfl) ?_
            refine SAny.take 17 rfl (by kernel_rfl) (by kernel_rfl) (by kernel_rfl) trivial rfl (by decide) (PReader.move (.inr rfl) (ok_const rfl) (v := .lit (.bool ((((restE e).kind) == e.kind) && ((((restE e).id) == []) && ((((restE e).sig) == 0) && ((((restE e).n) == 0) && true)))))) rfl) ?_
            exact SAny.done (by kernel_rfl) rfl
        refine SAny.share 4 #[true, true, true, true, true, true, true, true, true, true, false, true, true, true, false, false, true, false] (⟨[(0, encE e), (1, .lptr 1 0), (2, .list true 9 ([.str (kwL.getD e.kind.toNat [])] ++ ((flE e).map AV.str))), (3, .lit (.bool false)), (7, .lptr 1 0), (8, .lit (.int .i64 e.kind)), (9, .lit (.bool (decide (KnownP e.kind)))), (10, .lit (.bool (!(decide (KnownP e.kind))))), (12, .agg [.lit (.int .i64 e.kind), .str e.id, .lit (.int .i64 e.sig), .lit (.int .i64 e.n)]), (13, .tuple [.list true 9 ((flE e).map AV.str), encE (restE e), .lit (.bool (okE e))]), (11, .tuple [.list false 9 ((flE e).map AV.str), encE (restE e), .lit (.bool (okE e))]), (14, .list false 9 ((flE e).map AV.str)), (15, encE (restE e)), (16, .lit (.bool (okE e))), (5, .lptr 5 0), (4, .list false 9 ((flE e).map AV.str)), (6, .lit (.bool true)), (18, .lptr 1 0), (23, .list false 9 ((flE e).map AV.str)), (25, .lit (.bool true)), (19, .lit (.int .i64 e.kind)), (17, .list true 9 (kwL.map AV.str)), (20, .eptr (.str (kwL.getD e.kind.toNat [])) 0), (21, .str (kwL.getD e.kind.toNat [])), (22, .list false 9 [.str (kwL.getD e.kind.toNat [])]), (24, .list false 9 ([.str (kwL.getD e.kind.toNat [])] ++ ((flE e).map AV.str))), (26, .lit (.bool true)), (28, .lptr 1 0), (29, .lit (.int .i64 e.kind)), (30, .agg [.lit (.int .i64 e.kind), .str [], .lit (.int .i64 0), .lit (.int .i64 0)])], [(1, [.lit (.int .i64 e.kind), .str e.id, .lit (.int .i64 e.sig), .lit (.int .i64 e.n)]), (5, [.lit (.int .i64 ((restE e).kind)), .str ((restE e).id), .lit (.int .i64 ((restE e).sig)), .lit (.int .i64 ((restE e).n))])], M⟩) ?_ (fun n1 => ?_)
        · skip
          refine SAny.step [10] (by kernel_rfl) (by decide) ?_
          intro iq hq; simp only [List.mem_cons, List.mem_nil_iff, or_false] at hq
          rcases hq with rfl
          · refine ⟨_, rfl, ?_⟩
            refine AOps.read ⟨26, rfl, rfl⟩ rfl (by decide) (Reader.loadL rfl Tryd.underlying34 sizeOf_34 rfl rfl (v := .agg [.lit (.int .i64 ((restE e).kind)), .str ((restE e).id), .lit (.int .i64 ((restE e).sig)), .lit (.int .i64 ((restE e).n))]) rfl rfl) ?_
            refine AOps.nil ?_
            exact SAny.same [0, 1, 2, 3, 7, 8, 9, 10, 12, 13, 11, 14, 15, 16, 5, 4, 6, 18, 23, 25, 19, 17, 20, 21, 22, 24, 26, 28, 29, 30, 27] [1, 5] n0 (by kernel_rfl) rfl
        refine SAny.share 4 #[true, true, true, true, true, true, true, true, true, true, true, true, true, true, false, false, false, false] (⟨[(0, encE e), (1, .lptr 1 0), (2, .list true 9 []), (3, .lit (.bool false)), (7, .lptr 1 0), (8, .lit (.int .i64 e.kind)), (9, .lit (.bool (decide (KnownP e.kind)))), (10, .lit (.bool (!(decide (KnownP e.kind))))), (12, .agg [.lit (.int .i64 e.kind), .str e.id, .lit (.int .i64 e.sig), .lit (.int .i64 e.n)]), (13, .tuple [.list true 9 ((flE e).map AV.str), encE (restE e), .lit (.bool (okE e))]), (11, .tuple [.list false 9 ((flE e).map AV.str), encE (restE e), .lit (.bool (okE e))]), (14, .list false 9 ((flE e).map AV.str)), (15, encE (restE e)), (16, .lit (.bool (okE e))), (5, .lptr 5 0), (4, .list false 9 ((flE e).map AV.str)), (6, .lit (.bool true)), (18, .lptr 1 0), (23, .list false 9 ((flE e).map AV.str)), (25, .lit (.bool true)), (19, .lit (.int .i64 e.kind)), (17, .list true 9 (kwL.map AV.str)), (20, .eptr (.str (kwL.getD e.kind.toNat [])) 0), (21, .str (kwL.getD e.kind.toNat [])), (22, .list false 9 [.str (kwL.getD e.kind.toNat [])]), (24, .list true 9 ([.str (kwL.getD e.kind.toNat [])] ++ ((flE e).map AV.str))), (26, .lit (.bool true)), (28, .lptr 1 0), (29, .lit (.int .i64 e.kind)), (30, .agg [.lit (.int .i64 e.kind), .str [], .lit (.int .i64 0), .lit (.int .i64 0)]), (27, .agg [.lit (.int .i64 ((restE e).kind)), .str ((restE e).id), .lit (.int .i64 ((restE e).sig)), .lit (.int .i64 ((restE e).n))])], [(1, [.lit (.int .i64 e.kind), .str e.id, .lit (.int .i64 e.sig), .lit (.int .i64 e.n)]), (5, [.lit (.int .i64 ((restE e).kind)), .str ((restE e).id), .lit (.int .i64 ((restE e).sig)), .lit (.int .i64 ((restE e).n))])], M⟩) ?_ (fun n2 => ?_)
        · skip
          refine SAny.step [14, 16] (by kernel_rfl) (by decide) ?_
          intro iq hq; simp only [List.mem_cons, List.mem_nil_iff, or_false] at hq
          rcases hq with rfl | rfl
          · refine ⟨_, rfl, ?_⟩
            refine AOps.read ⟨26, rfl, rfl⟩ rfl (by decide) (Reader.eqAgg (us := [(.int .i64 ((restE e).kind)), .string ⟨((restE e).id).toArray⟩, (.int .i64 ((restE e).sig)), (.int .i64 ((restE e).n))]) (vs := [(.int .i64 e.kind), .string ⟨([]).toArray⟩, (.int .i64 0), (.int .i64 0)]) (b := ((((restE e).kind) == e.kind) && ((((restE e).id) == []) && ((((restE e).sig) == 0) && ((((restE e).n) == 0) && true))))) (r := ((((restE e).kind) == e.kind) && ((((restE e).id) == []) && ((((restE e).sig) == 0) && ((((restE e).n) == 0) && true))))) 9 rfl rfl rfl ⟨_, rfl⟩ ⟨_, rfl⟩ Tryd.underlying34 rfl eqg_34 (by decide) rfl rfl (eqV_34 ((restE e).kind) e.kind ((restE e).id) [] ((restE e).sig) 0 ((restE e).n) 0) (.inl ⟨rfl, rfl⟩)) ?_
            refine AOps.nil ?_
            refine SAny.take 15 rfl (by kernel_rfl) (by kernel_rfl) (by kernel_rfl) trivial rfl (by decide) (PReader.pick rfl (b := true) rfl (ok_const rfl) (ok_const rfl) (v := .lit (.bool ((((restE e).kind) == e.kind) && ((((restE e).id) == []) && ((((restE e).sig) == 0) && ((((restE e).n) == 0) && true)))))) rfl) ?_
            refine SAny.step [16] (by kernel_rfl) (by decide) ?_
            intro iq hq; simp only [List.mem_cons, List.mem_nil_iff, or_false] at hq
            rcases hq with rfl
            · refine ⟨_, rfl, ?_⟩
              refine AOps.steal trivial rfl (by decide) (by decide) (.inr rfl) (v := .list true 9 ([.str (kwL.getD e.kind.toNat [])] ++ ((flE e).map AV.str))) rfl ?_
              refine AOps.nil ?_
              refine SAny.take 17 rfl (by kernel_rfl) (by kernel_rfl) (by kernel_rfl) trivial rfl (by decide) (PReader.move (.inr rfl) (ok_const rfl) (v := .lit (.bool ((((restE e).kind) == e.kind) && ((((restE e).id) == []) && ((((restE e).sig) == 0) && ((((restE e).n) == 0) && true)))))) rfl) ?_
              exact SAny.done (by kernel_rfl) rfl
          · refine ⟨_, rfl, ?_⟩
            refine AOps.steal trivial rfl (by decide) (by decide) (.inr rfl) (v := .list true 9 ([.str (kwL.getD e.kind.toNat [])] ++ ((flE e).map AV.str))) rfl ?_
            refine AOps.nil ?_
            exact SAny.same [0, 1, 2, 3, 7, 8, 9, 10, 12, 13, 11, 14, 15, 16, 5, 4, 6, 18, 23, 25, 19, 17, 20, 21, 22, 24, 26, 28, 29, 30, 27] [1, 5] n0 (by kernel_rfl) rfl
        refine SAny.share 5 #[true, true, true, true, true, true, true, true, true, true, true, true, false, false, false, false, true, false] (⟨[(0, encE e), (1, .lptr 1 0), (2, .list true 9 ([.str (kwL.getD e.kind.toNat [])] ++ ((flE e).map AV.str))), (3, .lit (.bool false)), (7, .lptr 1 0), (8, .lit (.int .i64 e.kind)), (9, .lit (.bool (decide (KnownP e.kind)))), (10, .lit (.bool (!(decide (KnownP e.kind))))), (12, .agg [.lit (.int .i64 e.kind), .str e.id, .lit (.int .i64 e.sig), .lit (.int .i64 e.n)]), (13, .tuple [.list true 9 ((flE e).map AV.str), encE (restE e), .lit (.bool (okE e))]), (11, .tuple [.list false 9 ((flE e).map AV.str), encE (restE e), .lit (.bool (okE e))]), (14, .list false 9 ((flE e).map AV.str)), (15, encE (restE e)), (16, .lit (.bool (okE e))), (5, .lptr 5 0), (4, .list false 9 ((flE e).map AV.str)), (6, .lit (.bool true)), (18, .lptr 1 0), (23, .list false 9 ((flE e).map AV.str)), (25, .lit (.bool true)), (19, .lit (.int .i64 e.kind)), (17, .list true 9 (kwL.map AV.str)), (20, .eptr (.str (kwL.getD e.kind.toNat [])) 0), (21, .str (kwL.getD e.kind.toNat [])), (22, .list false 9 [.str (kwL.getD e.kind.toNat [])]), (24, .list false 9 ([.str (kwL.getD e.kind.toNat [])] ++ ((flE e).map AV.str))), (26, .lit (.bool true)), (28, .lptr 1 0), (27, .agg [.lit (.int .i64 ((restE e).kind)), .str ((restE e).id), .lit (.int .i64 ((restE e).sig)), .lit (.int .i64 ((restE e).n))])], [(1, [.lit (.int .i64 e.kind), .str e.id, .lit (.int .i64 e.sig), .lit (.int .i64 e.n)]), (5, [.lit (.int .i64 ((restE e).kind)), .str ((restE e).id), .lit (.int .i64 ((restE e).sig)), .lit (.int .i64 ((restE e).n))])], M⟩) ?_ (fun n3 => ?_)
        · skip
          refine SAny.step [12] (by kernel_rfl) (by decide) ?_
          intro iq hq; simp only [List.mem_cons, List.mem_nil_iff, or_false] at hq
          rcases hq with rfl
          · refine ⟨_, rfl, ?_⟩
            refine AOps.read ⟨26, rfl, rfl⟩ rfl (by decide) (Reader.loadL rfl Tryd.underlying3 sizeOf_3 rfl rfl (v := .lit (.int .i64 e.kind)) rfl rfl) ?_
            refine AOps.nil ?_
            refine SAny.take 13 rfl (by kernel_rfl) (by kernel_rfl) (by kernel_rfl) ⟨26, rfl, rfl⟩ rfl (by decide) (PReader.build (xs := [(0, .lit (.int .i64 e.kind))]) (Es := []) (places := places_34) rfl Tryd.underlying34 (by refine ⟨rfl, fun j p x hp hx => ?_⟩; match j, hp, hx with | 0, hp, hx => cases hp; cases hx; exact ⟨rfl, .inl ⟨rfl, rfl⟩, rfl, rfl⟩ | _ + 1, hp, hx => cases hp) zero_34 rfl places_34_ok (cs := [.lit (.int .i64 e.kind), .str [], .lit (.int .i64 0), .lit (.int .i64 0)]) rfl) ?_
            exact SAny.same [0, 1, 2, 3, 7, 8, 9, 10, 12, 13, 11, 14, 15, 16, 5, 4, 6, 18, 23, 25, 19, 17, 20, 21, 22, 24, 26, 28, 29, 30, 27] [1, 5] n0 (by kernel_rfl) rfl
        refine SAny.share 12 #[true, true, true, true, false, false, true, false, true, false, false, false, false, false, false, false, false, false] (⟨[(0, encE e), (1, .lptr 1 0), (2, .list true 9 []), (3, .lit (.bool false)), (7, .lptr 1 0), (8, .lit (.int .i64 e.kind)), (9, .lit (.bool (decide (KnownP e.kind)))), (10, .lit (.bool (!(decide (KnownP e.kind))))), (12, .agg [.lit (.int .i64 e.kind), .str e.id, .lit (.int .i64 e.sig), .lit (.int .i64 e.n)]), (13, .tuple [.list true 9 ((flE e).map AV.str), encE (restE e), .lit (.bool (okE e))]), (11, .tuple [.list false 9 ((flE e).map AV.str), encE (restE e), .lit (.bool (okE e))]), (14, .list false 9 ((flE e).map AV.str)), (15, encE (restE e)), (16, .lit (.bool (okE e))), (5, .lptr 5 0), (4, .list false 9 ((flE e).map AV.str)), (6, .lit (.bool true)), (18, .lptr 1 0), (23, .list false 9 ((flE e).map AV.str)), (25, .lit (.bool true)), (19, .lit (.int .i64 e.kind)), (17, .list true 9 (kwL.map AV.str)), (20, .eptr (.str (kwL.getD e.kind.toNat [])) 0)], [(1, [.lit (.int .i64 e.kind), .str e.id, .lit (.int .i64 e.sig), .lit (.int .i64 e.n)]), (5, [.lit (.int .i64 ((restE e).kind)), .str ((restE e).id), .lit (.int .i64 ((restE e).sig)), .lit (.int .i64 ((restE e).n))])], M⟩) ?_ (fun n4 => ?_)
        · skip
          refine SAny.step [4] (by kernel_rfl) (by decide) ?_
          intro iq hq; simp only [List.mem_cons, List.mem_nil_iff, or_false] at hq
          rcases hq with rfl
          · refine ⟨_, rfl, ?_⟩
            refine AOps.read trivial rfl (by decide) (Reader.loadE rfl Tryd.underlying9 sizeOf_9 rfl (v := .str (kwL.getD e.kind.toNat [])) rfl rfl) ?_
            refine AOps.nil ?_
            refine SAny.step [5] (by kernel_rfl) (by decide) ?_
            intro iq hq; simp only [List.mem_cons, List.mem_nil_iff, or_false] at hq
            rcases hq with rfl
            · refine ⟨_, rfl, ?_⟩
              refine AOps.buildSlice (ys := [(0, .str (kwL.getD e.kind.toNat []))]) (Es := []) (cs := [.str (kwL.getD e.kind.toNat [])]) (xs := [.str (kwL.getD e.kind.toNat [])]) trivial rfl (by decide) rfl Tryd.underlying23 Tryd.i9 rfl rfl rfl (by decide) (by refine ⟨rfl, fun j p x hp hx => ?_⟩; match j, hp, hx with | 0, hp, hx => cases hp; cases hx; exact ⟨rfl, .inl ⟨rfl, rfl⟩, rfl, rfl⟩ | _ + 1, hp, hx => cases hp) rfl rfl rfl (all_len rfl) (all_sc rfl) rfl ?_
              refine AOps.nil ?_
              refine SAny.step [7] (by kernel_rfl) (by decide) ?_
              intro iq hq; simp only [List.mem_cons, List.mem_nil_iff, or_false] at hq
              rcases hq with rfl
              · refine ⟨_, rfl, ?_⟩
                refine AOps.appL (bytes := 16) trivial rfl (by decide) (by decide) rfl rfl rfl rfl Tryd.underlying23 Tryd.underlying23 Tryd.i9 rfl rfl rfl rfl (xs := [.str (kwL.getD e.kind.toNat [])]) (ys := ((flE e).map AV.str)) (zs := ([.str (kwL.getD e.kind.toNat [])] ++ ((flE e).map AV.str))) rfl rfl (m1 := 1) (m2 := ((flE e).length)) rfl (by simp) (by first | omega | (unfold maxLen; omega)) (by omega) rfl ?_
                refine AOps.nil ?_
                refine SAny.take 9 rfl (by kernel_rfl) (by kernel_rfl) (by kernel_rfl) trivial rfl (by decide) (PReader.move (.inl rfl) (ok_const rfl) (v := .lit (.bool true)) rfl) ?_
                refine SAny.take 11 rfl (by kernel_rfl) (by kernel_rfl) (by kernel_rfl) ⟨26, rfl, rfl⟩ rfl (by decide) (PReader.fieldL rfl ⟨_, _, Tryd.underlying34, rfl, rfl, rfl, sizeOf_3⟩ (by decide) rfl) ?_
                refine SAny.step [10, 12, 16] (by kernel_rfl) (by decide) ?_
                intro iq hq; simp only [List.mem_cons, List.mem_nil_iff, or_false] at hq
                rcases hq with rfl | rfl | rfl
                · refine ⟨_, rfl, ?_⟩
                  refine AOps.read ⟨26, rfl, rfl⟩ rfl (by decide) (Reader.loadL rfl Tryd.underlying34 sizeOf_34 rfl rfl (v := .agg [.lit (.int .i64 ((restE e).kind)), .str ((restE e).id), .lit (.int .i64 ((restE e).sig)), .lit (.int .i64 ((restE e).n))]) rfl rfl) ?_
                  refine AOps.nil ?_
                  refine SAny.step [12, 16] (by kernel_rfl) (by decide) ?_
                  intro iq hq; simp only [List.mem_cons, List.mem_nil_iff, or_false] at hq
                  rcases hq with rfl | rfl
                  · refine ⟨_, rfl, ?_⟩
                    refine AOps.read ⟨26, rfl, rfl⟩ rfl (by decide) (Reader.loadL rfl Tryd.underlying3 sizeOf_3 rfl rfl (v := .lit (.int .i64 e.kind)) rfl rfl) ?_
                    refine AOps.nil ?_
                    refine SAny.take 13 rfl (by kernel_rfl) (by kernel_rfl) (by kernel_rfl) ⟨26, rfl, rfl⟩ rfl (by decide) (PReader.build (xs := [(0, .lit (.int .i64 e.kind))]) (Es := []) (places := places_34) rfl Tryd.underlying34 (by refine ⟨rfl, fun j p x hp hx => ?_⟩; match j, hp, hx with | 0, hp, hx => cases hp; cases hx; exact ⟨rfl, .inl ⟨rfl, rfl⟩, rfl, rfl⟩ | _ + 1, hp, hx => cases hp) zero_34 rfl places_34_ok (cs := [.lit (.int .i64 e.kind), .str [], .lit (.int .i64 0), .lit (.int .i64 0)]) rfl) ?_
                    exact SAny.same [0, 1, 2, 3, 7, 8, 9, 10, 12, 13, 11, 14, 15, 16, 5, 4, 6, 18, 23, 25, 19, 17, 20, 21, 22, 24, 26, 28, 29, 30, 27] [1, 5] n2 (by kernel_rfl) rfl
                  · refine ⟨_, rfl, ?_⟩
                    refine AOps.steal trivial rfl (by decide) (by decide) (.inr rfl) (v := .list true 9 ([.str (kwL.getD e.kind.toNat [])] ++ ((flE e).map AV.str))) rfl ?_
                    refine AOps.nil ?_
                    exact SAny.same [0, 1, 2, 3, 7, 8, 9, 10, 12, 13, 11, 14, 15, 16, 5, 4, 6, 18, 23, 25, 19, 17, 20, 21, 22, 24, 26, 28, 27] [1, 5] n3 (by kernel_rfl) rfl
                · refine ⟨_, rfl, ?_⟩
                  refine AOps.read ⟨26, rfl, rfl⟩ rfl (by decide) (Reader.loadL rfl Tryd.underlying3 sizeOf_3 rfl rfl (v := .lit (.int .i64 e.kind)) rfl rfl) ?_
                  refine AOps.nil ?_
                  refine SAny.take 13 rfl (by kernel_rfl) (by kernel_rfl) (by kernel_rfl) ⟨26, rfl, rfl⟩ rfl (by decide) (PReader.build (xs := [(0, .lit (.int .i64 e.kind))]) (Es := []) (places := places_34) rfl Tryd.underlying34 (by refine ⟨rfl, fun j p x hp hx => ?_⟩; match j, hp, hx with | 0, hp, hx => cases hp; cases hx; exact ⟨rfl, .inl ⟨rfl, rfl⟩, rfl, rfl⟩ | _ + 1, hp, hx => cases hp) zero_34 rfl places_34_ok (cs := [.lit (.int .i64 e.kind), .str [], .lit (.int .i64 0), .lit (.int .i64 0)]) rfl) ?_
                  refine SAny.step [10, 16] (by kernel_rfl) (by decide) ?_
                  intro iq hq; simp only [List.mem_cons, List.mem_nil_iff, or_false] at hq
                  rcases hq with rfl | rfl
                  · refine ⟨_, rfl, ?_⟩
                    refine AOps.read ⟨26, rfl, rfl⟩ rfl (by decide) (Reader.loadL rfl Tryd.underlying34 sizeOf_34 rfl rfl (v := .agg [.lit (.int .i64 ((restE e).kind)), .str ((restE e).id), .lit (.int .i64 ((restE e).sig)), .lit (.int .i64 ((restE e).n))]) rfl rfl) ?_
                    refine AOps.nil ?_
                    exact SAny.same [0, 1, 2, 3, 7, 8, 9, 10, 12, 13, 11, 14, 15, 16, 5, 4, 6, 18, 23, 25, 19, 17, 20, 21, 22, 24, 26, 28, 29, 30, 27] [1, 5] n2 (by kernel_rfl) rfl
                  · refine ⟨_, rfl, ?_⟩
                    refine AOps.steal trivial rfl (by decide) (by decide) (.inr rfl) (v := .list true 9 ([.str (kwL.getD e.kind.toNat [])] ++ ((flE e).map AV.str))) rfl ?_
                    refine AOps.nil ?_
                    exact SAny.same [0, 1, 2, 3, 7, 8, 9, 10, 12, 13, 11, 14, 15, 16, 5, 4, 6, 18, 23, 25, 19, 17, 20, 21, 22, 24, 26, 28, 29, 30] [1, 5] n1 (by kernel_rfl) rfl
                · refine ⟨_, rfl, ?_⟩
                  refine AOps.steal trivial rfl (by decide) (by decide) (.inr rfl) (v := .list true 9 ([.str (kwL.getD e.kind.toNat [])] ++ ((flE e).map AV.str))) rfl ?_
                  refine AOps.nil ?_
                  refine SAny.step [10, 12] (by kernel_rfl) (by decide) ?_
                  intro iq hq; simp only [List.mem_cons, List.mem_nil_iff, or_false] at hq
                  rcases hq with rfl | rfl
                  · refine ⟨_, rfl, ?_⟩
                    refine AOps.read ⟨26, rfl, rfl⟩ rfl (by decide) (Reader.loadL rfl Tryd.underlying34 sizeOf_34 rfl rfl (v := .agg [.lit (.int .i64 ((restE e).kind)), .str ((restE e).id), .lit (.int .i64 ((restE e).sig)), .lit (.int .i64 ((restE e).n))]) rfl rfl) ?_
                    refine AOps.nil ?_
                    exact SAny.same [0, 1, 2, 3, 7, 8, 9, 10, 12, 13, 11, 14, 15, 16, 5, 4, 6, 18, 23, 25, 19, 17, 20, 21, 22, 24, 26, 28, 27] [1, 5] n3 (by kernel_rfl) rfl
                  · refine ⟨_, rfl, ?_⟩
                    refine AOps.read ⟨26, rfl, rfl⟩ rfl (by decide) (Reader.loadL rfl Tryd.underlying3 sizeOf_3 rfl rfl (v := .lit (.int .i64 e.kind)) rfl rfl) ?_
                    refine AOps.nil ?_
                    refine SAny.take 13 rfl (by kernel_rfl) (by kernel_rfl) (by kernel_rfl) ⟨26, rfl, rfl⟩ rfl (by decide) (PReader.build (xs := [(0, .lit (.int .i64 e.kind))]) (Es := []) (places := places_34) rfl Tryd.underlying34 (by refine ⟨rfl, fun j p x hp hx => ?_⟩; match j, hp, hx with | 0, hp, hx => cases hp; cases hx; exact ⟨rfl, .inl ⟨rfl, rfl⟩, rfl, rfl⟩ | _ + 1, hp, hx => cases hp) zero_34 rfl places_34_ok (cs := [.lit (.int .i64 e.kind), .str [], .lit (.int .i64 0), .lit (.int .i64 0)]) rfl) ?_
                    exact SAny.same [0, 1, 2, 3, 7, 8, 9, 10, 12, 13, 11, 14, 15, 16, 5, 4, 6, 18, 23, 25, 19, 17, 20, 21, 22, 24, 26, 28, 29, 30] [1, 5] n1 (by kernel_rfl) rfl
        refine SAny.take 1 rfl (by kernel_rfl) (by kernel_rfl) (by kernel_rfl) trivial rfl (by decide) (PReader.fieldL rfl ⟨_, _, Tryd.underlying34, rfl, rfl, rfl, sizeOf_3⟩ (by decide) rfl) ?_
        refine SAny.take 6 rfl (by kernel_rfl) (by kernel_rfl) (by kernel_rfl) trivial rfl (by decide) (PReader.move (.inl rfl) (ok_const rfl) (v := .list false 9 ((flE e).map AV.str)) rfl) ?_
        refine SAny.take 8 rfl (by kernel_rfl) (by kernel_rfl) (by kernel_rfl) trivial rfl (by decide) (PReader.move (.inl rfl) (ok_const rfl) (v := .lit (.bool true)) rfl) ?_
        refine SAny.step [0, 2] (by kernel_rfl) (by decide) ?_
        intro iq hq; simp only [List.mem_cons, List.mem_nil_iff, or_false] at hq
        rcases hq with rfl | rfl
        · refine ⟨_, rfl, ?_⟩
          refine AOps.call (args := []) trivial rfl (by decide) rfl rfl Tryd.call56 (args_ok rfl) rfl (by intro j x v hx hv; match j, hx, hv with  | _ + 0, hx, hv => cases hx) (lwords_any M) ?_
          rintro _ _ ⟨rfl, rfl⟩
          refine AOps.nil ?_
          refine SAny.step [2] (by kernel_rfl) (by decide) ?_
          intro iq hq; simp only [List.mem_cons, List.mem_nil_iff, or_false] at hq
          rcases hq with rfl
          · refine ⟨_, rfl, ?_⟩
            refine AOps.read trivial rfl (by decide) (Reader.loadL rfl Tryd.underlying3 sizeOf_3 rfl rfl (v := .lit (.int .i64 e.kind)) rfl rfl) ?_
            refine AOps.nil ?_
            refine SAny.take 3 rfl (by kernel_rfl) (by kernel_rfl) (by kernel_rfl) trivial rfl (by decide) (PReader.elemAddr (m := e.kind.toNat) rfl Tryd.underlying23 sizeOf_9 rfl rfl (by omega) (e := .str (kwL.getD e.kind.toNat [])) (strs_at (by first | omega | (show _ < 17; omega)))) ?_
            exact SAny.same [0, 1, 2, 3, 7, 8, 9, 10, 12, 13, 11, 14, 15, 16, 5, 4, 6, 18, 23, 25, 19, 17, 20] [1, 5] n4 (by kernel_rfl) rfl
        · refine ⟨_, rfl, ?_⟩
          refine AOps.read trivial rfl (by decide) (Reader.loadL rfl Tryd.underlying3 sizeOf_3 rfl rfl (v := .lit (.int .i64 e.kind)) rfl rfl) ?_
          refine AOps.nil ?_
          refine SAny.step [0] (by kernel_rfl) (by decide) ?_
          intro iq hq; simp only [List.mem_cons, List.mem_nil_iff, or_false] at hq
          rcases hq with rfl
          · refine ⟨_, rfl, ?_⟩
            refine AOps.call (args := []) trivial rfl (by decide) rfl rfl Tryd.call56 (args_ok rfl) rfl (by intro j x v hx hv; match j, hx, hv with  | _ + 0, hx, hv => cases hx) (lwords_any M) ?_
            rintro _ _ ⟨rfl, rfl⟩
            refine AOps.nil ?_
            refine SAny.take 3 rfl (by kernel_rfl) (by kernel_rfl) (by kernel_rfl) trivial rfl (by decide) (PReader.elemAddr (m := e.kind.toNat) rfl Tryd.underlying23 sizeOf_9 rfl rfl (by omega) (e := .str (kwL.getD e.kind.toNat [])) (strs_at (by first | omega | (show _ < 17; omega)))) ?_
            exact SAny.same [0, 1, 2, 3, 7, 8, 9, 10, 12, 13, 11, 14, 15, 16, 5, 4, 6, 18, 23, 25, 19, 17, 20] [1, 5] n4 (by kernel_rfl) rfl
      refine AWp.ret ?_
      exact ⟨.inl rfl, _, ResOf.two 2 3 (.list true 9 ([.str (kwL.getD e.kind.toNat [])] ++ ((flE e).map AV.str))) (.lit (.bool ((((restE e).kind) == e.kind) && ((((restE e).id) == []) && ((((restE e).sig) == 0) && ((((restE e).n) == 0) && true)))))) rfl rfl (.inr ⟨_, _, rfl⟩) (.inl rfl) (by decide), ⟨by rw [told_yes ⟨h1, h2⟩, ← told_t h1 h2 (by assumption)]; rfl, rfl⟩⟩
    · skip
      have h2' : okE e = false := h2
      clear h2
      refine AWp.seq (AWp.anyR [0, 1, 2, 3, 10, 5, 4, 6] [1, 5] (⟨[(0, encE e), (1, .lptr 1 0), (2, .list true 9 ([.str (kwL.getD e.kind.toNat [])] ++ ((flE e).map AV.str))), (3, .lit (.bool false)), (10, .lit (.bool (!(decide (KnownP e.kind))))), (5, .lptr 5 0), (4, .list false 9 ((flE e).map AV.str)), (6, .lit (.bool false))], [(1, [.lit (.int .i64 e.kind), .str e.id, .lit (.int .i64 e.sig), .lit (.int .i64 e.n)]), (5, [.lit (.int .i64 ((restE e).kind)), .str ((restE e).id), .lit (.int .i64 ((restE e).sig)), .lit (.int .i64 ((restE e).n))])], M⟩) (by kernel_rfl) ?_ ?_)
      · skip
        skip
        refine SAny.share 3 #[true, true, true, true, true, true, true, true, true, true, true, true, true, true, false, false, true, false] (⟨[(0, encE e), (1, .lptr 1 0), (2, .list true 9 ([.str (kwL.getD e.kind.toNat [])] ++ ((flE e).map AV.str))), (3, .lit (.bool false)), (7, .lptr 1 0), (8, .lit (.int .i64 e.kind)), (9, .lit (.bool (decide (KnownP e.kind)))), (10, .lit (.bool (!(decide (KnownP e.kind))))), (12, .agg [.lit (.int .i64 e.kind), .str e.id, .lit (.int .i64 e.sig), .lit (.int .i64 e.n)]), (13, .tuple [.list true 9 ((flE e).map AV.str), encE (restE e), .lit (.bool (okE e))]), (11, .tuple [.list false 9 ((flE e).map AV.str), encE (restE e), .lit (.bool (okE e))]), (14, .list false 9 ((flE e).map AV.str)), (15, encE (restE e)), (16, .lit (.bool (okE e))), (5, .lptr 5 0), (4, .list false 9 ((flE e).map AV.str)), (6, .lit (.bool false)), (18, .lptr 1 0), (23, .list false 9 ((flE e).map AV.str)), (25, .lit (.bool false)), (19, .lit (.int .i64 e.kind)), (17, .list true 9 (kwL.map AV.str)), (20, .eptr (.str (kwL.getD e.kind.toNat [])) 0), (21, .str (kwL.getD e.kind.toNat [])), (22, .list false 9 [.str (kwL.getD e.kind.toNat [])]), (24, .list false 9 ([.str (kwL.getD e.kind.toNat [])] ++ ((flE e).map AV.str))), (26, .lit (.bool false)), (28, .lit undef), (29, .lit undef), (30, .lit undef), (27, .lit undef)], [(1, [.lit (.int .i64 e.kind), .str e.id, .lit (.int .i64 e.sig), .lit (.int .i64 e.n)]), (5, [.lit (.int .i64 ((restE e).kind)), .str ((restE e).id), .lit (.int .i64 ((restE e).sig)), .lit (.int .i64 ((restE e).n))])], M⟩) ?_ (fun n0 => ?_)
        · skip
          refine SAny.step [14] (by kernel_rfl) (by decide) ?_
          intro iq hq; simp only [List.mem_cons, List.mem_nil_iff, or_false] at hq
          rcases hq with rfl
          · refine ⟨_, rfl, ?_⟩
            refine AOps.skip ⟨9, true, 26, _, rfl, rfl, rfl, by simp⟩ rfl (by decide) ?_
            refine AOps.nil ?_
            refine SAny.take 15 rfl (by kernel_rfl) (by kernel_rfl) (by kernel_rfl) trivial rfl (by decide) (PReader.pick rfl (b := false) rfl (ok_const rfl) (ok_const rfl) (v := .lit (.bool false)) rfl) ?_
            refine SAny.take 17 rfl (by kernel_rfl) (by kernel_rfl) (by kernel_rfl) trivial rfl (by decide) (PReader.move (.inr rfl) (ok_const rfl) (v := .lit (.bool false)) rfl) ?_
            exact SAny.done (by kernel_rfl) rfl
        refine SAny.share 4 #[true, true, true, true, true, true, true, true, true, true, true, true, true, false, false, false, true, false] (⟨[(0, encE e), (1, .lptr 1 0), (2, .list true 9 ([.str (kwL.getD e.kind.toNat [])] ++ ((flE e).map AV.str))), (3, .lit (.bool false)), (7, .lptr 1 0), (8, .lit (.int .i64 e.kind)), (9, .lit (.bool (decide (KnownP e.kind)))), (10, .lit (.bool (!(decide (KnownP e.kind))))), (12, .agg [.lit (.int .i64 e.kind), .str e.id, .lit (.int .i64 e.sig), .lit (.int .i64 e.n)]), (13, .tuple [.list true 9 ((flE e).map AV.str), encE (restE e), .lit (.bool (okE e))]), (11, .tuple [.list false 9 ((flE e).map AV.str), encE (restE e), .lit (.bool (okE e))]), (14, .list false 9 ((flE e).map AV.str)), (15, encE (restE e)), (16, .lit (.bool (okE e))), (5, .lptr 5 0), (4, .list false 9 ((flE e).map AV.str)), (6, .lit (.bool false)), (18, .lptr 1 0), (23, .list false 9 ((flE e).map AV.str)), (25, .lit (.bool false)), (19, .lit (.int .i64 e.kind)), (17, .list true 9 (kwL.map AV.str)), (20, .eptr (.str (kwL.getD e.kind.toNat [])) 0), (21, .str (kwL.getD e.kind.toNat [])), (22, .list false 9 [.str (kwL.getD e.kind.toNat [])]), (24, .list false 9 ([.str (kwL.getD e.kind.toNat [])] ++ ((flE e).map AV.str))), (26, .lit (.bool false)), (28, .lit undef), (29, .lit undef), (27, .lit undef)], [(1, [.lit (.int .i64 e.kind), .str e.id, .lit (.int .i64 e.sig), .lit (.int .i64 e.n)]), (5, [.lit (.int .i64 ((restE e).kind)), .str ((restE e).id), .lit (.int .i64 ((restE e).sig)), .lit (.int .i64 ((restE e).n))])], M⟩) ?_ (fun n1 => ?_)
        · skip
          refine SAny.step [13] (by kernel_rfl) (by decide) ?_
          intro iq hq; simp only [List.mem_cons, List.mem_nil_iff, or_false] at hq
          rcases hq with rfl
          · refine ⟨_, rfl, ?_⟩
            refine AOps.skip ⟨9, true, 26, _, rfl, rfl, rfl, by simp⟩ rfl (by decide) ?_
            refine AOps.nil ?_
            exact SAny.same [0, 1, 2, 3, 7, 8, 9, 10, 12, 13, 11, 14, 15, 16, 5, 4, 6, 18, 23, 25, 19, 17, 20, 21, 22, 24, 26, 28, 29, 30, 27] [1, 5] n0 (by kernel_rfl) rfl
        refine SAny.share 4 #[true, true, true, true, true, true, true, true, true, true, false, true, true, true, false, false, true, false] (⟨[(0, encE e), (1, .lptr 1 0), (2, .list true 9 ([.str (kwL.getD e.kind.toNat [])] ++ ((flE e).map AV.str))), (3, .lit (.bool false)), (7, .lptr 1 0), (8, .lit (.int .i64 e.kind)), (9, .lit (.bool (decide (KnownP e.kind)))), (10, .lit (.bool (!(decide (KnownP e.kind))))), (12, .agg [.lit (.int .i64 e.kind), .str e.id, .lit (.int .i64 e.sig), .lit (.int .i64 e.n)]), (13, .tuple [.list true 9 ((flE e).map AV.str), encE (restE e), .lit (.bool (okE e))]), (11, .tuple [.list false 9 ((flE e).map AV.str), encE (restE e), .lit (.bool (okE e))]), (14, .list false 9 ((flE e).map AV.str)), (15, encE (restE e)), (16, .lit (.bool (okE e))), (5, .lptr 5 0), (4, .list false 9 ((flE e).map AV.str)), (6, .lit (.bool false)), (18, .lptr 1 0), (23, .list false 9 ((flE e).map AV.str)), (25, .lit (.bool false)), (19, .lit (.int .i64 e.kind)), (17, .list true 9 (kwL.map AV.str)), (20, .eptr (.str (kwL.getD e.kind.toNat [])) 0), (21, .str (kwL.getD e.kind.toNat [])), (22, .list false 9 [.str (kwL.getD e.kind.toNat [])]), (24, .list false 9 ([.str (kwL.getD e.kind.toNat [])] ++ ((flE e).map AV.str))), (26, .lit (.bool false)), (28, .lit undef), (29, .lit undef), (30, .lit undef)], [(1, [.lit (.int .i64 e.kind), .str e.id, .lit (.int .i64 e.sig), .lit (.int .i64 e.n)]), (5, [.lit (.int .i64 ((restE e).kind)), .str ((restE e).id), .lit (.int .i64 ((restE e).sig)), .lit (.int .i64 ((restE e).n))])], M⟩) ?_ (fun n2 => ?_)
        · skip
          refine SAny.step [10] (by kernel_rfl) (by decide) ?_
          intro iq hq; simp only [List.mem_cons, List.mem_nil_iff, or_false] at hq
          rcases hq with rfl
          · refine ⟨_, rfl, ?_⟩
            refine AOps.skip ⟨9, true, 26, _, rfl, rfl, rfl, by simp⟩ rfl (by decide) ?_
            refine AOps.nil ?_
            exact SAny.same [0, 1, 2, 3, 7, 8, 9, 10, 12, 13, 11, 14, 15, 16, 5, 4, 6, 18, 23, 25, 19, 17, 20, 21, 22, 24, 26, 28, 29, 30, 27] [1, 5] n0 (by kernel_rfl) rfl
        refine SAny.share 4 #[true, true, true, true, true, true, true, true, true, true, true, true, true, true, false, false, false, false] (⟨[(0, encE e), (1, .lptr 1 0), (2, .list true 9 []), (3, .lit (.bool false)), (7, .lptr 1 0), (8, .lit (.int .i64 e.kind)), (9, .lit (.bool (decide (KnownP e.kind)))), (10, .lit (.bool (!(decide (KnownP e.kind))))), (12, .agg [.lit (.int .i64 e.kind), .str e.id, .lit (.int .i64 e.sig), .lit (.int .i64 e.n)]), (13, .tuple [.list true 9 ((flE e).map AV.str), encE (restE e), .lit (.bool (okE e))]), (11, .tuple [.list false 9 ((flE e).map AV.str), encE (restE e), .lit (.bool (okE e))]), (14, .list false 9 ((flE e).map AV.str)), (15, encE (restE e)), (16, .lit (.bool (okE e))), (5, .lptr 5 0), (4, .list false 9 ((flE e).map AV.str)), (6, .lit (.bool false)), (18, .lptr 1 0), (23, .list false 9 ((flE e).map AV.str)), (25, .lit (.bool false)), (19, .lit (.int .i64 e.kind)), (17, .list true 9 (kwL.map AV.str)), (20, .eptr (.str (kwL.getD e.kind.toNat [])) 0), (21, .str (kwL.getD e.kind.toNat [])), (22, .list false 9 [.str (kwL.getD e.kind.toNat [])]), (24, .list true 9 ([.str (kwL.getD e.kind.toNat [])] ++ ((flE e).map AV.str))), (26, .lit (.bool false)), (28, .lit undef), (29, .lit undef), (30, .lit undef), (27, .lit undef)], [(1, [.lit (.int .i64 e.kind), .str e.id, .lit (.int .i64 e.sig), .lit (.int .i64 e.n)]), (5, [.lit (.int .i64 ((restE e).kind)), .str ((restE e).id), .lit (.int .i64 ((restE e).sig)), .lit (.int .i64 ((restE e).n))])], M⟩) ?_ (fun n3 => ?_)
        · skip
          refine SAny.step [14, 16] (by kernel_rfl) (by decide) ?_
          intro iq hq; simp only [List.mem_cons, List.mem_nil_iff, or_false] at hq
          rcases hq with rfl | rfl
          · refine ⟨_, rfl, ?_⟩
            refine AOps.skip ⟨9, true, 26, _, rfl, rfl, rfl, by simp⟩ rfl (by decide) ?_
            refine AOps.nil ?_
            refine SAny.take 15 rfl (by kernel_rfl) (by kernel_rfl) (by kernel_rfl) trivial rfl (by decide) (PReader.pick rfl (b := false) rfl (ok_const rfl) (ok_const rfl) (v := .lit (.bool false)) rfl) ?_
            refine SAny.step [16] (by kernel_rfl) (by decide) ?_
            intro iq hq; simp only [List.mem_cons, List.mem_nil_iff, or_false] at hq
            rcases hq with rfl
            · refine ⟨_, rfl, ?_⟩
              refine AOps.steal trivial rfl (by decide) (by decide) (.inr rfl) (v := .list true 9 ([.str (kwL.getD e.kind.toNat [])] ++ ((flE e).map AV.str))) rfl ?_
              refine AOps.nil ?_
              refine SAny.take 17 rfl (by kernel_rfl) (by kernel_rfl) (by kernel_rfl) trivial rfl (by decide) (PReader.move (.inr rfl) (ok_const rfl) (v := .lit (.bool false)) rfl) ?_
              exact SAny.done (by kernel_rfl) rfl
          · refine ⟨_, rfl, ?_⟩
            refine AOps.steal trivial rfl (by decide) (by decide) (.inr rfl) (v := .list true 9 ([.str (kwL.getD e.kind.toNat [])] ++ ((flE e).map AV.str))) rfl ?_
            refine AOps.nil ?_
            exact SAny.same [0, 1, 2, 3, 7, 8, 9, 10, 12, 13, 11, 14, 15, 16, 5, 4, 6, 18, 23, 25, 19, 17, 20, 21, 22, 24, 26, 28, 29, 30, 27] [1, 5] n0 (by kernel_rfl) rfl
        refine SAny.share 5 #[true, true, true, true, true, true, true, true, true, true, true, true, false, false, false, false, true, false] (⟨[(0, encE e), (1, .lptr 1 0), (2, .list true 9 ([.str (kwL.getD e.kind.toNat [])] ++ ((flE e).map AV.str))), (3, .lit (.bool false)), (7, .lptr 1 0), (8, .lit (.int .i64 e.kind)), (9, .lit (.bool (decide (KnownP e.kind)))), (10, .lit (.bool (!(decide (KnownP e.kind))))), (12, .agg [.lit (.int .i64 e.kind), .str e.id, .lit (.int .i64 e.sig), .lit (.int .i64 e.n)]), (13, .tuple [.list true 9 ((flE e).map AV.str), encE (restE e), .lit (.bool (okE e))]), (11, .tuple [.list false 9 ((flE e).map AV.str), encE (restE e), .lit (.bool (okE e))]), (14, .list false 9 ((flE e).map AV.str)), (15, encE (restE e)), (16, .lit (.bool (okE e))), (5, .lptr 5 0), (4, .list false 9 ((flE e).map AV.str)), (6, .lit (.bool false)), (18, .lptr 1 0), (23, .list false 9 ((flE e).map AV.str)), (25, .lit (.bool false)), (19, .lit (.int .i64 e.kind)), (17, .list true 9 (kwL.map AV.str)), (20, .eptr (.str (kwL.getD e.kind.toNat [])) 0), (21, .str (kwL.getD e.kind.toNat [])), (22, .list false 9 [.str (kwL.getD e.kind.toNat [])]), (24, .list false 9 ([.str (kwL.getD e.kind.toNat [])] ++ ((flE e).map AV.str))), (26, .lit (.bool false)), (28, .lit undef), (27, .lit undef)], [(1, [.lit (.int .i64 e.kind), .str e.id, .lit (.int .i64 e.sig), .lit (.int .i64 e.n)]), (5, [.lit (.int .i64 ((restE e).kind)), .str ((restE e).id), .lit (.int .i64 ((restE e).sig)), .lit (.int .i64 ((restE e).n))])], M⟩) ?_ (fun n4 => ?_)
        · skip
          refine SAny.step [12] (by kernel_rfl) (by decide) ?_
          intro iq hq; simp only [List.mem_cons, List.mem_nil_iff, or_false] at hq
          rcases hq with rfl
          · refine ⟨_, rfl, ?_⟩
            refine AOps.skip ⟨9, true, 26, _, rfl, rfl, rfl, by simp⟩ rfl (by decide) ?_
            refine AOps.nil ?_
            exact SAny.same [0, 1, 2, 3, 7, 8, 9, 10, 12, 13, 11, 14, 15, 16, 5, 4, 6, 18, 23, 25, 19, 17, 20, 21, 22, 24, 26, 28, 29, 27] [1, 5] n1 (by kernel_rfl) rfl
        refine SAny.share 5 #[true, true, true, true, true, true, true, true, true, true, false, true, true, false, false, false, true, false] (⟨[(0, encE e), (1, .lptr 1 0), (2, .list true 9 ([.str (kwL.getD e.kind.toNat [])] ++ ((flE e).map AV.str))), (3, .lit (.bool false)), (7, .lptr 1 0), (8, .lit (.int .i64 e.kind)), (9, .lit (.bool (decide (KnownP e.kind)))), (10, .lit (.bool (!(decide (KnownP e.kind))))), (12, .agg [.lit (.int .i64 e.kind), .str e.id, .lit (.int .i64 e.sig), .lit (.int .i64 e.n)]), (13, .tuple [.list true 9 ((flE e).map AV.str), encE (restE e), .lit (.bool (okE e))]), (11, .tuple [.list false 9 ((flE e).map AV.str), encE (restE e), .lit (.bool (okE e))]), (14, .list false 9 ((flE e).map AV.str)), (15, encE (restE e)), (16, .lit (.bool (okE e))), (5, .lptr 5 0), (4, .list false 9 ((flE e).map AV.str)), (6, .lit (.bool false)), (18, .lptr 1 0), (23, .list false 9 ((flE e).map AV.str)), (25, .lit (.bool false)), (19, .lit (.int .i64 e.kind)), (17, .list true 9 (kwL.map AV.str)), (20, .eptr (.str (kwL.getD e.kind.toNat [])) 0), (21, .str (kwL.getD e.kind.toNat [])), (22, .list false 9 [.str (kwL.getD e.kind.toNat [])]), (24, .list false 9 ([.str (kwL.getD e.kind.toNat [])] ++ ((flE e).map AV.str))), (26, .lit (.bool false)), (28, .lit undef), (29, .lit undef)], [(1, [.lit (.int .i64 e.kind), .str e.id, .lit (.int .i64 e.sig), .lit (.int .i64 e.n)]), (5, [.lit (.int .i64 ((restE e).kind)), .str ((restE e).id), .lit (.int .i64 ((restE e).sig)), .lit (.int .i64 ((restE e).n))])], M⟩) ?_ (fun n5 => ?_)
        · skip
          refine SAny.step [10, 13] (by kernel_rfl) (by decide) ?_
          intro iq hq; simp only [List.mem_cons, List.mem_nil_iff, or_false] at hq
          rcases hq with rfl | rfl
          · refine ⟨_, rfl, ?_⟩
            refine AOps.skip ⟨9, true, 26, _, rfl, rfl, rfl, by simp⟩ rfl (by decide) ?_
            refine AOps.nil ?_
            exact SAny.same [0, 1, 2, 3, 7, 8, 9, 10, 12, 13, 11, 14, 15, 16, 5, 4, 6, 18, 23, 25, 19, 17, 20, 21, 22, 24, 26, 28, 29, 27] [1, 5] n1 (by kernel_rfl) rfl
          · refine ⟨_, rfl, ?_⟩
            refine AOps.skip ⟨9, true, 26, _, rfl, rfl, rfl, by simp⟩ rfl (by decide) ?_
            refine AOps.nil ?_
            exact SAny.same [0, 1, 2, 3, 7, 8, 9, 10, 12, 13, 11, 14, 15, 16, 5, 4, 6, 18, 23, 25, 19, 17, 20, 21, 22, 24, 26, 28, 29, 30] [1, 5] n2 (by kernel_rfl) rfl
        refine SAny.share 5 #[true, true, true, true, true, true, true, true, true, true, true, true, true, false, false, false, false, false] (⟨[(0, encE e), (1, .lptr 1 0), (2, .list true 9 []), (3, .lit (.bool false)), (7, .lptr 1 0), (8, .lit (.int .i64 e.kind)), (9, .lit (.bool (decide (KnownP e.kind)))), (10, .lit (.bool (!(decide (KnownP e.kind))))), (12, .agg [.lit (.int .i64 e.kind), .str e.id, .lit (.int .i64 e.sig), .lit (.int .i64 e.n)]), (13, .tuple [.list true 9 ((flE e).map AV.str), encE (restE e), .lit (.bool (okE e))]), (11, .tuple [.list false 9 ((flE e).map AV.str), encE (restE e), .lit (.bool (okE e))]), (14, .list false 9 ((flE e).map AV.str)), (15, encE (restE e)), (16, .lit (.bool (okE e))), (5, .lptr 5 0), (4, .list false 9 ((flE e).map AV.str)), (6, .lit (.bool false)), (18, .lptr 1 0), (23, .list false 9 ((flE e).map AV.str)), (25, .lit (.bool false)), (19, .lit (.int .i64 e.kind)), (17, .list true 9 (kwL.map AV.str)), (20, .eptr (.str (kwL.getD e.kind.toNat [])) 0), (21, .str (kwL.getD e.kind.toNat [])), (22, .list false 9 [.str (kwL.getD e.kind.toNat [])]), (24, .list true 9 ([.str (kwL.getD e.kind.toNat [])] ++ ((flE e).map AV.str))), (26, .lit (.bool false)), (28, .lit undef), (29, .lit undef), (27, .lit undef)], [(1, [.lit (.int .i64 e.kind), .str e.id, .lit (.int .i64 e.sig), .lit (.int .i64 e.n)]), (5, [.lit (.int .i64 ((restE e).kind)), .str ((restE e).id), .lit (.int .i64 ((restE e).sig)), .lit (.int .i64 ((restE e).n))])], M⟩) ?_ (fun n6 => ?_)
        · skip
          refine SAny.step [13, 16] (by kernel_rfl) (by decide) ?_
          intro iq hq; simp only [List.mem_cons, List.mem_nil_iff, or_false] at hq
          rcases hq with rfl | rfl
          · refine ⟨_, rfl, ?_⟩
            refine AOps.skip ⟨9, true, 26, _, rfl, rfl, rfl, by simp⟩ rfl (by decide) ?_
            refine AOps.nil ?_
            exact SAny.same [0, 1, 2, 3, 7, 8, 9, 10, 12, 13, 11, 14, 15, 16, 5, 4, 6, 18, 23, 25, 19, 17, 20, 21, 22, 24, 26, 28, 29, 30, 27] [1, 5] n3 (by kernel_rfl) rfl
          · refine ⟨_, rfl, ?_⟩
            refine AOps.steal trivial rfl (by decide) (by decide) (.inr rfl) (v := .list true 9 ([.str (kwL.getD e.kind.toNat [])] ++ ((flE e).map AV.str))) rfl ?_
            refine AOps.nil ?_
            exact SAny.same [0, 1, 2, 3, 7, 8, 9, 10, 12, 13, 11, 14, 15, 16, 5, 4, 6, 18, 23, 25, 19, 17, 20, 21, 22, 24, 26, 28, 29, 27] [1, 5] n1 (by kernel_rfl) rfl
        refine SAny.share 6 #[true, true, true, true, true, true, true, true, true, true, true, false, false, false, false, false, true, false] (⟨[(0, encE e), (1, .lptr 1 0), (2, .list true 9 ([.str (kwL.getD e.kind.toNat [])] ++ ((flE e).map AV.str))), (3, .lit (.bool false)), (7, .lptr 1 0), (8, .lit (.int .i64 e.kind)), (9, .lit (.bool (decide (KnownP e.kind)))), (10, .lit (.bool (!(decide (KnownP e.kind))))), (12, .agg [.lit (.int .i64 e.kind), .str e.id, .lit (.int .i64 e.sig), .lit (.int .i64 e.n)]), (13, .tuple [.list true 9 ((flE e).map AV.str), encE (restE e), .lit (.bool (okE e))]), (11, .tuple [.list false 9 ((flE e).map AV.str), encE (restE e), .lit (.bool (okE e))]), (14, .list false 9 ((flE e).map AV.str)), (15, encE (restE e)), (16, .lit (.bool (okE e))), (5, .lptr 5 0), (4, .list false 9 ((flE e).map AV.str)), (6, .lit (.bool false)), (18, .lptr 1 0), (23, .list false 9 ((flE e).map AV.str)), (25, .lit (.bool false)), (19, .lit (.int .i64 e.kind)), (17, .list true 9 (kwL.map AV.str)), (20, .eptr (.str (kwL.getD e.kind.toNat [])) 0), (21, .str (kwL.getD e.kind.toNat [])), (22, .list false 9 [.str (kwL.getD e.kind.toNat [])]), (24, .list false 9 ([.str (kwL.getD e.kind.toNat [])] ++ ((flE e).map AV.str))), (26, .lit (.bool false)), (27, .lit undef)], [(1, [.lit (.int .i64 e.kind), .str e.id, .lit (.int .i64 e.sig), .lit (.int .i64 e.n)]), (5, [.lit (.int .i64 ((restE e).kind)), .str ((restE e).id), .lit (.int .i64 ((restE e).sig)), .lit (.int .i64 ((restE e).n))])], M⟩) ?_ (fun n7 => ?_)
        · skip
          refine SAny.step [11] (by kernel_rfl) (by decide) ?_
          intro iq hq; simp only [List.mem_cons, List.mem_nil_iff, or_false] at hq
          rcases hq with rfl
          · refine ⟨_, rfl, ?_⟩
            refine AOps.skip ⟨9, true, 26, _, rfl, rfl, rfl, by simp⟩ rfl (by decide) ?_
            refine AOps.nil ?_
            exact SAny.same [0, 1, 2, 3, 7, 8, 9, 10, 12, 13, 11, 14, 15, 16, 5, 4, 6, 18, 23, 25, 19, 17, 20, 21, 22, 24, 26, 28, 27] [1, 5] n4 (by kernel_rfl) rfl
        refine SAny.share 6 #[true, true, true, true, true, true, true, true, true, true, false, true, false, false, false, false, true, false] (⟨[(0, encE e), (1, .lptr 1 0), (2, .list true 9 ([.str (kwL.getD e.kind.toNat [])] ++ ((flE e).map AV.str))), (3, .lit (.bool false)), (7, .lptr 1 0), (8, .lit (.int .i64 e.kind)), (9, .lit (.bool (decide (KnownP e.kind)))), (10, .lit (.bool (!(decide (KnownP e.kind))))), (12, .agg [.lit (.int .i64 e.kind), .str e.id, .lit (.int .i64 e.sig), .lit (.int .i64 e.n)]), (13, .tuple [.list true 9 ((flE e).map AV.str), encE (restE e), .lit (.bool (okE e))]), (11, .tuple [.list false 9 ((flE e).map AV.str), encE (restE e), .lit (.bool (okE e))]), (14, .list false 9 ((flE e).map AV.str)), (15, encE (restE e)), (16, .lit (.bool (okE e))), (5, .lptr 5 0), (4, .list false 9 ((flE e).map AV.str)), (6, .lit (.bool false)), (18, .lptr 1 0), (23, .list false 9 ((flE e).map AV.str)), (25, .lit (.bool false)), (19, .lit (.int .i64 e.kind)), (17, .list true 9 (kwL.map AV.str)), (20, .eptr (.str (kwL.getD e.kind.toNat [])) 0), (21, .str (kwL.getD e.kind.toNat [])), (22, .list false 9 [.str (kwL.getD e.kind.toNat [])]), (24, .list false 9 ([.str (kwL.getD e.kind.toNat [])] ++ ((flE e).map AV.str))), (26, .lit (.bool false)), (28, .lit undef)], [(1, [.lit (.int .i64 e.kind), .str e.id, .lit (.int .i64 e.sig), .lit (.int .i64 e.n)]), (5, [.lit (.int .i64 ((restE e).kind)), .str ((restE e).id), .lit (.int .i64 ((restE e).sig)), .lit (.int .i64 ((restE e).n))])], M⟩) ?_ (fun n8 => ?_)
        · skip
          refine SAny.step [10, 12] (by kernel_rfl) (by decide) ?_
          intro iq hq; simp only [List.mem_cons, List.mem_nil_iff, or_false] at hq
          rcases hq with rfl | rfl
          · refine ⟨_, rfl, ?_⟩
            refine AOps.skip ⟨9, true, 26, _, rfl, rfl, rfl, by simp⟩ rfl (by decide) ?_
            refine AOps.nil ?_
            exact SAny.same [0, 1, 2, 3, 7, 8, 9, 10, 12, 13, 11, 14, 15, 16, 5, 4, 6, 18, 23, 25, 19, 17, 20, 21, 22, 24, 26, 28, 27] [1, 5] n4 (by kernel_rfl) rfl
          · refine ⟨_, rfl, ?_⟩
            refine AOps.skip ⟨9, true, 26, _, rfl, rfl, rfl, by simp⟩ rfl (by decide) ?_
            refine AOps.nil ?_
            exact SAny.same [0, 1, 2, 3, 7, 8, 9, 10, 12, 13, 11, 14, 15, 16, 5, 4, 6, 18, 23, 25, 19, 17, 20, 21, 22, 24, 26, 28, 29] [1, 5] n5 (by kernel_rfl) rfl
        refine SAny.share 6 #[true, true, true, true, true, true, true, true, true, true, true, true, false, false, false, false, false, false] (⟨[(0, encE e), (1, .lptr 1 0), (2, .list true 9 []), (3, .lit (.bool false)), (7, .lptr 1 0), (8, .lit (.int .i64 e.kind)), (9, .lit (.bool (decide (KnownP e.kind)))), (10, .lit (.bool (!(decide (KnownP e.kind))))), (12, .agg [.lit (.int .i64 e.kind), .str e.id, .lit (.int .i64 e.sig), .lit (.int .i64 e.n)]), (13, .tuple [.list true 9 ((flE e).map AV.str), encE (restE e), .lit (.bool (okE e))]), (11, .tuple [.list false 9 ((flE e).map AV.str), encE (restE e), .lit (.bool (okE e))]), (14, .list false 9 ((flE e).map AV.str)), (15, encE (restE e)), (16, .lit (.bool (okE e))), (5, .lptr 5 0), (4, .list false 9 ((flE e).map AV.str)), (6, .lit (.bool false)), (18, .lptr 1 0), (23, .list false 9 ((flE e).map AV.str)), (25, .lit (.bool false)), (19, .lit (.int .i64 e.kind)), (17, .list true 9 (kwL.map AV.str)), (20, .eptr (.str (kwL.getD e.kind.toNat [])) 0), (21, .str (kwL.getD e.kind.toNat [])), (22, .list false 9 [.str (kwL.getD e.kind.toNat [])]), (24, .list true 9 ([.str (kwL.getD e.kind.toNat [])] ++ ((flE e).map AV.str))), (26, .lit (.bool false)), (28, .lit undef), (27, .lit undef)], [(1, [.lit (.int .i64 e.kind), .str e.id, .lit (.int .i64 e.sig), .lit (.int .i64 e.n)]), (5, [.lit (.int .i64 ((restE e).kind)), .str ((restE e).id), .lit (.int .i64 ((restE e).sig)), .lit (.int .i64 ((restE e).n))])], M⟩) ?_ (fun n9 => ?_)
        · skip
          refine SAny.step [12, 16] (by kernel_rfl) (by decide) ?_
          intro iq hq; simp only [List.mem_cons, List.mem_nil_iff, or_false] at hq
          rcases hq with rfl | rfl
          · refine ⟨_, rfl, ?_⟩
            refine AOps.skip ⟨9, true, 26, _, rfl, rfl, rfl, by simp⟩ rfl (by decide) ?_
            refine AOps.nil ?_
            exact SAny.same [0, 1, 2, 3, 7, 8, 9, 10, 12, 13, 11, 14, 15, 16, 5, 4, 6, 18, 23, 25, 19, 17, 20, 21, 22, 24, 26, 28, 29, 27] [1, 5] n6 (by kernel_rfl) rfl
          · refine ⟨_, rfl, ?_⟩
            refine AOps.steal trivial rfl (by decide) (by decide) (.inr rfl) (v := .list true 9 ([.str (kwL.getD e.kind.toNat [])] ++ ((flE e).map AV.str))) rfl ?_
            refine AOps.nil ?_
            exact SAny.same [0, 1, 2, 3, 7, 8, 9, 10, 12, 13, 11, 14, 15, 16, 5, 4, 6, 18, 23, 25, 19, 17, 20, 21, 22, 24, 26, 28, 27] [1, 5] n4 (by kernel_rfl) rfl
        refine SAny.share 12 #[true, true, true, true, false, false, true, false, true, false, false, false, false, false, false, false, false, false] (⟨[(0, encE e), (1, .lptr 1 0), (2, .list true 9 []), (3, .lit (.bool false)), (7, .lptr 1 0), (8, .lit (.int .i64 e.kind)), (9, .lit (.bool (decide (KnownP e.kind)))), (10, .lit (.bool (!(decide (KnownP e.kind))))), (12, .agg [.lit (.int .i64 e.kind), .str e.id, .lit (.int .i64 e.sig), .lit (.int .i64 e.n)]), (13, .tuple [.list true 9 ((flE e).map AV.str), encE (restE e), .lit (.bool (okE e))]), (11, .tuple [.list false 9 ((flE e).map AV.str), encE (restE e), .lit (.bool (okE e))]), (14, .list false 9 ((flE e).map AV.str)), (15, encE (restE e)), (16, .lit (.bool (okE e))), (5, .lptr 5 0), (4, .list false 9 ((flE e).map AV.str)), (6, .lit (.bool false)), (18, .lptr 1 0), (23, .list false 9 ((flE e).map AV.str)), (25, .lit (.bool false)), (19, .lit (.int .i64 e.kind)), (17, .list true 9 (kwL.map AV.str)), (20, .eptr (.str (kwL.getD e.kind.toNat [])) 0)], [(1, [.lit (.int .i64 e.kind), .str e.id, .lit (.int .i64 e.sig), .lit (.int .i64 e.n)]), (5, [.lit (.int .i64 ((restE e).kind)), .str ((restE e).id), .lit (.int .i64 ((restE e).sig)), .lit (.int .i64 ((restE e).n))])], M⟩) ?_ (fun n10 => ?_)
        · skip
          refine SAny.step [4] (by kernel_rfl) (by decide) ?_
          intro iq hq; simp only [List.mem_cons, List.mem_nil_iff, or_false] at hq
          rcases hq with rfl
          · refine ⟨_, rfl, ?_⟩
            refine AOps.read trivial rfl (by decide) (Reader.loadE rfl Tryd.underlying9 sizeOf_9 rfl (v := .str (kwL.getD e.kind.toNat [])) rfl rfl) ?_
            refine AOps.nil ?_
            refine SAny.step [5] (by kernel_rfl) (by decide) ?_
            intro iq hq; simp only [List.mem_cons, List.mem_nil_iff, or_false] at hq
            rcases hq with rfl
            · refine ⟨_, rfl, ?_⟩
              refine AOps.buildSlice (ys := [(0, .str (kwL.getD e.kind.toNat []))]) (Es := []) (cs := [.str (kwL.getD e.kind.toNat [])]) (xs := [.str (kwL.getD e.kind.toNat [])]) trivial rfl (by decide) rfl Tryd.underlying23 Tryd.i9 rfl rfl rfl (by decide) (by refine ⟨rfl, fun j p x hp hx => ?_⟩; match j, hp, hx with | 0, hp, hx => cases hp; cases hx; exact ⟨rfl, .inl ⟨rfl, rfl⟩, rfl, rfl⟩ | _ + 1, hp, hx => cases hp) rfl rfl rfl (all_len rfl) (all_sc rfl) rfl ?_
              refine AOps.nil ?_
              refine SAny.step [7] (by kernel_rfl) (by decide) ?_
              intro iq hq; simp only [List.mem_cons, List.mem_nil_iff, or_false] at hq
              rcases hq with rfl
              · refine ⟨_, rfl, ?_⟩
                refine AOps.appL (bytes := 16) trivial rfl (by decide) (by decide) rfl rfl rfl rfl Tryd.underlying23 Tryd.underlying23 Tryd.i9 rfl rfl rfl rfl (xs := [.str (kwL.getD e.kind.toNat [])]) (ys := ((flE e).map AV.str)) (zs := ([.str (kwL.getD e.kind.toNat [])] ++ ((flE e).map AV.str))) rfl rfl (m1 := 1) (m2 := ((flE e).length)) rfl (by simp) (by first | omega | (unfold maxLen; omega)) (by omega) rfl ?_
                refine AOps.nil ?_
                refine SAny.take 9 rfl (by kernel_rfl) (by kernel_rfl) (by kernel_rfl) trivial rfl (by decide) (PReader.move (.inl rfl) (ok_const rfl) (v := .lit (.bool false)) rfl) ?_
                refine SAny.step [10, 11, 16] (by kernel_rfl) (by decide) ?_
                intro iq hq; simp only [List.mem_cons, List.mem_nil_iff, or_false] at hq
                rcases hq with rfl | rfl | rfl
                · refine ⟨_, rfl, ?_⟩
                  refine AOps.skip ⟨9, true, 26, _, rfl, rfl, rfl, by simp⟩ rfl (by decide) ?_
                  refine AOps.nil ?_
                  refine SAny.step [11, 16] (by kernel_rfl) (by decide) ?_
                  intro iq hq; simp only [List.mem_cons, List.mem_nil_iff, or_false] at hq
                  rcases hq with rfl | rfl
                  · refine ⟨_, rfl, ?_⟩
                    refine AOps.skip ⟨9, true, 26, _, rfl, rfl, rfl, by simp⟩ rfl (by decide) ?_
                    refine AOps.nil ?_
                    exact SAny.same [0, 1, 2, 3, 7, 8, 9, 10, 12, 13, 11, 14, 15, 16, 5, 4, 6, 18, 23, 25, 19, 17, 20, 21, 22, 24, 26, 28, 27] [1, 5] n9 (by kernel_rfl) rfl
                  · refine ⟨_, rfl, ?_⟩
                    refine AOps.steal trivial rfl (by decide) (by decide) (.inr rfl) (v := .list true 9 ([.str (kwL.getD e.kind.toNat [])] ++ ((flE e).map AV.str))) rfl ?_
                    refine AOps.nil ?_
                    exact SAny.same [0, 1, 2, 3, 7, 8, 9, 10, 12, 13, 11, 14, 15, 16, 5, 4, 6, 18, 23, 25, 19, 17, 20, 21, 22, 24, 26, 27] [1, 5] n7 (by kernel_rfl) rfl
                · refine ⟨_, rfl, ?_⟩
                  refine AOps.skip ⟨9, true, 26, _, rfl, rfl, rfl, by simp⟩ rfl (by decide) ?_
                  refine AOps.nil ?_
                  refine SAny.step [10, 12, 16] (by kernel_rfl) (by decide) ?_
                  intro iq hq; simp only [List.mem_cons, List.mem_nil_iff, or_false] at hq
                  rcases hq with rfl | rfl | rfl
                  · refine ⟨_, rfl, ?_⟩
                    refine AOps.skip ⟨9, true, 26, _, rfl, rfl, rfl, by simp⟩ rfl (by decide) ?_
                    refine AOps.nil ?_
                    exact SAny.same [0, 1, 2, 3, 7, 8, 9, 10, 12, 13, 11, 14, 15, 16, 5, 4, 6, 18, 23, 25, 19, 17, 20, 21, 22, 24, 26, 28, 27] [1, 5] n9 (by kernel_rfl) rfl
                  · refine ⟨_, rfl, ?_⟩
                    refine AOps.skip ⟨9, true, 26, _, rfl, rfl, rfl, by simp⟩ rfl (by decide) ?_
                    refine AOps.nil ?_
                    refine SAny.step [10, 13, 16] (by kernel_rfl) (by decide) ?_
                    intro iq hq; simp only [List.mem_cons, List.mem_nil_iff, or_false] at hq
                    rcases hq with rfl | rfl | rfl
                    · refine ⟨_, rfl, ?_⟩
                      refine AOps.skip ⟨9, true, 26, _, rfl, rfl, rfl, by simp⟩ rfl (by decide) ?_
                      refine AOps.nil ?_
                      exact SAny.same [0, 1, 2, 3, 7, 8, 9, 10, 12, 13, 11, 14, 15, 16, 5, 4, 6, 18, 23, 25, 19, 17, 20, 21, 22, 24, 26, 28, 29, 27] [1, 5] n6 (by kernel_rfl) rfl
                    · refine ⟨_, rfl, ?_⟩
                      refine AOps.skip ⟨9, true, 26, _, rfl, rfl, rfl, by simp⟩ rfl (by decide) ?_
                      refine AOps.nil ?_
                      refine SAny.step [10, 16] (by kernel_rfl) (by decide) ?_
                      intro iq hq; simp only [List.mem_cons, List.mem_nil_iff, or_false] at hq
                      rcases hq with rfl | rfl
                      · refine ⟨_, rfl, ?_⟩
                        refine AOps.skip ⟨9, true, 26, _, rfl, rfl, rfl, by simp⟩ rfl (by decide) ?_
                        refine AOps.nil ?_
                        exact SAny.same [0, 1, 2, 3, 7, 8, 9, 10, 12, 13, 11, 14, 15, 16, 5, 4, 6, 18, 23, 25, 19, 17, 20, 21, 22, 24, 26, 28, 29, 30, 27] [1, 5] n3 (by kernel_rfl) rfl
                      · refine ⟨_, rfl, ?_⟩
                        refine AOps.steal trivial rfl (by decide) (by decide) (.inr rfl) (v := .list true 9 ([.str (kwL.getD e.kind.toNat [])] ++ ((flE e).map AV.str))) rfl ?_
                        refine AOps.nil ?_
                        exact SAny.same [0, 1, 2, 3, 7, 8, 9, 10, 12, 13, 11, 14, 15, 16, 5, 4, 6, 18, 23, 25, 19, 17, 20, 21, 22, 24, 26, 28, 29, 30] [1, 5] n2 (by kernel_rfl) rfl
                    · refine ⟨_, rfl, ?_⟩
                      refine AOps.steal trivial rfl (by decide) (by decide) (.inr rfl) (v := .list true 9 ([.str (kwL.getD e.kind.toNat [])] ++ ((flE e).map AV.str))) rfl ?_
                      refine AOps.nil ?_
                      exact SAny.same [0, 1, 2, 3, 7, 8, 9, 10, 12, 13, 11, 14, 15, 16, 5, 4, 6, 18, 23, 25, 19, 17, 20, 21, 22, 24, 26, 28, 29] [1, 5] n5 (by kernel_rfl) rfl
                  · refine ⟨_, rfl, ?_⟩
                    refine AOps.steal trivial rfl (by decide) (by decide) (.inr rfl) (v := .list true 9 ([.str (kwL.getD e.kind.toNat [])] ++ ((flE e).map AV.str))) rfl ?_
                    refine AOps.nil ?_
                    exact SAny.same [0, 1, 2, 3, 7, 8, 9, 10, 12, 13, 11, 14, 15, 16, 5, 4, 6, 18, 23, 25, 19, 17, 20, 21, 22, 24, 26, 28] [1, 5] n8 (by kernel_rfl) rfl
                · refine ⟨_, rfl, ?_⟩
                  refine AOps.steal trivial rfl (by decide) (by decide) (.inr rfl) (v := .list true 9 ([.str (kwL.getD e.kind.toNat [])] ++ ((flE e).map AV.str))) rfl ?_
                  refine AOps.nil ?_
                  refine SAny.step [10, 11] (by kernel_rfl) (by decide) ?_
                  intro iq hq; simp only [List.mem_cons, List.mem_nil_iff, or_false] at hq
                  rcases hq with rfl | rfl
                  · refine ⟨_, rfl, ?_⟩
                    refine AOps.skip ⟨9, true, 26, _, rfl, rfl, rfl, by simp⟩ rfl (by decide) ?_
                    refine AOps.nil ?_
                    exact SAny.same [0, 1, 2, 3, 7, 8, 9, 10, 12, 13, 11, 14, 15, 16, 5, 4, 6, 18, 23, 25, 19, 17, 20, 21, 22, 24, 26, 27] [1, 5] n7 (by kernel_rfl) rfl
                  · refine ⟨_, rfl, ?_⟩
                    refine AOps.skip ⟨9, true, 26, _, rfl, rfl, rfl, by simp⟩ rfl (by decide) ?_
                    refine AOps.nil ?_
                    exact SAny.same [0, 1, 2, 3, 7, 8, 9, 10, 12, 13, 11, 14, 15, 16, 5, 4, 6, 18, 23, 25, 19, 17, 20, 21, 22, 24, 26, 28] [1, 5] n8 (by kernel_rfl) rfl
        refine SAny.take 1 rfl (by kernel_rfl) (by kernel_rfl) (by kernel_rfl) trivial rfl (by decide) (PReader.fieldL rfl ⟨_, _, Tryd.underlying34, rfl, rfl, rfl, sizeOf_3⟩ (by decide) rfl) ?_
        refine SAny.take 6 rfl (by kernel_rfl) (by kernel_rfl) (by kernel_rfl) trivial rfl (by decide) (PReader.move (.inl rfl) (ok_const rfl) (v := .list false 9 ((flE e).map AV.str)) rfl) ?_
        refine SAny.take 8 rfl (by kernel_rfl) (by kernel_rfl) (by kernel_rfl) trivial rfl (by decide) (PReader.move (.inl rfl) (ok_const rfl) (v := .lit (.bool false)) rfl) ?_
        refine SAny.step [0, 2] (by kernel_rfl) (by decide) ?_
        intro iq hq; simp only [List.mem_cons, List.mem_nil_iff, or_false] at hq
        rcases hq with rfl | rfl
        · refine ⟨_, rfl, ?_⟩
          refine AOps.call (args := []) trivial rfl (by decide) rfl rfl Tryd.call56 (args_ok rfl) rfl (by intro j x v hx hv; match j, hx, hv with  | _ + 0, hx, hv => cases hx) (lwords_any M) ?_
          rintro _ _ ⟨rfl, rfl⟩
          refine AOps.nil ?_
          refine SAny.step [2] (by kernel_rfl) (by decide) ?_
          intro iq hq; simp only [List.mem_cons, List.mem_nil_iff, or_false] at hq
          rcases hq with rfl
          · refine ⟨_, rfl, ?_⟩
            refine AOps.read trivial rfl (by decide) (Reader.loadL rfl Tryd.underlying3 sizeOf_3 rfl rfl (v := .lit (.int .i64 e.kind)) rfl rfl) ?_
            refine AOps.nil ?_
            refine SAny.take 3 rfl (by kernel_rfl) (by kernel_rfl) (by kernel_rfl) trivial rfl (by decide) (PReader.elemAddr (m := e.kind.toNat) rfl Tryd.underlying23 sizeOf_9 rfl rfl (by omega) (e := .str (kwL.getD e.kind.toNat [])) (strs_at (by first | omega | (show _ < 17; omega)))) ?_
            exact SAny.same [0, 1, 2, 3, 7, 8, 9, 10, 12, 13, 11, 14, 15, 16, 5, 4, 6, 18, 23, 25, 19, 17, 20] [1, 5] n10 (by kernel_rfl) rfl
        · refine ⟨_, rfl, ?_⟩
          refine AOps.read trivial rfl (by decide) (Reader.loadL rfl Tryd.underlying3 sizeOf_3 rfl rfl (v := .lit (.int .i64 e.kind)) rfl rfl) ?_
          refine AOps.nil ?_
          refine SAny.step [0] (by kernel_rfl) (by decide) ?_
          intro iq hq; simp only [List.mem_cons, List.mem_nil_iff, or_false] at hq
          rcases hq with rfl
          · refine ⟨_, rfl, ?_⟩
            refine AOps.call (args := []) trivial rfl (by decide) rfl rfl Tryd.call56 (args_ok rfl) rfl (by intro j x v hx hv; match j, hx, hv with  | _ + 0, hx, hv => cases hx) (lwords_any M) ?_
            rintro _ _ ⟨rfl, rfl⟩
            refine AOps.nil ?_
            refine SAny.take 3 rfl (by kernel_rfl) (by kernel_rfl) (by kernel_rfl) trivial rfl (by decide) (PReader.elemAddr (m := e.kind.toNat) rfl Tryd.underlying23 sizeOf_9 rfl rfl (by omega) (e := .str (kwL.getD e.kind.toNat [])) (strs_at (by first | omega | (show _ < 17; omega)))) ?_
            exact SAny.same [0, 1, 2, 3, 7, 8, 9, 10, 12, 13, 11, 14, 15, 16, 5, 4, 6, 18, 23, 25, 19, 17, 20] [1, 5] n10 (by kernel_rfl) rfl
      refine AWp.ret ?_
      exact ⟨.inl rfl, _, ResOf.two 2 3 (.list true 9 ([.str (kwL.getD e.kind.toNat [])] ++ ((flE e).map AV.str))) (.lit (.bool false)) rfl rfl (.inr ⟨_, _, rfl⟩) (.inl rfl) (by decide), ⟨by rw [told_yes ⟨h1, h2⟩, told_b h1 h2 (by assumption)]; rfl, rfl⟩⟩

set_option maxRecDepth 20000 in
theorem told_no (e : Ev) (hk : ¬ (1 ≤ e.kind ∧ e.kind ≤ 16)) (hid : e.id.length ≤ 4294967280) (hn : -9223372036854775808 ≤ e.n ∧ e.n ≤ 9223372036854775807) (M : Nat → Option (List AV)) : ACall Tryd.prog 48 [encE e] M (fun r M' => r = .tuple [.list true 9 [], .lit (.bool false)] ∧ M = M') := by
  refine ACall.of Tryd.func48 rfl (n := 33) rfl rfl rfl ?_
  refine AWp.seq (AWp.region ?_)
  refine AOps.box trivial rfl (by decide) rfl (noL rfl) rfl (v := encE e) (.inl ⟨rfl, rfl⟩) rfl rfl (all_flat rfl) ?_
  refine AOps.nilList 9 trivial rfl (by decide) (.inl rfl) ?_
  refine AOps.read trivial rfl (by decide) (Reader.move (.inr rfl) (ok_const rfl) (v := .lit (.bool false)) rfl) ?_
  refine AOps.nil ?_
  refine AWp.seq ?_
  refine AWp.seq (AWp.region ?_)
  refine AOps.read trivial rfl (by decide) (Reader.fieldL rfl ⟨_, _, Tryd.underlying34, rfl, rfl, rfl, sizeOf_3⟩ (by decide) rfl) ?_
  refine AOps.read trivial rfl (by decide) (Reader.loadL rfl Tryd.underlying3 sizeOf_3 rfl rfl (v := .lit (.int .i64 e.kind)) rfl rfl) ?_
  refine AOps.call (args := [.lit (.int .i64 e.kind)]) trivial rfl (by decide) rfl rfl Tryd.call60 (args_ok rfl) rfl (by intro j x v hx hv; match j, hx, hv with | 0, hx, hv => cases hx; cases hv; exact .inl ⟨rfl, rfl⟩ | _ + 1, hx, hv => cases hx) (known_any e.kind M) ?_
  rintro _ _ ⟨rfl, rfl⟩
  refine AOps.read trivial rfl (by decide) (Reader.not (b := decide (KnownP e.kind)) rfl rfl) ?_
  refine AOps.nil ?_
  refine AWp.cond (b := !(decide (KnownP e.kind))) rfl (fun h1 => ?_) (fun h1 => ?_)
  · skip
    have h1' : ¬ (1 ≤ e.kind ∧ e.kind ≤ 16) := (of_decide_eq_false (bnot_t h1))
    clear h1
    refine AWp.seq (AWp.region ?_)
    refine AOps.nilList 9 trivial rfl (by decide) (.inl rfl) ?_
    refine AOps.read trivial rfl (by decide) (Reader.move (.inr rfl) (ok_const rfl) (v := .lit (.bool false)) rfl) ?_
    refine AOps.nil ?_
    refine AWp.ret ?_
    exact ⟨.inl rfl, _, ResOf.two 2 3 (.list true 9 []) (.lit (.bool false)) rfl rfl (.inr ⟨_, _, rfl⟩) (.inl rfl) (by decide), ⟨rfl, rfl⟩⟩
  · skip
    have h1' : 1 ≤ e.kind ∧ e.kind ≤ 16 := (of_decide_eq_true (bnot_f h1))
    clear h1
    exfalso; omega

theorem told_any (e : Ev) (hid : e.id.length ≤ 4294967280) (hn : -9223372036854775808 ≤ e.n ∧ e.n ≤ 9223372036854775807) (M : Nat → Option (List AV)) : ACall Tryd.prog 48 [encE e] M (fun r M' => r = .tuple [.list true 9 ((toldL e).map AV.str), .lit (.bool (decide (RightE e)))] ∧ M = M') := by
  by_cases h : 1 ≤ e.kind ∧ e.kind ≤ 16
  · exact told_k e h.1 h.2 hid hn M
  · refine (told_no e h hid hn M).mono fun r M' hq => ⟨hq.1.trans ?_, hq.2⟩
    rw [told_not h, decide_eq_false (fun hr : RightE e => h ⟨hr.1, hr.2.1⟩)]; rfl

set_option maxRecDepth 20000 in
theorem lright_any (e : Ev) (hid : e.id.length ≤ 4294967280) (hn : -9223372036854775808 ≤ e.n ∧ e.n ≤ 9223372036854775807) (M : Nat → Option (List AV)) : ACall Tryd.prog 24 [encE e] M (fun r M' => r = .lit (.bool (decide (RightE e))) ∧ M = M') := by
  refine ACall.of Tryd.func24 rfl (n := 11) rfl rfl rfl ?_
  refine AWp.seq (AWp.region ?_)
  refine AOps.box trivial rfl (by decide) rfl (noL rfl) rfl (v := encE e) (.inl ⟨rfl, rfl⟩) rfl rfl (all_flat rfl) ?_
  refine AOps.read trivial rfl (by decide) (Reader.move (.inr rfl) (ok_const rfl) (v := .lit (.bool false)) rfl) ?_
  refine AOps.nil ?_
  refine AWp.seq (AWp.region ?_)
  refine AOps.read trivial rfl (by decide) (Reader.loadL rfl Tryd.underlying34 sizeOf_34 rfl rfl (v := .agg [.lit (.int .i64 e.kind), .str e.id, .lit (.int .i64 e.sig), .lit (.int .i64 e.n)]) rfl rfl) ?_
  refine AOps.call (args := [encE e]) trivial rfl (by decide) rfl rfl Tryd.call48 (args_ok rfl) rfl (by intro j x v hx hv; match j, hx, hv with | 0, hx, hv => cases hx; cases hv; exact .inl ⟨rfl, rfl⟩ | _ + 1, hx, hv => cases hx) (told_any e hid hn M) ?_
  rintro _ _ ⟨rfl, rfl⟩
  refine AOps.read trivial rfl (by decide) (Reader.move (.inl rfl) (ok_const rfl) (v := .tuple [.list false 9 ((toldL e).map AV.str), .lit (.bool (decide (RightE e)))]) rfl) ?_
  refine AOps.read trivial rfl (by decide) (Reader.extract (v := .list false 9 ((toldL e).map AV.str)) rfl rfl rfl rfl) ?_
  refine AOps.read trivial rfl (by decide) (Reader.extract (v := .lit (.bool (decide (RightE e)))) rfl rfl rfl rfl) ?_
  refine AOps.read trivial rfl (by decide) (Reader.move (.inr rfl) (ok_const rfl) (v := .list false 9 ((toldL e).map AV.str)) rfl) ?_
  refine AOps.read trivial rfl (by decide) (Reader.move (.inr rfl) (ok_const rfl) (v := .lit (.bool (decide (RightE e)))) rfl) ?_
  refine AOps.nil ?_
  refine AWp.seq (AWp.region ?_)
  refine AOps.read trivial rfl (by decide) (Reader.move (.inl rfl) (ok_const rfl) (v := .lit (.bool (decide (RightE e)))) rfl) ?_
  refine AOps.read trivial rfl (by decide) (Reader.move (.inr rfl) (ok_const rfl) (v := .lit (.bool (decide (RightE e)))) rfl) ?_
  refine AOps.nil ?_
  refine AWp.ret ?_
  exact ⟨.inl rfl, _, ResOf.one 2 (.lit (.bool (decide (RightE e)))) rfl rfl, ⟨rfl, rfl⟩⟩

set_option maxRecDepth 20000 in
theorem lline_any (r : Int) (e : Ev) (hid : e.id.length ≤ 4294967280) (hn : -9223372036854775808 ≤ e.n ∧ e.n ≤ 9223372036854775807) (M : Nat → Option (List AV)) : ACall Tryd.prog 22 [.lit (.int .i64 r), encE e] M (fun r' M' => r' = .tuple [.str (textE r e), .lit (.int .i64 (errE r e))] ∧ M = M') := by
  have htl := told_len e
  have hjl := told_join e hid hn
  refine ACall.of Tryd.func22 rfl (n := 29) rfl rfl rfl ?_
  refine AWp.seq (AWp.region ?_)
  refine AOps.box trivial rfl (by decide) rfl (noL rfl) rfl (v := encE e) (.inl ⟨rfl, rfl⟩) rfl rfl (all_flat rfl) ?_
  refine AOps.read trivial rfl (by decide) (Reader.move (.inr rfl) (ok_const rfl) (v := .str []) rfl) ?_
  refine AOps.read trivial rfl (by decide) (Reader.move (.inr rfl) (ok_const rfl) (v := .lit (.int .i64 0)) rfl) ?_
  refine AOps.nil ?_
  refine AWp.seq (AWp.region ?_)
  refine AOps.read trivial rfl (by decide) (Reader.loadL rfl Tryd.underlying34 sizeOf_34 rfl rfl (v := .agg [.lit (.int .i64 e.kind), .str e.id, .lit (.int .i64 e.sig), .lit (.int .i64 e.n)]) rfl rfl) ?_
  refine AOps.call (args := [encE e]) trivial rfl (by decide) rfl rfl Tryd.call48 (args_ok rfl) rfl (by intro j x v hx hv; match j, hx, hv with | 0, hx, hv => cases hx; cases hv; exact .inl ⟨rfl, rfl⟩ | _ + 1, hx, hv => cases hx) (told_any e hid hn M) ?_
  rintro _ _ ⟨rfl, rfl⟩
  refine AOps.read trivial rfl (by decide) (Reader.move (.inl rfl) (ok_const rfl) (v := .tuple [.list false 9 ((toldL e).map AV.str), .lit (.bool (decide (RightE e)))]) rfl) ?_
  refine AOps.read trivial rfl (by decide) (Reader.extract (v := .list false 9 ((toldL e).map AV.str)) rfl rfl rfl rfl) ?_
  refine AOps.read trivial rfl (by decide) (Reader.extract (v := .lit (.bool (decide (RightE e)))) rfl rfl rfl rfl) ?_
  refine AOps.read trivial rfl (by decide) (Reader.move (.inr rfl) (ok_const rfl) (v := .list false 9 ((toldL e).map AV.str)) rfl) ?_
  refine AOps.read trivial rfl (by decide) (Reader.move (.inr rfl) (ok_const rfl) (v := .lit (.bool (decide (RightE e)))) rfl) ?_
  refine AOps.nil ?_
  refine AWp.seq ?_
  refine AWp.regionJ [22, 0, 1, 3, 4, 5, 6, 7] [3] (fun z => ⟨(22, .lit (.bool z)) :: [(0, .lit (.int .i64 r)), (1, encE e), (3, .lptr 3 0), (4, .str []), (5, .lit (.int .i64 0)), (6, .list false 9 ((toldL e).map AV.str)), (7, .lit (.bool (decide (RightE e))))], [(3, [.lit (.int .i64 e.kind), .str e.id, .lit (.int .i64 e.sig), .lit (.int .i64 e.n)])], M⟩) (z := bif (!(decide (RightE e))) then true else (bif (decide (r < 0)) then true else (decide (r > 1099511627776)))) ?_ ?_
  · skip
    refine AOps.read trivial rfl (by decide) (Reader.move (.inl rfl) (ok_const rfl) (v := .lit (.bool (decide (RightE e)))) rfl) ?_
    refine AOps.read trivial rfl (by decide) (Reader.not (b := decide (RightE e)) rfl rfl) ?_
    refine AOps.read trivial rfl (by decide) (Reader.move (.inl rfl) (ok_const rfl) (v := .lit (.bool (!(decide (RightE e))))) rfl) ?_
    refine AOps.splitJ (t := 15) (b := !(decide (RightE e))) (x := true) (y := (bif (decide (r < 0)) then true else (decide (r > 1099511627776)))) rfl (fun h1 => ?_) (fun h1 => ?_)
    · skip
      have h1' : ¬ RightE e := (of_decide_eq_false (bnot_t h1))
      clear h1
      refine AOps.skip ⟨2, false, 15, _, rfl, rfl, rfl, by simp⟩ rfl (by decide) ?_
      refine AOps.skip ⟨2, false, 15, _, rfl, rfl, rfl, by simp⟩ rfl (by decide) ?_
      refine AOps.read trivial rfl (by decide) (Reader.pick rfl (b := true) rfl (ok_const rfl) (ok_const rfl) (v := .lit (.bool true)) rfl) ?_
      refine AOps.read trivial rfl (by decide) (Reader.move (.inl rfl) (ok_const rfl) (v := .lit (.bool true)) rfl) ?_
      refine AOps.skip ⟨6, false, 19, _, rfl, rfl, rfl, by simp⟩ rfl (by decide) ?_
      refine AOps.skip ⟨6, false, 19, _, rfl, rfl, rfl, by simp⟩ rfl (by decide) ?_
      refine AOps.read trivial rfl (by decide) (Reader.pick rfl (b := true) rfl (ok_const rfl) (ok_const rfl) (v := .lit (.bool true)) rfl) ?_
      exact AOps.nil rfl
    · skip
      have h1' : RightE e := (of_decide_eq_true (bnot_f h1))
      clear h1
      refine AOps.read ⟨15, rfl, rfl⟩ rfl (by decide) (Reader.move (.inl rfl) (ok_const rfl) (v := .lit (.int .i64 r)) rfl) ?_
      refine AOps.read ⟨15, rfl, rfl⟩ rfl (by decide) (Reader.int rfl rfl rfl (r := .bool (decide (r < 0))) rfl) ?_
      refine AOps.read trivial rfl (by decide) (Reader.pick rfl (b := false) rfl (ok_const rfl) (ok_const rfl) (v := .lit (.bool (decide (r < 0)))) rfl) ?_
      refine AOps.read trivial rfl (by decide) (Reader.move (.inl rfl) (ok_const rfl) (v := .lit (.bool (decide (r < 0)))) rfl) ?_
      refine AOps.splitJ (t := 19) (b := decide (r < 0)) (x := true) (y := (decide (r > 1099511627776))) rfl (fun h2 => ?_) (fun h2 => ?_)
      · skip
        have h2' : r < 0 := (by have hh := of_decide_eq_true h2; omega)
        clear h2
        refine AOps.skip ⟨6, false, 19, _, rfl, rfl, rfl, by simp⟩ rfl (by decide) ?_
        refine AOps.skip ⟨6, false, 19, _, rfl, rfl, rfl, by simp⟩ rfl (by decide) ?_
        refine AOps.read trivial rfl (by decide) (Reader.pick rfl (b := true) rfl (ok_const rfl) (ok_const rfl) (v := .lit (.bool true)) rfl) ?_
        exact AOps.nil rfl
      · skip
        have h2' : ¬ (r < 0) := (by have hh := of_decide_eq_false h2; omega)
        clear h2
        refine AOps.read ⟨19, rfl, rfl⟩ rfl (by decide) (Reader.move (.inl rfl) (ok_const rfl) (v := .lit (.int .i64 r)) rfl) ?_
        refine AOps.read ⟨19, rfl, rfl⟩ rfl (by decide) (Reader.int rfl rfl rfl (r := .bool (decide (r > 1099511627776))) rfl) ?_
        refine AOps.read trivial rfl (by decide) (Reader.pick rfl (b := false) rfl (ok_const rfl) (ok_const rfl) (v := .lit (.bool (decide (r > 1099511627776)))) rfl) ?_
        exact AOps.nil rfl
  refine AWp.cond (b := bif (!(decide (RightE e))) then true else (bif (decide (r < 0)) then true else (decide (r > 1099511627776)))) rfl (fun h3 => ?_) (fun h3 => ?_)
  · skip
    have h3' : ¬ HasLine r e := (hl_t h3)
    clear h3
    refine AWp.seq (AWp.region ?_)
    refine AOps.read trivial rfl (by decide) (Reader.move (.inr rfl) (ok_const rfl) (v := .str []) rfl) ?_
    refine AOps.read trivial rfl (by decide) (Reader.move (.inr rfl) (ok_const rfl) (v := .lit (.int .i64 1)) rfl) ?_
    refine AOps.nil ?_
    refine AWp.ret ?_
    exact ⟨.inl rfl, _, ResOf.two 4 5 (.str []) (.lit (.int .i64 1)) rfl rfl (.inl rfl) (.inl rfl) (by decide), ⟨by rw [textE_no (by assumption), errE_no (by assumption)], rfl⟩⟩
  · skip
    have h3' : ((0 ≤ r ∧ r ≤ 1099511627776) ∧ HasLine r e) := (hl_f h3)
    clear h3
    refine AWp.skip ?_
    refine AWp.seq (AWp.region ?_)
    refine AOps.read trivial rfl (by decide) (Reader.move (.inl rfl) (ok_const rfl) (v := .lit (.int .i64 r)) rfl) ?_
    refine AOps.call (args := [.lit (.int .i64 r)]) trivial rfl (by decide) rfl rfl Tryd.call44 (args_ok rfl) rfl (by intro j x v hx hv; match j, hx, hv with | 0, hx, hv => cases hx; cases hv; exact .inl ⟨rfl, rfl⟩ | _ + 1, hx, hv => cases hx) (itoa_int r (by omega) (by omega) M) ?_
    rintro _ _ ⟨rfl, rfl⟩
    have hil := itoa_r_len (show ((0 ≤ r ∧ r ≤ 1099511627776) ∧ HasLine r e) by assumption).1
    refine AOps.read trivial rfl (by decide) (Reader.cat rfl rfl rfl (by first | omega | (simp only [List.length_append, List.length_cons, List.length_nil]; omega) | (simp; omega)) (c := (Lib.itoa r) ++ [32]) rfl) ?_
    refine AOps.read trivial rfl (by decide) (Reader.move (.inl rfl) (ok_const rfl) (v := .list false 9 ((toldL e).map AV.str)) rfl) ?_
    refine AOps.call (args := [.list false 9 ((toldL e).map AV.str), .str [32]]) trivial rfl (by decide) rfl rfl Tryd.call49 (args_ok rfl) rfl (by intro j x v hx hv; match j, hx, hv with | 0, hx, hv => cases hx; cases hv; exact .inl ⟨rfl, rfl⟩ | 1, hx, hv => cases hx; cases hv; exact .inl ⟨rfl, rfl⟩ | _ + 2, hx, hv => cases hx) (join_any (toldL e) [32] (by first | omega | (simp only [List.length_append, List.length_cons, List.length_nil]; omega)) (by first | assumption | omega) M) ?_
    rintro _ _ ⟨rfl, rfl⟩
    refine AOps.read trivial rfl (by decide) (Reader.cat rfl rfl rfl (by first | omega | (simp only [List.length_append, List.length_cons, List.length_nil]; omega) | (simp; omega)) (c := ((Lib.itoa r) ++ [32]) ++ (Lib.join (toldL e) [32])) rfl) ?_
    refine AOps.read trivial rfl (by decide) (Reader.move (.inr rfl) (ok_const rfl) (v := .str (((Lib.itoa r) ++ [32]) ++ (Lib.join (toldL e) [32]))) rfl) ?_
    refine AOps.read trivial rfl (by decide) (Reader.move (.inr rfl) (ok_const rfl) (v := .lit (.int .i64 0)) rfl) ?_
    refine AOps.nil ?_
    refine AWp.ret ?_
    exact ⟨.inl rfl, _, ResOf.two 4 5 (.str (((Lib.itoa r) ++ [32]) ++ (Lib.join (toldL e) [32]))) (.lit (.int .i64 0)) rfl rfl (.inl rfl) (.inl rfl) (by decide), ⟨by rw [line_text (show ((0 ≤ r ∧ r ≤ 1099511627776) ∧ HasLine r e) by assumption).2, errE_yes (show ((0 ≤ r ∧ r ≤ 1099511627776) ∧ HasLine r e) by assumption).2], rfl⟩⟩

end Go.Proofs.YtlpihekflkjkfaaDoor
