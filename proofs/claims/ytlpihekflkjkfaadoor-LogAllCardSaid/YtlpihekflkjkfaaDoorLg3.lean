/- Walks over abstract values, printed by my program av.py. -/
import Derived.Test.YtlpihekflkjkfaaDoorLg2
import Derived.Test.YtlpihekflkjkfaaDoorAvZ
namespace Go.Proofs.YtlpihekflkjkfaaDoor
open Go.RowKit

/-- What is told: the kind's word, and the fields. -/
def toldL (e : Ev) : List (List UInt8) := if 1 ≤ e.kind ∧ e.kind ≤ 16 then kwOf e.kind :: flE e else []
theorem told_yes {e : Ev} (h : 1 ≤ e.kind ∧ e.kind ≤ 16) : toldL e = kwOf e.kind :: flE e := if_pos h
theorem told_not {e : Ev} (h : ¬ (1 ≤ e.kind ∧ e.kind ≤ 16)) : toldL e = [] := if_neg h
theorem fl_len (e : Ev) : (flE e).length ≤ 3 := by
  unfold flE; (repeat' split) <;> simp
theorem told_b {e : Ev} (h1 : 1 ≤ e.kind) (h2 : e.kind ≤ 16) (h : okE e = false) : decide (RightE e) = false := decide_eq_false fun hr => by
  have := hr.2.2.1; rw [h] at this; cases this
theorem told_t {e : Ev} (h1 : 1 ≤ e.kind) (h2 : e.kind ≤ 16) (h : okE e = true) : (((restE e).kind == e.kind) && (((restE e).id == []) && (((restE e).sig == 0) && (((restE e).n == 0) && true)))) = decide (RightE e) := by
  rw [Bool.eq_iff_iff, decide_eq_true_iff]
  unfold RightE
  constructor
  · intro hh
    simp only [Bool.and_eq_true, beq_iff_eq] at hh
    refine ⟨h1, h2, h, ?_⟩
    generalize restE e = x at hh
    obtain ⟨a, b, c, d⟩ := x
    obtain ⟨q1, q2, q3, q4, _⟩ := hh
    simp only at q1 q2 q3 q4
    rw [q1, q2, q3, q4]
  · rintro ⟨_, _, _, hh⟩
    rw [hh]; simp
theorem told_len (e : Ev) : (toldL e).length ≤ 4 := by
  unfold toldL; have := fl_len e
  split
  · rw [List.length_cons]; omega
  · exact Nat.zero_le _
theorem kw_len (k : Int) : (kwOf k).length ≤ 7 := by
  unfold kwOf
  have : ∀ j, (kwL.getD j []).length ≤ 7 := by
    intro j
    match j with
    | 0 | 1 | 2 | 3 | 4 | 5 | 6 | 7 | 8 | 9 | 10 | 11 | 12 | 13 | 14 | 15 | 16 => decide
    | j + 17 => exact Nat.zero_le _
  exact this _
theorem sgw_len (n : Int) : (sgw n).length ≤ 6 := by unfold sgw wordOf; (repeat' split) <;> decide
theorem itoa_len20 {n : Int} (h : -9223372036854775808 ≤ n ∧ n ≤ 9223372036854775807) : (Lib.itoa n).length ≤ 21 := Lib.itoa_length_le n h.1 h.2
theorem itoa_r_len {r : Int} (h : 0 ≤ r ∧ r ≤ 1099511627776) : (Lib.itoa r).length ≤ 21 := itoa_len20 (by omega)
theorem join_len_le (x : List UInt8) (l : List (List UInt8)) (b : Nat) (h : ∀ y ∈ x :: l, y.length ≤ b) : (Lib.join (x :: l) [32]).length ≤ (l.length + 1) * (b + 1) := by
  induction l generalizing x with
  | nil => rw [Lib.join_one]; have := h x (List.mem_cons_self ..); simp; omega
  | cons y r ih =>
    rw [join_two, List.length_append, List.length_cons]
    have h1 := ih y (fun z hz => h z (List.mem_cons_of_mem _ hz))
    have h2 := h x (List.mem_cons_self ..)
    rw [List.length_cons]
    have e : (r.length + 1 + 1) * (b + 1) = (r.length + 1) * (b + 1) + (b + 1) := Nat.succ_mul _ _
    omega
theorem fl_each {e : Ev} (hid : e.id.length ≤ 4294967280) (hn : -9223372036854775808 ≤ e.n ∧ e.n ≤ 9223372036854775807) : ∀ y ∈ flE e, y.length ≤ 4294967280 := by
  have h1 := sgw_len e.sig
  have h2 := itoa_len20 hn
  have h3 : presL.length = 8 := rfl
  have h4 : roomL.length = 4 := rfl
  intro y hy
  unfold flE at hy
  (repeat' split at hy) <;> simp only [List.mem_cons, List.mem_nil_iff, or_false] at hy
  all_goals first
    | (rcases hy with rfl | rfl | rfl <;> omega)
    | (rcases hy with rfl | rfl <;> omega)
    | (subst hy; omega)
theorem told_join (e : Ev) (hid : e.id.length ≤ 4294967280) (hn : -9223372036854775808 ≤ e.n ∧ e.n ≤ 9223372036854775807) : (Lib.join (toldL e) [32]).length ≤ 17179869200 := by
  unfold toldL
  split
  · have := join_len_le (kwOf e.kind) (flE e) 4294967280 (fun y hy => by
      rcases List.mem_cons.1 hy with rfl | hy
      · have := kw_len e.kind; omega
      · exact fl_each hid hn y hy)
    have h3 := fl_len e
    have h4 : ((flE e).length + 1) * (4294967280 + 1) ≤ 4 * (4294967280 + 1) := Nat.mul_le_mul_right _ (by omega)
    omega
  · rw [Lib.join_nil]; simp
theorem hl_t {r : Int} {e : Ev} (h : (bif !(decide (RightE e)) then true else (bif decide (r < 0) then true else decide (r > 1099511627776))) = true) : ¬ HasLine r e := by
  rintro ⟨h1, h2, h3⟩
  rw [decide_eq_true h1, decide_eq_false (show ¬ r < 0 by omega), decide_eq_false (show ¬ r > 1099511627776 by omega)] at h; cases h
theorem hl_f {r : Int} {e : Ev} (h : (bif !(decide (RightE e)) then true else (bif decide (r < 0) then true else decide (r > 1099511627776))) = false) : (0 ≤ r ∧ r ≤ 1099511627776) ∧ HasLine r e := by
  by_cases h1 : RightE e
  · rw [decide_eq_true h1] at h
    by_cases h2 : r < 0
    · rw [decide_eq_true h2] at h; cases h
    · rw [decide_eq_false h2] at h
      have h3 := of_decide_eq_false h
      exact ⟨by omega, h1, by omega, by omega⟩
  · rw [decide_eq_false h1] at h; cases h
theorem textE_no {r : Int} {e : Ev} (h : ¬ HasLine r e) : textE r e = [] := if_neg h
theorem errE_no {r : Int} {e : Ev} (h : ¬ HasLine r e) : errE r e = 1 := if_neg h
theorem errE_yes {r : Int} {e : Ev} (h : HasLine r e) : errE r e = 0 := if_pos h
theorem textE_yes {r : Int} {e : Ev} (h : HasLine r e) : textE r e = lineE r e := if_pos h
theorem line_text {r : Int} {e : Ev} (h : HasLine r e) : textE r e = (Lib.itoa r ++ [32]) ++ Lib.join (toldL e) [32] := by
  rw [textE_yes h, itoa_pos h.2.1, told_yes ⟨h.1.1, h.1.2.1⟩]; rfl

set_option maxRecDepth 20000 in
theorem told_k (e : Ev) (h1 : 1 ≤ e.kind) (h2 : e.kind ≤ 16) (hid : e.id.length ≤ 4294967280) (hn : -9223372036854775808 ≤ e.n ∧ e.n ≤ 9223372036854775807) (M : Nat → Option (List AV)) : ACall Tryd.prog 48 [encE e] M (fun r M' => r = .tuple [.list true 9 ((toldL e).map AV.str), zB (decide (RightE e))] ∧ M = M') := by
  have hfl := fl_len e
  refine ACall.of Tryd.func48 rfl (n := 33) rfl rfl rfl ?_
  refine zg ?_
  refine AOps.box trivial rfl (by decide) rfl (noL rfl) rfl (v := encE e) (.inl ⟨rfl, rfl⟩) rfl rfl (all_flat rfl) ?_
  refine AOps.nilList 9 trivial rfl (by decide) (.inl rfl) ?_
  refine zM (zB false) ?_
  refine zN ?_
  refine AWp.seq ?_
  refine zg ?_
  refine zr (zfL Tryd.underlying34 sizeOf_3) ?_
  refine zr (zlL (zI e.kind) Tryd.underlying3 sizeOf_3) ?_
  refine zc [zI e.kind] Tryd.call60 (known_any e.kind M) ?_
  rintro _ _ ⟨rfl, rfl⟩
  refine zr (zn (decide (KnownP e.kind))) ?_
  refine zN ?_
  refine zC (b := !(decide (KnownP e.kind))) rfl (fun h1 => ?_) (fun h1 => ?_)
  · skip
    have h1' : ¬ (1 ≤ e.kind ∧ e.kind ≤ 16) := (of_decide_eq_false (bnot_t h1))
    clear h1
    exfalso; omega
  · skip
    have h1' : 1 ≤ e.kind ∧ e.kind ≤ 16 := (of_decide_eq_true (bnot_f h1))
    clear h1
    refine AWp.skip ?_
    refine zg ?_
    refine zr (zlL (.agg [zI e.kind, .str e.id, zI e.sig, zI e.n]) Tryd.underlying34 sizeOf_34) ?_
    refine zc [encE e] Tryd.call79 (fields_any e (by omega) (by omega) hid hn M) ?_
    rintro _ _ ⟨rfl, rfl⟩
    refine zM (.tuple [.list false 9 ((flE e).map AV.str), encE (restE e), zB (okE e)]) ?_
    refine zr (zx (.list false 9 ((flE e).map AV.str))) ?_
    refine zr (zx (encE (restE e))) ?_
    refine zr (zx (zB (okE e))) ?_
    refine zal [] zero_34 [zI 0, .str [], zI 0, zI 0] ?_
    refine zM (.list false 9 ((flE e).map AV.str)) ?_
    refine zst sizeOf_34 (encE (restE e)) ?_
    refine zM (zB (okE e)) ?_
    refine zN ?_
    refine AWp.cases 6 (b := okE e) rfl (fun h2 => ?_) (fun h2 => ?_)
    · skip
      have h2' : okE e = true := h2
      clear h2
      refine AWp.seq (AWp.anyR [0, 1, 2, 3, 10, 5, 4, 6] [1, 5] (⟨[(0, encE e), (1, .lptr 1 0), (2, .list true 9 ([.str (kwL.getD e.kind.toNat [])] ++ ((flE e).map AV.str))), (3, zB ((((restE e).kind) == e.kind) && ((((restE e).id) == ([] : List UInt8)) && ((((restE e).sig) == 0) && ((((restE e).n) == 0) && true))))), (10, zB (!(decide (KnownP e.kind)))), (5, .lptr 5 0), (4, .list false 9 ((flE e).map AV.str)), (6, zB true)], [(1, [zI e.kind, .str e.id, zI e.sig, zI e.n]), (5, [zI ((restE e).kind), .str ((restE e).id), zI ((restE e).sig), zI ((restE e).n)])], M⟩) (by kernel_rfl) ?_ ?_)
      · skip
        skip
        refine SAny.share 3 #[true, true, true, true, true, true, true, true, true, true, true, true, true, true, false, false, true, false] (⟨[(0, encE e), (1, .lptr 1 0), (2, .list true 9 ([.str (kwL.getD e.kind.toNat [])] ++ ((flE e).map AV.str))), (3, zB false), (7, .lptr 1 0), (8, zI e.kind), (9, zB (decide (KnownP e.kind))), (10, zB (!(decide (KnownP e.kind)))), (12, .agg [zI e.kind, .str e.id, zI e.sig, zI e.n]), (13, .tuple [.list true 9 ((flE e).map AV.str), encE (restE e), zB (okE e)]), (11, .tuple [.list false 9 ((flE e).map AV.str), encE (restE e), zB (okE e)]), (14, .list false 9 ((flE e).map AV.str)), (15, encE (restE e)), (16, zB (okE e)), (5, .lptr 5 0), (4, .list false 9 ((flE e).map AV.str)), (6, zB true), (18, .lptr 1 0), (23, .list false 9 ((flE e).map AV.str)), (25, zB true), (19, zI e.kind), (17, .list true 9 (kwL.map AV.str)), (20, .eptr (.str (kwL.getD e.kind.toNat [])) 0), (21, .str (kwL.getD e.kind.toNat [])), (22, .list false 9 [.str (kwL.getD e.kind.toNat [])]), (24, .list false 9 ([.str (kwL.getD e.kind.toNat [])] ++ ((flE e).map AV.str))), (26, zB true), (28, .lptr 1 0), (29, zI e.kind), (30, .agg [zI e.kind, .str [], zI 0, zI 0]), (27, .agg [zI ((restE e).kind), .str ((restE e).id), zI ((restE e).sig), zI ((restE e).n)])], [(1, [zI e.kind, .str e.id, zI e.sig, zI e.n]), (5, [zI ((restE e).kind), .str ((restE e).id), zI ((restE e).sig), zI ((restE e).n)])], M⟩) ?_ (fun sh0 => ?_)
        · skip
          refine zq [14] ⟨⟨_, rfl, ?_⟩, trivial⟩
          · skip
            refine zr (Reader.eqAgg (us := [(.int .i64 ((restE e).kind)), .string ⟨((restE e).id).toArray⟩, (.int .i64 ((restE e).sig)), (.int .i64 ((restE e).n))]) (vs := [(.int .i64 e.kind), .string ⟨([]).toArray⟩, (.int .i64 0), (.int .i64 0)]) (b := ((((restE e).kind) == e.kind) && ((((restE e).id) == ([] : List UInt8)) && ((((restE e).sig) == 0) && ((((restE e).n) == 0) && true))))) (r := ((((restE e).kind) == e.kind) && ((((restE e).id) == ([] : List UInt8)) && ((((restE e).sig) == 0) && ((((restE e).n) == 0) && true))))) 9 rfl rfl rfl ⟨_, rfl⟩ ⟨_, rfl⟩ Tryd.underlying34 rfl eqg_34 (by decide) rfl rfl (eqV_34 ((restE e).kind) e.kind ((restE e).id) ([] : List UInt8) ((restE e).sig) 0 ((restE e).n) 0) (.inl ⟨rfl, rfl⟩)) ?_
            refine zN ?_
            refine zk 15 rfl (PReader.pick rfl (b := true) rfl (ok_const rfl) (ok_const rfl) (v := zB ((((restE e).kind) == e.kind) && ((((restE e).id) == ([] : List UInt8)) && ((((restE e).sig) == 0) && ((((restE e).n) == 0) && true))))) rfl) ?_
            refine zkm 17 (zB ((((restE e).kind) == e.kind) && ((((restE e).id) == ([] : List UInt8)) && ((((restE e).sig) == 0) && ((((restE e).n) == 0) && true))))) ?_
            exact SAny.done (by kernel_rfl) rfl
        refine SAny.share 4 #[true, true, true, true, true, true, true, true, true, true, false, true, true, true, false, false, true, false] (⟨[(0, encE e), (1, .lptr 1 0), (2, .list true 9 ([.str (kwL.getD e.kind.toNat [])] ++ ((flE e).map AV.str))), (3, zB false), (7, .lptr 1 0), (8, zI e.kind), (9, zB (decide (KnownP e.kind))), (10, zB (!(decide (KnownP e.kind)))), (12, .agg [zI e.kind, .str e.id, zI e.sig, zI e.n]), (13, .tuple [.list true 9 ((flE e).map AV.str), encE (restE e), zB (okE e)]), (11, .tuple [.list false 9 ((flE e).map AV.str), encE (restE e), zB (okE e)]), (14, .list false 9 ((flE e).map AV.str)), (15, encE (restE e)), (16, zB (okE e)), (5, .lptr 5 0), (4, .list false 9 ((flE e).map AV.str)), (6, zB true), (18, .lptr 1 0), (23, .list false 9 ((flE e).map AV.str)), (25, zB true), (19, zI e.kind), (17, .list true 9 (kwL.map AV.str)), (20, .eptr (.str (kwL.getD e.kind.toNat [])) 0), (21, .str (kwL.getD e.kind.toNat [])), (22, .list false 9 [.str (kwL.getD e.kind.toNat [])]), (24, .list false 9 ([.str (kwL.getD e.kind.toNat [])] ++ ((flE e).map AV.str))), (26, zB true), (28, .lptr 1 0), (29, zI e.kind), (30, .agg [zI e.kind, .str [], zI 0, zI 0])], [(1, [zI e.kind, .str e.id, zI e.sig, zI e.n]), (5, [zI ((restE e).kind), .str ((restE e).id), zI ((restE e).sig), zI ((restE e).n)])], M⟩) ?_ (fun sh1 => ?_)
        · skip
          refine zq [10] ⟨⟨_, rfl, ?_⟩, trivial⟩
          · skip
            refine zr (zlL (.agg [zI ((restE e).kind), .str ((restE e).id), zI ((restE e).sig), zI ((restE e).n)]) Tryd.underlying34 sizeOf_34) ?_
            refine zN ?_
            exact SAny.same [0, 1, 2, 3, 7, 8, 9, 10, 12, 13, 11, 14, 15, 16, 5, 4, 6, 18, 23, 25, 19, 17, 20, 21, 22, 24, 26, 28, 29, 30, 27] [1, 5] sh0 (by kernel_rfl) rfl
        refine SAny.share 4 #[true, true, true, true, true, true, true, true, true, true, true, true, true, true, false, false, false, false] (⟨[(0, encE e), (1, .lptr 1 0), (2, .list true 9 []), (3, zB false), (7, .lptr 1 0), (8, zI e.kind), (9, zB (decide (KnownP e.kind))), (10, zB (!(decide (KnownP e.kind)))), (12, .agg [zI e.kind, .str e.id, zI e.sig, zI e.n]), (13, .tuple [.list true 9 ((flE e).map AV.str), encE (restE e), zB (okE e)]), (11, .tuple [.list false 9 ((flE e).map AV.str), encE (restE e), zB (okE e)]), (14, .list false 9 ((flE e).map AV.str)), (15, encE (restE e)), (16, zB (okE e)), (5, .lptr 5 0), (4, .list false 9 ((flE e).map AV.str)), (6, zB true), (18, .lptr 1 0), (23, .list false 9 ((flE e).map AV.str)), (25, zB true), (19, zI e.kind), (17, .list true 9 (kwL.map AV.str)), (20, .eptr (.str (kwL.getD e.kind.toNat [])) 0), (21, .str (kwL.getD e.kind.toNat [])), (22, .list false 9 [.str (kwL.getD e.kind.toNat [])]), (24, .list true 9 ([.str (kwL.getD e.kind.toNat [])] ++ ((flE e).map AV.str))), (26, zB true), (28, .lptr 1 0), (29, zI e.kind), (30, .agg [zI e.kind, .str [], zI 0, zI 0]), (27, .agg [zI ((restE e).kind), .str ((restE e).id), zI ((restE e).sig), zI ((restE e).n)])], [(1, [zI e.kind, .str e.id, zI e.sig, zI e.n]), (5, [zI ((restE e).kind), .str ((restE e).id), zI ((restE e).sig), zI ((restE e).n)])], M⟩) ?_ (fun sh2 => ?_)
        · skip
          refine zq [14, 16] ⟨⟨_, rfl, ?_⟩, ⟨_, rfl, ?_⟩, trivial⟩
          · skip
            refine zr (Reader.eqAgg (us := [(.int .i64 ((restE e).kind)), .string ⟨((restE e).id).toArray⟩, (.int .i64 ((restE e).sig)), (.int .i64 ((restE e).n))]) (vs := [(.int .i64 e.kind), .string ⟨([]).toArray⟩, (.int .i64 0), (.int .i64 0)]) (b := ((((restE e).kind) == e.kind) && ((((restE e).id) == ([] : List UInt8)) && ((((restE e).sig) == 0) && ((((restE e).n) == 0) && true))))) (r := ((((restE e).kind) == e.kind) && ((((restE e).id) == ([] : List UInt8)) && ((((restE e).sig) == 0) && ((((restE e).n) == 0) && true))))) 9 rfl rfl rfl ⟨_, rfl⟩ ⟨_, rfl⟩ Tryd.underlying34 rfl eqg_34 (by decide) rfl rfl (eqV_34 ((restE e).kind) e.kind ((restE e).id) ([] : List UInt8) ((restE e).sig) 0 ((restE e).n) 0) (.inl ⟨rfl, rfl⟩)) ?_
            refine zN ?_
            refine zk 15 rfl (PReader.pick rfl (b := true) rfl (ok_const rfl) (ok_const rfl) (v := zB ((((restE e).kind) == e.kind) && ((((restE e).id) == ([] : List UInt8)) && ((((restE e).sig) == 0) && ((((restE e).n) == 0) && true))))) rfl) ?_
            refine zq [16] ⟨⟨_, rfl, ?_⟩, trivial⟩
            · skip
              refine zT (v := .list true 9 ([.str (kwL.getD e.kind.toNat [])] ++ ((flE e).map AV.str))) rfl ?_
              refine zN ?_
              refine zkm 17 (zB ((((restE e).kind) == e.kind) && ((((restE e).id) == ([] : List UInt8)) && ((((restE e).sig) == 0) && ((((restE e).n) == 0) && true))))) ?_
              exact SAny.done (by kernel_rfl) rfl
          · skip
            refine zT (v := .list true 9 ([.str (kwL.getD e.kind.toNat [])] ++ ((flE e).map AV.str))) rfl ?_
            refine zN ?_
            exact SAny.same [0, 1, 2, 3, 7, 8, 9, 10, 12, 13, 11, 14, 15, 16, 5, 4, 6, 18, 23, 25, 19, 17, 20, 21, 22, 24, 26, 28, 29, 30, 27] [1, 5] sh0 (by kernel_rfl) rfl
        refine SAny.share 5 #[true, true, true, true, true, true, true, true, true, true, true, true, false, false, false, false, true, false] (⟨[(0, encE e), (1, .lptr 1 0), (2, .list true 9 ([.str (kwL.getD e.kind.toNat [])] ++ ((flE e).map AV.str))), (3, zB false), (7, .lptr 1 0), (8, zI e.kind), (9, zB (decide (KnownP e.kind))), (10, zB (!(decide (KnownP e.kind)))), (12, .agg [zI e.kind, .str e.id, zI e.sig, zI e.n]), (13, .tuple [.list true 9 ((flE e).map AV.str), encE (restE e), zB (okE e)]), (11, .tuple [.list false 9 ((flE e).map AV.str), encE (restE e), zB (okE e)]), (14, .list false 9 ((flE e).map AV.str)), (15, encE (restE e)), (16, zB (okE e)), (5, .lptr 5 0), (4, .list false 9 ((flE e).map AV.str)), (6, zB true), (18, .lptr 1 0), (23, .list false 9 ((flE e).map AV.str)), (25, zB true), (19, zI e.kind), (17, .list true 9 (kwL.map AV.str)), (20, .eptr (.str (kwL.getD e.kind.toNat [])) 0), (21, .str (kwL.getD e.kind.toNat [])), (22, .list false 9 [.str (kwL.getD e.kind.toNat [])]), (24, .list false 9 ([.str (kwL.getD e.kind.toNat [])] ++ ((flE e).map AV.str))), (26, zB true), (28, .lptr 1 0), (27, .agg [zI ((restE e).kind), .str ((restE e).id), zI ((restE e).sig), zI ((restE e).n)])], [(1, [zI e.kind, .str e.id, zI e.sig, zI e.n]), (5, [zI ((restE e).kind), .str ((restE e).id), zI ((restE e).sig), zI ((restE e).n)])], M⟩) ?_ (fun sh3 => ?_)
        · skip
          refine zq [12] ⟨⟨_, rfl, ?_⟩, trivial⟩
          · skip
            refine zr (zlL (zI e.kind) Tryd.underlying3 sizeOf_3) ?_
            refine zN ?_
            refine zk 13 rfl (PReader.build (xs := [(0, zI e.kind)]) (Es := []) (places := places_34) rfl Tryd.underlying34 (by refine ⟨rfl, fun j p x hp hx => ?_⟩; match j, hp, hx with | 0, hp, hx => cases hp; cases hx; exact ⟨rfl, .inl ⟨rfl, rfl⟩, rfl, rfl⟩ | _ + 1, hp, hx => cases hp) zero_34 rfl places_34_ok (cs := [zI e.kind, .str [], zI 0, zI 0]) rfl) ?_
            exact SAny.same [0, 1, 2, 3, 7, 8, 9, 10, 12, 13, 11, 14, 15, 16, 5, 4, 6, 18, 23, 25, 19, 17, 20, 21, 22, 24, 26, 28, 29, 30, 27] [1, 5] sh0 (by kernel_rfl) rfl
        refine SAny.share 12 #[true, true, true, true, false, false, true, false, true, false, false, false, false, false, false, false, false, false] (⟨[(0, encE e), (1, .lptr 1 0), (2, .list true 9 []), (3, zB false), (7, .lptr 1 0), (8, zI e.kind), (9, zB (decide (KnownP e.kind))), (10, zB (!(decide (KnownP e.kind)))), (12, .agg [zI e.kind, .str e.id, zI e.sig, zI e.n]), (13, .tuple [.list true 9 ((flE e).map AV.str), encE (restE e), zB (okE e)]), (11, .tuple [.list false 9 ((flE e).map AV.str), encE (restE e), zB (okE e)]), (14, .list false 9 ((flE e).map AV.str)), (15, encE (restE e)), (16, zB (okE e)), (5, .lptr 5 0), (4, .list false 9 ((flE e).map AV.str)), (6, zB true), (18, .lptr 1 0), (23, .list false 9 ((flE e).map AV.str)), (25, zB true), (19, zI e.kind), (17, .list true 9 (kwL.map AV.str)), (20, .eptr (.str (kwL.getD e.kind.toNat [])) 0)], [(1, [zI e.kind, .str e.id, zI e.sig, zI e.n]), (5, [zI ((restE e).kind), .str ((restE e).id), zI ((restE e).sig), zI ((restE e).n)])], M⟩) ?_ (fun sh4 => ?_)
        · skip
          refine zq [4] ⟨⟨_, rfl, ?_⟩, trivial⟩
          · skip
            refine zr (zlE (.str (kwL.getD e.kind.toNat [])) Tryd.underlying9 sizeOf_9) ?_
            refine zN ?_
            refine zq [5] ⟨⟨_, rfl, ?_⟩, trivial⟩
            · skip
              refine zbS [] [.str (kwL.getD e.kind.toNat [])] Tryd.underlying23 Tryd.i9 ?_
              refine zN ?_
              refine zq [7] ⟨⟨_, rfl, ?_⟩, trivial⟩
              · skip
                refine zap (m1 := 1) (m2 := ((flE e).length)) 16 [.str (kwL.getD e.kind.toNat [])] ((flE e).map AV.str) ([.str (kwL.getD e.kind.toNat [])] ++ ((flE e).map AV.str)) Tryd.underlying23 Tryd.underlying23 Tryd.i9 rfl (by simp) rfl ?_
                refine zN ?_
                refine zkm 9 (zB true) ?_
                refine zk 11 rfl (PReader.fieldL rfl ⟨_, _, Tryd.underlying34, rfl, rfl, rfl, sizeOf_3⟩ (by decide) rfl) ?_
                refine zq [10, 12, 16] ⟨⟨_, rfl, ?_⟩, ⟨_, rfl, ?_⟩, ⟨_, rfl, ?_⟩, trivial⟩
                · skip
                  refine zr (zlL (.agg [zI ((restE e).kind), .str ((restE e).id), zI ((restE e).sig), zI ((restE e).n)]) Tryd.underlying34 sizeOf_34) ?_
                  refine zN ?_
                  refine zq [12, 16] ⟨⟨_, rfl, ?_⟩, ⟨_, rfl, ?_⟩, trivial⟩
                  · skip
                    refine zr (zlL (zI e.kind) Tryd.underlying3 sizeOf_3) ?_
                    refine zN ?_
                    refine zk 13 rfl (PReader.build (xs := [(0, zI e.kind)]) (Es := []) (places := places_34) rfl Tryd.underlying34 (by refine ⟨rfl, fun j p x hp hx => ?_⟩; match j, hp, hx with | 0, hp, hx => cases hp; cases hx; exact ⟨rfl, .inl ⟨rfl, rfl⟩, rfl, rfl⟩ | _ + 1, hp, hx => cases hp) zero_34 rfl places_34_ok (cs := [zI e.kind, .str [], zI 0, zI 0]) rfl) ?_
                    exact SAny.same [0, 1, 2, 3, 7, 8, 9, 10, 12, 13, 11, 14, 15, 16, 5, 4, 6, 18, 23, 25, 19, 17, 20, 21, 22, 24, 26, 28, 29, 30, 27] [1, 5] sh2 (by kernel_rfl) rfl
                  · skip
                    refine zT (v := .list true 9 ([.str (kwL.getD e.kind.toNat [])] ++ ((flE e).map AV.str))) rfl ?_
                    refine zN ?_
                    exact SAny.same [0, 1, 2, 3, 7, 8, 9, 10, 12, 13, 11, 14, 15, 16, 5, 4, 6, 18, 23, 25, 19, 17, 20, 21, 22, 24, 26, 28, 27] [1, 5] sh3 (by kernel_rfl) rfl
                · skip
                  refine zr (zlL (zI e.kind) Tryd.underlying3 sizeOf_3) ?_
                  refine zN ?_
                  refine zk 13 rfl (PReader.build (xs := [(0, zI e.kind)]) (Es := []) (places := places_34) rfl Tryd.underlying34 (by refine ⟨rfl, fun j p x hp hx => ?_⟩; match j, hp, hx with | 0, hp, hx => cases hp; cases hx; exact ⟨rfl, .inl ⟨rfl, rfl⟩, rfl, rfl⟩ | _ + 1, hp, hx => cases hp) zero_34 rfl places_34_ok (cs := [zI e.kind, .str [], zI 0, zI 0]) rfl) ?_
                  refine zq [10, 16] ⟨⟨_, rfl, ?_⟩, ⟨_, rfl, ?_⟩, trivial⟩
                  · skip
                    refine zr (zlL (.agg [zI ((restE e).kind), .str ((restE e).id), zI ((restE e).sig), zI ((restE e).n)]) Tryd.underlying34 sizeOf_34) ?_
                    refine zN ?_
                    exact SAny.same [0, 1, 2, 3, 7, 8, 9, 10, 12, 13, 11, 14, 15, 16, 5, 4, 6, 18, 23, 25, 19, 17, 20, 21, 22, 24, 26, 28, 29, 30, 27] [1, 5] sh2 (by kernel_rfl) rfl
                  · skip
                    refine zT (v := .list true 9 ([.str (kwL.getD e.kind.toNat [])] ++ ((flE e).map AV.str))) rfl ?_
                    refine zN ?_
                    exact SAny.same [0, 1, 2, 3, 7, 8, 9, 10, 12, 13, 11, 14, 15, 16, 5, 4, 6, 18, 23, 25, 19, 17, 20, 21, 22, 24, 26, 28, 29, 30] [1, 5] sh1 (by kernel_rfl) rfl
                · skip
                  refine zT (v := .list true 9 ([.str (kwL.getD e.kind.toNat [])] ++ ((flE e).map AV.str))) rfl ?_
                  refine zN ?_
                  refine zq [10, 12] ⟨⟨_, rfl, ?_⟩, ⟨_, rfl, ?_⟩, trivial⟩
                  · skip
                    refine zr (zlL (.agg [zI ((restE e).kind), .str ((restE e).id), zI ((restE e).sig), zI ((restE e).n)]) Tryd.underlying34 sizeOf_34) ?_
                    refine zN ?_
                    exact SAny.same [0, 1, 2, 3, 7, 8, 9, 10, 12, 13, 11, 14, 15, 16, 5, 4, 6, 18, 23, 25, 19, 17, 20, 21, 22, 24, 26, 28, 27] [1, 5] sh3 (by kernel_rfl) rfl
                  · skip
                    refine zr (zlL (zI e.kind) Tryd.underlying3 sizeOf_3) ?_
                    refine zN ?_
                    refine zk 13 rfl (PReader.build (xs := [(0, zI e.kind)]) (Es := []) (places := places_34) rfl Tryd.underlying34 (by refine ⟨rfl, fun j p x hp hx => ?_⟩; match j, hp, hx with | 0, hp, hx => cases hp; cases hx; exact ⟨rfl, .inl ⟨rfl, rfl⟩, rfl, rfl⟩ | _ + 1, hp, hx => cases hp) zero_34 rfl places_34_ok (cs := [zI e.kind, .str [], zI 0, zI 0]) rfl) ?_
                    exact SAny.same [0, 1, 2, 3, 7, 8, 9, 10, 12, 13, 11, 14, 15, 16, 5, 4, 6, 18, 23, 25, 19, 17, 20, 21, 22, 24, 26, 28, 29, 30] [1, 5] sh1 (by kernel_rfl) rfl
        refine zk 1 rfl (PReader.fieldL rfl ⟨_, _, Tryd.underlying34, rfl, rfl, rfl, sizeOf_3⟩ (by decide) rfl) ?_
        refine zkm 6 (.list false 9 ((flE e).map AV.str)) ?_
        refine zkm 8 (zB true) ?_
        refine zq [0, 2] ⟨⟨_, rfl, ?_⟩, ⟨_, rfl, ?_⟩, trivial⟩
        · skip
          refine zc [] Tryd.call56 (lwords_any M) ?_
          rintro _ _ ⟨rfl, rfl⟩
          refine zN ?_
          refine zq [2] ⟨⟨_, rfl, ?_⟩, trivial⟩
          · skip
            refine zr (zlL (zI e.kind) Tryd.underlying3 sizeOf_3) ?_
            refine zN ?_
            refine zk 3 rfl (PReader.elemAddr (m := e.kind.toNat) rfl Tryd.underlying23 sizeOf_9 rfl rfl (by omega) (e := .str (kwL.getD e.kind.toNat [])) (strs_at (by first | omega | (show _ < 17; omega)))) ?_
            exact SAny.same [0, 1, 2, 3, 7, 8, 9, 10, 12, 13, 11, 14, 15, 16, 5, 4, 6, 18, 23, 25, 19, 17, 20] [1, 5] sh4 (by kernel_rfl) rfl
        · skip
          refine zr (zlL (zI e.kind) Tryd.underlying3 sizeOf_3) ?_
          refine zN ?_
          refine zq [0] ⟨⟨_, rfl, ?_⟩, trivial⟩
          · skip
            refine zc [] Tryd.call56 (lwords_any M) ?_
            rintro _ _ ⟨rfl, rfl⟩
            refine zN ?_
            refine zk 3 rfl (PReader.elemAddr (m := e.kind.toNat) rfl Tryd.underlying23 sizeOf_9 rfl rfl (by omega) (e := .str (kwL.getD e.kind.toNat [])) (strs_at (by first | omega | (show _ < 17; omega)))) ?_
            exact SAny.same [0, 1, 2, 3, 7, 8, 9, 10, 12, 13, 11, 14, 15, 16, 5, 4, 6, 18, 23, 25, 19, 17, 20] [1, 5] sh4 (by kernel_rfl) rfl
      refine AWp.ret ?_
      exact ⟨.inl rfl, _, ResOf.two 2 3 (.list true 9 ([.str (kwL.getD e.kind.toNat [])] ++ ((flE e).map AV.str))) (zB ((((restE e).kind) == e.kind) && ((((restE e).id) == ([] : List UInt8)) && ((((restE e).sig) == 0) && ((((restE e).n) == 0) && true))))) rfl rfl (.inr ⟨_, _, rfl⟩) (.inl rfl) (by decide), ⟨by rw [told_yes ⟨h1, h2⟩, ← told_t h1 h2 (by assumption)]; rfl, rfl⟩⟩
    · skip
      have h2' : okE e = false := h2
      clear h2
      refine AWp.seq (AWp.anyR [0, 1, 2, 3, 10, 5, 4, 6] [1, 5] (⟨[(0, encE e), (1, .lptr 1 0), (2, .list true 9 ([.str (kwL.getD e.kind.toNat [])] ++ ((flE e).map AV.str))), (3, zB false), (10, zB (!(decide (KnownP e.kind)))), (5, .lptr 5 0), (4, .list false 9 ((flE e).map AV.str)), (6, zB false)], [(1, [zI e.kind, .str e.id, zI e.sig, zI e.n]), (5, [zI ((restE e).kind), .str ((restE e).id), zI ((restE e).sig), zI ((restE e).n)])], M⟩) (by kernel_rfl) ?_ ?_)
      · skip
        skip
        refine SAny.share 3 #[true, true, true, true, true, true, true, true, true, true, true, true, true, true, false, false, true, false] (⟨[(0, encE e), (1, .lptr 1 0), (2, .list true 9 ([.str (kwL.getD e.kind.toNat [])] ++ ((flE e).map AV.str))), (3, zB false), (7, .lptr 1 0), (8, zI e.kind), (9, zB (decide (KnownP e.kind))), (10, zB (!(decide (KnownP e.kind)))), (12, .agg [zI e.kind, .str e.id, zI e.sig, zI e.n]), (13, .tuple [.list true 9 ((flE e).map AV.str), encE (restE e), zB (okE e)]), (11, .tuple [.list false 9 ((flE e).map AV.str), encE (restE e), zB (okE e)]), (14, .list false 9 ((flE e).map AV.str)), (15, encE (restE e)), (16, zB (okE e)), (5, .lptr 5 0), (4, .list false 9 ((flE e).map AV.str)), (6, zB false), (18, .lptr 1 0), (23, .list false 9 ((flE e).map AV.str)), (25, zB false), (19, zI e.kind), (17, .list true 9 (kwL.map AV.str)), (20, .eptr (.str (kwL.getD e.kind.toNat [])) 0), (21, .str (kwL.getD e.kind.toNat [])), (22, .list false 9 [.str (kwL.getD e.kind.toNat [])]), (24, .list false 9 ([.str (kwL.getD e.kind.toNat [])] ++ ((flE e).map AV.str))), (26, zB false), (28, .lit undef), (29, .lit undef), (30, .lit undef), (27, .lit undef)], [(1, [zI e.kind, .str e.id, zI e.sig, zI e.n]), (5, [zI ((restE e).kind), .str ((restE e).id), zI ((restE e).sig), zI ((restE e).n)])], M⟩) ?_ (fun sh0 => ?_)
        · skip
          refine zq [14] ⟨⟨_, rfl, ?_⟩, trivial⟩
          · skip
            refine zs ?_
            refine zN ?_
            refine zk 15 rfl (PReader.pick rfl (b := false) rfl (ok_const rfl) (ok_const rfl) (v := zB false) rfl) ?_
            refine zkm 17 (zB false) ?_
            exact SAny.done (by kernel_rfl) rfl
        refine SAny.share 4 #[true, true, true, true, true, true, true, true, true, true, true, true, true, false, false, false, true, false] (⟨[(0, encE e), (1, .lptr 1 0), (2, .list true 9 ([.str (kwL.getD e.kind.toNat [])] ++ ((flE e).map AV.str))), (3, zB false), (7, .lptr 1 0), (8, zI e.kind), (9, zB (decide (KnownP e.kind))), (10, zB (!(decide (KnownP e.kind)))), (12, .agg [zI e.kind, .str e.id, zI e.sig, zI e.n]), (13, .tuple [.list true 9 ((flE e).map AV.str), encE (restE e), zB (okE e)]), (11, .tuple [.list false 9 ((flE e).map AV.str), encE (restE e), zB (okE e)]), (14, .list false 9 ((flE e).map AV.str)), (15, encE (restE e)), (16, zB (okE e)), (5, .lptr 5 0), (4, .list false 9 ((flE e).map AV.str)), (6, zB false), (18, .lptr 1 0), (23, .list false 9 ((flE e).map AV.str)), (25, zB false), (19, zI e.kind), (17, .list true 9 (kwL.map AV.str)), (20, .eptr (.str (kwL.getD e.kind.toNat [])) 0), (21, .str (kwL.getD e.kind.toNat [])), (22, .list false 9 [.str (kwL.getD e.kind.toNat [])]), (24, .list false 9 ([.str (kwL.getD e.kind.toNat [])] ++ ((flE e).map AV.str))), (26, zB false), (28, .lit undef), (29, .lit undef), (27, .lit undef)], [(1, [zI e.kind, .str e.id, zI e.sig, zI e.n]), (5, [zI ((restE e).kind), .str ((restE e).id), zI ((restE e).sig), zI ((restE e).n)])], M⟩) ?_ (fun sh1 => ?_)
        · skip
          refine zq [13] ⟨⟨_, rfl, ?_⟩, trivial⟩
          · skip
            refine zs ?_
            refine zN ?_
            exact SAny.same [0, 1, 2, 3, 7, 8, 9, 10, 12, 13, 11, 14, 15, 16, 5, 4, 6, 18, 23, 25, 19, 17, 20, 21, 22, 24, 26, 28, 29, 30, 27] [1, 5] sh0 (by kernel_rfl) rfl
        refine SAny.share 4 #[true, true, true, true, true, true, true, true, true, true, false, true, true, true, false, false, true, false] (⟨[(0, encE e), (1, .lptr 1 0), (2, .list true 9 ([.str (kwL.getD e.kind.toNat [])] ++ ((flE e).map AV.str))), (3, zB false), (7, .lptr 1 0), (8, zI e.kind), (9, zB (decide (KnownP e.kind))), (10, zB (!(decide (KnownP e.kind)))), (12, .agg [zI e.kind, .str e.id, zI e.sig, zI e.n]), (13, .tuple [.list true 9 ((flE e).map AV.str), encE (restE e), zB (okE e)]), (11, .tuple [.list false 9 ((flE e).map AV.str), encE (restE e), zB (okE e)]), (14, .list false 9 ((flE e).map AV.str)), (15, encE (restE e)), (16, zB (okE e)), (5, .lptr 5 0), (4, .list false 9 ((flE e).map AV.str)), (6, zB false), (18, .lptr 1 0), (23, .list false 9 ((flE e).map AV.str)), (25, zB false), (19, zI e.kind), (17, .list true 9 (kwL.map AV.str)), (20, .eptr (.str (kwL.getD e.kind.toNat [])) 0), (21, .str (kwL.getD e.kind.toNat [])), (22, .list false 9 [.str (kwL.getD e.kind.toNat [])]), (24, .list false 9 ([.str (kwL.getD e.kind.toNat [])] ++ ((flE e).map AV.str))), (26, zB false), (28, .lit undef), (29, .lit undef), (30, .lit undef)], [(1, [zI e.kind, .str e.id, zI e.sig, zI e.n]), (5, [zI ((restE e).kind), .str ((restE e).id), zI ((restE e).sig), zI ((restE e).n)])], M⟩) ?_ (fun sh2 => ?_)
        · skip
          refine zq [10] ⟨⟨_, rfl, ?_⟩, trivial⟩
          · skip
            refine zs ?_
            refine zN ?_
            exact SAny.same [0, 1, 2, 3, 7, 8, 9, 10, 12, 13, 11, 14, 15, 16, 5, 4, 6, 18, 23, 25, 19, 17, 20, 21, 22, 24, 26, 28, 29, 30, 27] [1, 5] sh0 (by kernel_rfl) rfl
        refine SAny.share 4 #[true, true, true, true, true, true, true, true, true, true, true, true, true, true, false, false, false, false] (⟨[(0, encE e), (1, .lptr 1 0), (2, .list true 9 []), (3, zB false), (7, .lptr 1 0), (8, zI e.kind), (9, zB (decide (KnownP e.kind))), (10, zB (!(decide (KnownP e.kind)))), (12, .agg [zI e.kind, .str e.id, zI e.sig, zI e.n]), (13, .tuple [.list true 9 ((flE e).map AV.str), encE (restE e), zB (okE e)]), (11, .tuple [.list false 9 ((flE e).map AV.str), encE (restE e), zB (okE e)]), (14, .list false 9 ((flE e).map AV.str)), (15, encE (restE e)), (16, zB (okE e)), (5, .lptr 5 0), (4, .list false 9 ((flE e).map AV.str)), (6, zB false), (18, .lptr 1 0), (23, .list false 9 ((flE e).map AV.str)), (25, zB false), (19, zI e.kind), (17, .list true 9 (kwL.map AV.str)), (20, .eptr (.str (kwL.getD e.kind.toNat [])) 0), (21, .str (kwL.getD e.kind.toNat [])), (22, .list false 9 [.str (kwL.getD e.kind.toNat [])]), (24, .list true 9 ([.str (kwL.getD e.kind.toNat [])] ++ ((flE e).map AV.str))), (26, zB false), (28, .lit undef), (29, .lit undef), (30, .lit undef), (27, .lit undef)], [(1, [zI e.kind, .str e.id, zI e.sig, zI e.n]), (5, [zI ((restE e).kind), .str ((restE e).id), zI ((restE e).sig), zI ((restE e).n)])], M⟩) ?_ (fun sh3 => ?_)
        · skip
          refine zq [14, 16] ⟨⟨_, rfl, ?_⟩, ⟨_, rfl, ?_⟩, trivial⟩
          · skip
            refine zs ?_
            refine zN ?_
            refine zk 15 rfl (PReader.pick rfl (b := false) rfl (ok_const rfl) (ok_const rfl) (v := zB false) rfl) ?_
            refine zq [16] ⟨⟨_, rfl, ?_⟩, trivial⟩
            · skip
              refine zT (v := .list true 9 ([.str (kwL.getD e.kind.toNat [])] ++ ((flE e).map AV.str))) rfl ?_
              refine zN ?_
              refine zkm 17 (zB false) ?_
              exact SAny.done (by kernel_rfl) rfl
          · skip
            refine zT (v := .list true 9 ([.str (kwL.getD e.kind.toNat [])] ++ ((flE e).map AV.str))) rfl ?_
            refine zN ?_
            exact SAny.same [0, 1, 2, 3, 7, 8, 9, 10, 12, 13, 11, 14, 15, 16, 5, 4, 6, 18, 23, 25, 19, 17, 20, 21, 22, 24, 26, 28, 29, 30, 27] [1, 5] sh0 (by kernel_rfl) rfl
        refine SAny.share 5 #[true, true, true, true, true, true, true, true, true, true, true, true, false, false, false, false, true, false] (⟨[(0, encE e), (1, .lptr 1 0), (2, .list true 9 ([.str (kwL.getD e.kind.toNat [])] ++ ((flE e).map AV.str))), (3, zB false), (7, .lptr 1 0), (8, zI e.kind), (9, zB (decide (KnownP e.kind))), (10, zB (!(decide (KnownP e.kind)))), (12, .agg [zI e.kind, .str e.id, zI e.sig, zI e.n]), (13, .tuple [.list true 9 ((flE e).map AV.str), encE (restE e), zB (okE e)]), (11, .tuple [.list false 9 ((flE e).map AV.str), encE (restE e), zB (okE e)]), (14, .list false 9 ((flE e).map AV.str)), (15, encE (restE e)), (16, zB (okE e)), (5, .lptr 5 0), (4, .list false 9 ((flE e).map AV.str)), (6, zB false), (18, .lptr 1 0), (23, .list false 9 ((flE e).map AV.str)), (25, zB false), (19, zI e.kind), (17, .list true 9 (kwL.map AV.str)), (20, .eptr (.str (kwL.getD e.kind.toNat [])) 0), (21, .str (kwL.getD e.kind.toNat [])), (22, .list false 9 [.str (kwL.getD e.kind.toNat [])]), (24, .list false 9 ([.str (kwL.getD e.kind.toNat [])] ++ ((flE e).map AV.str))), (26, zB false), (28, .lit undef), (27, .lit undef)], [(1, [zI e.kind, .str e.id, zI e.sig, zI e.n]), (5, [zI ((restE e).kind), .str ((restE e).id), zI ((restE e).sig), zI ((restE e).n)])], M⟩) ?_ (fun sh4 => ?_)
        · skip
          refine zq [12] ⟨⟨_, rfl, ?_⟩, trivial⟩
          · skip
            refine zs ?_
            refine zN ?_
            exact SAny.same [0, 1, 2, 3, 7, 8, 9, 10, 12, 13, 11, 14, 15, 16, 5, 4, 6, 18, 23, 25, 19, 17, 20, 21, 22, 24, 26, 28, 29, 27] [1, 5] sh1 (by kernel_rfl) rfl
        refine SAny.share 5 #[true, true, true, true, true, true, true, true, true, true, false, true, true, false, false, false, true, false] (⟨[(0, encE e), (1, .lptr 1 0), (2, .list true 9 ([.str (kwL.getD e.kind.toNat [])] ++ ((flE e).map AV.str))), (3, zB false), (7, .lptr 1 0), (8, zI e.kind), (9, zB (decide (KnownP e.kind))), (10, zB (!(decide (KnownP e.kind)))), (12, .agg [zI e.kind, .str e.id, zI e.sig, zI e.n]), (13, .tuple [.list true 9 ((flE e).map AV.str), encE (restE e), zB (okE e)]), (11, .tuple [.list false 9 ((flE e).map AV.str), encE (restE e), zB (okE e)]), (14, .list false 9 ((flE e).map AV.str)), (15, encE (restE e)), (16, zB (okE e)), (5, .lptr 5 0), (4, .list false 9 ((flE e).map AV.str)), (6, zB false), (18, .lptr 1 0), (23, .list false 9 ((flE e).map AV.str)), (25, zB false), (19, zI e.kind), (17, .list true 9 (kwL.map AV.str)), (20, .eptr (.str (kwL.getD e.kind.toNat [])) 0), (21, .str (kwL.getD e.kind.toNat [])), (22, .list false 9 [.str (kwL.getD e.kind.toNat [])]), (24, .list false 9 ([.str (kwL.getD e.kind.toNat [])] ++ ((flE e).map AV.str))), (26, zB false), (28, .lit undef), (29, .lit undef)], [(1, [zI e.kind, .str e.id, zI e.sig, zI e.n]), (5, [zI ((restE e).kind), .str ((restE e).id), zI ((restE e).sig), zI ((restE e).n)])], M⟩) ?_ (fun sh5 => ?_)
        · skip
          refine zq [10, 13] ⟨⟨_, rfl, ?_⟩, ⟨_, rfl, ?_⟩, trivial⟩
          · skip
            refine zs ?_
            refine zN ?_
            exact SAny.same [0, 1, 2, 3, 7, 8, 9, 10, 12, 13, 11, 14, 15, 16, 5, 4, 6, 18, 23, 25, 19, 17, 20, 21, 22, 24, 26, 28, 29, 27] [1, 5] sh1 (by kernel_rfl) rfl
          · skip
            refine zs ?_
            refine zN ?_
            exact SAny.same [0, 1, 2, 3, 7, 8, 9, 10, 12, 13, 11, 14, 15, 16, 5, 4, 6, 18, 23, 25, 19, 17, 20, 21, 22, 24, 26, 28, 29, 30] [1, 5] sh2 (by kernel_rfl) rfl
        refine SAny.share 5 #[true, true, true, true, true, true, true, true, true, true, true, true, true, false, false, false, false, false] (⟨[(0, encE e), (1, .lptr 1 0), (2, .list true 9 []), (3, zB false), (7, .lptr 1 0), (8, zI e.kind), (9, zB (decide (KnownP e.kind))), (10, zB (!(decide (KnownP e.kind)))), (12, .agg [zI e.kind, .str e.id, zI e.sig, zI e.n]), (13, .tuple [.list true 9 ((flE e).map AV.str), encE (restE e), zB (okE e)]), (11, .tuple [.list false 9 ((flE e).map AV.str), encE (restE e), zB (okE e)]), (14, .list false 9 ((flE e).map AV.str)), (15, encE (restE e)), (16, zB (okE e)), (5, .lptr 5 0), (4, .list false 9 ((flE e).map AV.str)), (6, zB false), (18, .lptr 1 0), (23, .list false 9 ((flE e).map AV.str)), (25, zB false), (19, zI e.kind), (17, .list true 9 (kwL.map AV.str)), (20, .eptr (.str (kwL.getD e.kind.toNat [])) 0), (21, .str (kwL.getD e.kind.toNat [])), (22, .list false 9 [.str (kwL.getD e.kind.toNat [])]), (24, .list true 9 ([.str (kwL.getD e.kind.toNat [])] ++ ((flE e).map AV.str))), (26, zB false), (28, .lit undef), (29, .lit undef), (27, .lit undef)], [(1, [zI e.kind, .str e.id, zI e.sig, zI e.n]), (5, [zI ((restE e).kind), .str ((restE e).id), zI ((restE e).sig), zI ((restE e).n)])], M⟩) ?_ (fun sh6 => ?_)
        · skip
          refine zq [13, 16] ⟨⟨_, rfl, ?_⟩, ⟨_, rfl, ?_⟩, trivial⟩
          · skip
            refine zs ?_
            refine zN ?_
            exact SAny.same [0, 1, 2, 3, 7, 8, 9, 10, 12, 13, 11, 14, 15, 16, 5, 4, 6, 18, 23, 25, 19, 17, 20, 21, 22, 24, 26, 28, 29, 30, 27] [1, 5] sh3 (by kernel_rfl) rfl
          · skip
            refine zT (v := .list true 9 ([.str (kwL.getD e.kind.toNat [])] ++ ((flE e).map AV.str))) rfl ?_
            refine zN ?_
            exact SAny.same [0, 1, 2, 3, 7, 8, 9, 10, 12, 13, 11, 14, 15, 16, 5, 4, 6, 18, 23, 25, 19, 17, 20, 21, 22, 24, 26, 28, 29, 27] [1, 5] sh1 (by kernel_rfl) rfl
        refine SAny.share 6 #[true, true, true, true, true, true, true, true, true, true, true, false, false, false, false, false, true, false] (⟨[(0, encE e), (1, .lptr 1 0), (2, .list true 9 ([.str (kwL.getD e.kind.toNat [])] ++ ((flE e).map AV.str))), (3, zB false), (7, .lptr 1 0), (8, zI e.kind), (9, zB (decide (KnownP e.kind))), (10, zB (!(decide (KnownP e.kind)))), (12, .agg [zI e.kind, .str e.id, zI e.sig, zI e.n]), (13, .tuple [.list true 9 ((flE e).map AV.str), encE (restE e), zB (okE e)]), (11, .tuple [.list false 9 ((flE e).map AV.str), encE (restE e), zB (okE e)]), (14, .list false 9 ((flE e).map AV.str)), (15, encE (restE e)), (16, zB (okE e)), (5, .lptr 5 0), (4, .list false 9 ((flE e).map AV.str)), (6, zB false), (18, .lptr 1 0), (23, .list false 9 ((flE e).map AV.str)), (25, zB false), (19, zI e.kind), (17, .list true 9 (kwL.map AV.str)), (20, .eptr (.str (kwL.getD e.kind.toNat [])) 0), (21, .str (kwL.getD e.kind.toNat [])), (22, .list false 9 [.str (kwL.getD e.kind.toNat [])]), (24, .list false 9 ([.str (kwL.getD e.kind.toNat [])] ++ ((flE e).map AV.str))), (26, zB false), (27, .lit undef)], [(1, [zI e.kind, .str e.id, zI e.sig, zI e.n]), (5, [zI ((restE e).kind), .str ((restE e).id), zI ((restE e).sig), zI ((restE e).n)])], M⟩) ?_ (fun sh7 => ?_)
        · skip
          refine zq [11] ⟨⟨_, rfl, ?_⟩, trivial⟩
          · skip
            refine zs ?_
            refine zN ?_
            exact SAny.same [0, 1, 2, 3, 7, 8, 9, 10, 12, 13, 11, 14, 15, 16, 5, 4, 6, 18, 23, 25, 19, 17, 20, 21, 22, 24, 26, 28, 27] [1, 5] sh4 (by kernel_rfl) rfl
        refine SAny.share 6 #[true, true, true, true, true, true, true, true, true, true, false, true, false, false, false, false, true, false] (⟨[(0, encE e), (1, .lptr 1 0), (2, .list true 9 ([.str (kwL.getD e.kind.toNat [])] ++ ((flE e).map AV.str))), (3, zB false), (7, .lptr 1 0), (8, zI e.kind), (9, zB (decide (KnownP e.kind))), (10, zB (!(decide (KnownP e.kind)))), (12, .agg [zI e.kind, .str e.id, zI e.sig, zI e.n]), (13, .tuple [.list true 9 ((flE e).map AV.str), encE (restE e), zB (okE e)]), (11, .tuple [.list false 9 ((flE e).map AV.str), encE (restE e), zB (okE e)]), (14, .list false 9 ((flE e).map AV.str)), (15, encE (restE e)), (16, zB (okE e)), (5, .lptr 5 0), (4, .list false 9 ((flE e).map AV.str)), (6, zB false), (18, .lptr 1 0), (23, .list false 9 ((flE e).map AV.str)), (25, zB false), (19, zI e.kind), (17, .list true 9 (kwL.map AV.str)), (20, .eptr (.str (kwL.getD e.kind.toNat [])) 0), (21, .str (kwL.getD e.kind.toNat [])), (22, .list false 9 [.str (kwL.getD e.kind.toNat [])]), (24, .list false 9 ([.str (kwL.getD e.kind.toNat [])] ++ ((flE e).map AV.str))), (26, zB false), (28, .lit undef)], [(1, [zI e.kind, .str e.id, zI e.sig, zI e.n]), (5, [zI ((restE e).kind), .str ((restE e).id), zI ((restE e).sig), zI ((restE e).n)])], M⟩) ?_ (fun sh8 => ?_)
        · skip
          refine zq [10, 12] ⟨⟨_, rfl, ?_⟩, ⟨_, rfl, ?_⟩, trivial⟩
          · skip
            refine zs ?_
            refine zN ?_
            exact SAny.same [0, 1, 2, 3, 7, 8, 9, 10, 12, 13, 11, 14, 15, 16, 5, 4, 6, 18, 23, 25, 19, 17, 20, 21, 22, 24, 26, 28, 27] [1, 5] sh4 (by kernel_rfl) rfl
          · skip
            refine zs ?_
            refine zN ?_
            exact SAny.same [0, 1, 2, 3, 7, 8, 9, 10, 12, 13, 11, 14, 15, 16, 5, 4, 6, 18, 23, 25, 19, 17, 20, 21, 22, 24, 26, 28, 29] [1, 5] sh5 (by kernel_rfl) rfl
        refine SAny.share 6 #[true, true, true, true, true, true, true, true, true, true, true, true, false, false, false, false, false, false] (⟨[(0, encE e), (1, .lptr 1 0), (2, .list true 9 []), (3, zB false), (7, .lptr 1 0), (8, zI e.kind), (9, zB (decide (KnownP e.kind))), (10, zB (!(decide (KnownP e.kind)))), (12, .agg [zI e.kind, .str e.id, zI e.sig, zI e.n]), (13, .tuple [.list true 9 ((flE e).map AV.str), encE (restE e), zB (okE e)]), (11, .tuple [.list false 9 ((flE e).map AV.str), encE (restE e), zB (okE e)]), (14, .list false 9 ((flE e).map AV.str)), (15, encE (restE e)), (16, zB (okE e)), (5, .lptr 5 0), (4, .list false 9 ((flE e).map AV.str)), (6, zB false), (18, .lptr 1 0), (23, .list false 9 ((flE e).map AV.str)), (25, zB false), (19, zI e.kind), (17, .list true 9 (kwL.map AV.str)), (20, .eptr (.str (kwL.getD e.kind.toNat [])) 0), (21, .str (kwL.getD e.kind.toNat [])), (22, .list false 9 [.str (kwL.getD e.kind.toNat [])]), (24, .list true 9 ([.str (kwL.getD e.kind.toNat [])] ++ ((flE e).map AV.str))), (26, zB false), (28, .lit undef), (27, .lit undef)], [(1, [zI e.kind, .str e.id, zI e.sig, zI e.n]), (5, [zI ((restE e).kind), .str ((restE e).id), zI ((restE e).sig), zI ((restE e).n)])], M⟩) ?_ (fun sh9 => ?_)
        · skip
          refine zq [12, 16] ⟨⟨_, rfl, ?_⟩, ⟨_, rfl, ?_⟩, trivial⟩
          · skip
            refine zs ?_
            refine zN ?_
            exact SAny.same [0, 1, 2, 3, 7, 8, 9, 10, 12, 13, 11, 14, 15, 16, 5, 4, 6, 18, 23, 25, 19, 17, 20, 21, 22, 24, 26, 28, 29, 27] [1, 5] sh6 (by kernel_rfl) rfl
          · skip
            refine zT (v := .list true 9 ([.str (kwL.getD e.kind.toNat [])] ++ ((flE e).map AV.str))) rfl ?_
            refine zN ?_
            exact SAny.same [0, 1, 2, 3, 7, 8, 9, 10, 12, 13, 11, 14, 15, 16, 5, 4, 6, 18, 23, 25, 19, 17, 20, 21, 22, 24, 26, 28, 27] [1, 5] sh4 (by kernel_rfl) rfl
        refine SAny.share 12 #[true, true, true, true, false, false, true, false, true, false, false, false, false, false, false, false, false, false] (⟨[(0, encE e), (1, .lptr 1 0), (2, .list true 9 []), (3, zB false), (7, .lptr 1 0), (8, zI e.kind), (9, zB (decide (KnownP e.kind))), (10, zB (!(decide (KnownP e.kind)))), (12, .agg [zI e.kind, .str e.id, zI e.sig, zI e.n]), (13, .tuple [.list true 9 ((flE e).map AV.str), encE (restE e), zB (okE e)]), (11, .tuple [.list false 9 ((flE e).map AV.str), encE (restE e), zB (okE e)]), (14, .list false 9 ((flE e).map AV.str)), (15, encE (restE e)), (16, zB (okE e)), (5, .lptr 5 0), (4, .list false 9 ((flE e).map AV.str)), (6, zB false), (18, .lptr 1 0), (23, .list false 9 ((flE e).map AV.str)), (25, zB false), (19, zI e.kind), (17, .list true 9 (kwL.map AV.str)), (20, .eptr (.str (kwL.getD e.kind.toNat [])) 0)], [(1, [zI e.kind, .str e.id, zI e.sig, zI e.n]), (5, [zI ((restE e).kind), .str ((restE e).id), zI ((restE e).sig), zI ((restE e).n)])], M⟩) ?_ (fun sh10 => ?_)
        · skip
          refine zq [4] ⟨⟨_, rfl, ?_⟩, trivial⟩
          · skip
            refine zr (zlE (.str (kwL.getD e.kind.toNat [])) Tryd.underlying9 sizeOf_9) ?_
            refine zN ?_
            refine zq [5] ⟨⟨_, rfl, ?_⟩, trivial⟩
            · skip
              refine zbS [] [.str (kwL.getD e.kind.toNat [])] Tryd.underlying23 Tryd.i9 ?_
              refine zN ?_
              refine zq [7] ⟨⟨_, rfl, ?_⟩, trivial⟩
              · skip
                refine zap (m1 := 1) (m2 := ((flE e).length)) 16 [.str (kwL.getD e.kind.toNat [])] ((flE e).map AV.str) ([.str (kwL.getD e.kind.toNat [])] ++ ((flE e).map AV.str)) Tryd.underlying23 Tryd.underlying23 Tryd.i9 rfl (by simp) rfl ?_
                refine zN ?_
                refine zkm 9 (zB false) ?_
                refine zq [10, 11, 16] ⟨⟨_, rfl, ?_⟩, ⟨_, rfl, ?_⟩, ⟨_, rfl, ?_⟩, trivial⟩
                · skip
                  refine zs ?_
                  refine zN ?_
                  refine zq [11, 16] ⟨⟨_, rfl, ?_⟩, ⟨_, rfl, ?_⟩, trivial⟩
                  · skip
                    refine zs ?_
                    refine zN ?_
                    exact SAny.same [0, 1, 2, 3, 7, 8, 9, 10, 12, 13, 11, 14, 15, 16, 5, 4, 6, 18, 23, 25, 19, 17, 20, 21, 22, 24, 26, 28, 27] [1, 5] sh9 (by kernel_rfl) rfl
                  · skip
                    refine zT (v := .list true 9 ([.str (kwL.getD e.kind.toNat [])] ++ ((flE e).map AV.str))) rfl ?_
                    refine zN ?_
                    exact SAny.same [0, 1, 2, 3, 7, 8, 9, 10, 12, 13, 11, 14, 15, 16, 5, 4, 6, 18, 23, 25, 19, 17, 20, 21, 22, 24, 26, 27] [1, 5] sh7 (by kernel_rfl) rfl
                · skip
                  refine zs ?_
                  refine zN ?_
                  refine zq [10, 12, 16] ⟨⟨_, rfl, ?_⟩, ⟨_, rfl, ?_⟩, ⟨_, rfl, ?_⟩, trivial⟩
                  · skip
                    refine zs ?_
                    refine zN ?_
                    exact SAny.same [0, 1, 2, 3, 7, 8, 9, 10, 12, 13, 11, 14, 15, 16, 5, 4, 6, 18, 23, 25, 19, 17, 20, 21, 22, 24, 26, 28, 27] [1, 5] sh9 (by kernel_rfl) rfl
                  · skip
                    refine zs ?_
                    refine zN ?_
                    refine zq [10, 13, 16] ⟨⟨_, rfl, ?_⟩, ⟨_, rfl, ?_⟩, ⟨_, rfl, ?_⟩, trivial⟩
                    · skip
                      refine zs ?_
                      refine zN ?_
                      exact SAny.same [0, 1, 2, 3, 7, 8, 9, 10, 12, 13, 11, 14, 15, 16, 5, 4, 6, 18, 23, 25, 19, 17, 20, 21, 22, 24, 26, 28, 29, 27] [1, 5] sh6 (by kernel_rfl) rfl
                    · skip
                      refine zs ?_
                      refine zN ?_
                      refine zq [10, 16] ⟨⟨_, rfl, ?_⟩, ⟨_, rfl, ?_⟩, trivial⟩
                      · skip
                        refine zs ?_
                        refine zN ?_
                        exact SAny.same [0, 1, 2, 3, 7, 8, 9, 10, 12, 13, 11, 14, 15, 16, 5, 4, 6, 18, 23, 25, 19, 17, 20, 21, 22, 24, 26, 28, 29, 30, 27] [1, 5] sh3 (by kernel_rfl) rfl
                      · skip
                        refine zT (v := .list true 9 ([.str (kwL.getD e.kind.toNat [])] ++ ((flE e).map AV.str))) rfl ?_
                        refine zN ?_
                        exact SAny.same [0, 1, 2, 3, 7, 8, 9, 10, 12, 13, 11, 14, 15, 16, 5, 4, 6, 18, 23, 25, 19, 17, 20, 21, 22, 24, 26, 28, 29, 30] [1, 5] sh2 (by kernel_rfl) rfl
                    · skip
                      refine zT (v := .list true 9 ([.str (kwL.getD e.kind.toNat [])] ++ ((flE e).map AV.str))) rfl ?_
                      refine zN ?_
                      exact SAny.same [0, 1, 2, 3, 7, 8, 9, 10, 12, 13, 11, 14, 15, 16, 5, 4, 6, 18, 23, 25, 19, 17, 20, 21, 22, 24, 26, 28, 29] [1, 5] sh5 (by kernel_rfl) rfl
                  · skip
                    refine zT (v := .list true 9 ([.str (kwL.getD e.kind.toNat [])] ++ ((flE e).map AV.str))) rfl ?_
                    refine zN ?_
                    exact SAny.same [0, 1, 2, 3, 7, 8, 9, 10, 12, 13, 11, 14, 15, 16, 5, 4, 6, 18, 23, 25, 19, 17, 20, 21, 22, 24, 26, 28] [1, 5] sh8 (by kernel_rfl) rfl
                · skip
                  refine zT (v := .list true 9 ([.str (kwL.getD e.kind.toNat [])] ++ ((flE e).map AV.str))) rfl ?_
                  refine zN ?_
                  refine zq [10, 11] ⟨⟨_, rfl, ?_⟩, ⟨_, rfl, ?_⟩, trivial⟩
                  · skip
                    refine zs ?_
                    refine zN ?_
                    exact SAny.same [0, 1, 2, 3, 7, 8, 9, 10, 12, 13, 11, 14, 15, 16, 5, 4, 6, 18, 23, 25, 19, 17, 20, 21, 22, 24, 26, 27] [1, 5] sh7 (by kernel_rfl) rfl
                  · skip
                    refine zs ?_
                    refine zN ?_
                    exact SAny.same [0, 1, 2, 3, 7, 8, 9, 10, 12, 13, 11, 14, 15, 16, 5, 4, 6, 18, 23, 25, 19, 17, 20, 21, 22, 24, 26, 28] [1, 5] sh8 (by kernel_rfl) rfl
        refine zk 1 rfl (PReader.fieldL rfl ⟨_, _, Tryd.underlying34, rfl, rfl, rfl, sizeOf_3⟩ (by decide) rfl) ?_
        refine zkm 6 (.list false 9 ((flE e).map AV.str)) ?_
        refine zkm 8 (zB false) ?_
        refine zq [0, 2] ⟨⟨_, rfl, ?_⟩, ⟨_, rfl, ?_⟩, trivial⟩
        · skip
          refine zc [] Tryd.call56 (lwords_any M) ?_
          rintro _ _ ⟨rfl, rfl⟩
          refine zN ?_
          refine zq [2] ⟨⟨_, rfl, ?_⟩, trivial⟩
          · skip
            refine zr (zlL (zI e.kind) Tryd.underlying3 sizeOf_3) ?_
            refine zN ?_
            refine zk 3 rfl (PReader.elemAddr (m := e.kind.toNat) rfl Tryd.underlying23 sizeOf_9 rfl rfl (by omega) (e := .str (kwL.getD e.kind.toNat [])) (strs_at (by first | omega | (show _ < 17; omega)))) ?_
            exact SAny.same [0, 1, 2, 3, 7, 8, 9, 10, 12, 13, 11, 14, 15, 16, 5, 4, 6, 18, 23, 25, 19, 17, 20] [1, 5] sh10 (by kernel_rfl) rfl
        · skip
          refine zr (zlL (zI e.kind) Tryd.underlying3 sizeOf_3) ?_
          refine zN ?_
          refine zq [0] ⟨⟨_, rfl, ?_⟩, trivial⟩
          · skip
            refine zc [] Tryd.call56 (lwords_any M) ?_
            rintro _ _ ⟨rfl, rfl⟩
            refine zN ?_
            refine zk 3 rfl (PReader.elemAddr (m := e.kind.toNat) rfl Tryd.underlying23 sizeOf_9 rfl rfl (by omega) (e := .str (kwL.getD e.kind.toNat [])) (strs_at (by first | omega | (show _ < 17; omega)))) ?_
            exact SAny.same [0, 1, 2, 3, 7, 8, 9, 10, 12, 13, 11, 14, 15, 16, 5, 4, 6, 18, 23, 25, 19, 17, 20] [1, 5] sh10 (by kernel_rfl) rfl
      refine AWp.ret ?_
      exact ⟨.inl rfl, _, ResOf.two 2 3 (.list true 9 ([.str (kwL.getD e.kind.toNat [])] ++ ((flE e).map AV.str))) (zB false) rfl rfl (.inr ⟨_, _, rfl⟩) (.inl rfl) (by decide), ⟨by rw [told_yes ⟨h1, h2⟩, told_b h1 h2 (by assumption)]; rfl, rfl⟩⟩

set_option maxRecDepth 20000 in
theorem told_no (e : Ev) (hk : ¬ (1 ≤ e.kind ∧ e.kind ≤ 16)) (hid : e.id.length ≤ 4294967280) (hn : -9223372036854775808 ≤ e.n ∧ e.n ≤ 9223372036854775807) (M : Nat → Option (List AV)) : ACall Tryd.prog 48 [encE e] M (fun r M' => r = .tuple [.list true 9 [], zB false] ∧ M = M') := by
  refine ACall.of Tryd.func48 rfl (n := 33) rfl rfl rfl ?_
  refine zg ?_
  refine AOps.box trivial rfl (by decide) rfl (noL rfl) rfl (v := encE e) (.inl ⟨rfl, rfl⟩) rfl rfl (all_flat rfl) ?_
  refine AOps.nilList 9 trivial rfl (by decide) (.inl rfl) ?_
  refine zM (zB false) ?_
  refine zN ?_
  refine AWp.seq ?_
  refine zg ?_
  refine zr (zfL Tryd.underlying34 sizeOf_3) ?_
  refine zr (zlL (zI e.kind) Tryd.underlying3 sizeOf_3) ?_
  refine zc [zI e.kind] Tryd.call60 (known_any e.kind M) ?_
  rintro _ _ ⟨rfl, rfl⟩
  refine zr (zn (decide (KnownP e.kind))) ?_
  refine zN ?_
  refine zC (b := !(decide (KnownP e.kind))) rfl (fun h1 => ?_) (fun h1 => ?_)
  · skip
    have h1' : ¬ (1 ≤ e.kind ∧ e.kind ≤ 16) := (of_decide_eq_false (bnot_t h1))
    clear h1
    refine zg ?_
    refine AOps.nilList 9 trivial rfl (by decide) (.inl rfl) ?_
    refine zM (zB false) ?_
    refine zN ?_
    refine AWp.ret ?_
    exact ⟨.inl rfl, _, ResOf.two 2 3 (.list true 9 []) (zB false) rfl rfl (.inr ⟨_, _, rfl⟩) (.inl rfl) (by decide), ⟨rfl, rfl⟩⟩
  · skip
    have h1' : 1 ≤ e.kind ∧ e.kind ≤ 16 := (of_decide_eq_true (bnot_f h1))
    clear h1
    exfalso; omega

theorem told_any (e : Ev) (hid : e.id.length ≤ 4294967280) (hn : -9223372036854775808 ≤ e.n ∧ e.n ≤ 9223372036854775807) (M : Nat → Option (List AV)) : ACall Tryd.prog 48 [encE e] M (fun r M' => r = .tuple [.list true 9 ((toldL e).map AV.str), zB (decide (RightE e))] ∧ M = M') := by
  by_cases h : 1 ≤ e.kind ∧ e.kind ≤ 16
  · exact told_k e h.1 h.2 hid hn M
  · refine (told_no e h hid hn M).mono fun r M' hq => ⟨hq.1.trans ?_, hq.2⟩
    rw [told_not h, decide_eq_false (fun hr : RightE e => h ⟨hr.1, hr.2.1⟩)]; rfl

set_option maxRecDepth 20000 in
theorem lright_any (e : Ev) (hid : e.id.length ≤ 4294967280) (hn : -9223372036854775808 ≤ e.n ∧ e.n ≤ 9223372036854775807) (M : Nat → Option (List AV)) : ACall Tryd.prog 24 [encE e] M (fun r M' => r = zB (decide (RightE e)) ∧ M = M') := by
  refine ACall.of Tryd.func24 rfl (n := 11) rfl rfl rfl ?_
  refine zg ?_
  refine AOps.box trivial rfl (by decide) rfl (noL rfl) rfl (v := encE e) (.inl ⟨rfl, rfl⟩) rfl rfl (all_flat rfl) ?_
  refine zM (zB false) ?_
  refine zN ?_
  refine zg ?_
  refine zr (zlL (.agg [zI e.kind, .str e.id, zI e.sig, zI e.n]) Tryd.underlying34 sizeOf_34) ?_
  refine zc [encE e] Tryd.call48 (told_any e hid hn M) ?_
  rintro _ _ ⟨rfl, rfl⟩
  refine zM (.tuple [.list false 9 ((toldL e).map AV.str), zB (decide (RightE e))]) ?_
  refine zr (zx (.list false 9 ((toldL e).map AV.str))) ?_
  refine zr (zx (zB (decide (RightE e)))) ?_
  refine zM (.list false 9 ((toldL e).map AV.str)) ?_
  refine zM (zB (decide (RightE e))) ?_
  refine zN ?_
  refine zg ?_
  refine zM (zB (decide (RightE e))) ?_
  refine zM (zB (decide (RightE e))) ?_
  refine zN ?_
  refine AWp.ret ?_
  exact ⟨.inl rfl, _, ResOf.one 2 (zB (decide (RightE e))) rfl rfl, ⟨rfl, rfl⟩⟩

set_option maxRecDepth 20000 in
theorem lline_any (r : Int) (e : Ev) (hid : e.id.length ≤ 4294967280) (hn : -9223372036854775808 ≤ e.n ∧ e.n ≤ 9223372036854775807) (M : Nat → Option (List AV)) : ACall Tryd.prog 22 [zI r, encE e] M (fun r' M' => r' = .tuple [.str (textE r e), zI (errE r e)] ∧ M = M') := by
  have htl := told_len e
  have hjl := told_join e hid hn
  refine ACall.of Tryd.func22 rfl (n := 29) rfl rfl rfl ?_
  refine zg ?_
  refine AOps.box trivial rfl (by decide) rfl (noL rfl) rfl (v := encE e) (.inl ⟨rfl, rfl⟩) rfl rfl (all_flat rfl) ?_
  refine zM (.str []) ?_
  refine zM (zI 0) ?_
  refine zN ?_
  refine zg ?_
  refine zr (zlL (.agg [zI e.kind, .str e.id, zI e.sig, zI e.n]) Tryd.underlying34 sizeOf_34) ?_
  refine zc [encE e] Tryd.call48 (told_any e hid hn M) ?_
  rintro _ _ ⟨rfl, rfl⟩
  refine zM (.tuple [.list false 9 ((toldL e).map AV.str), zB (decide (RightE e))]) ?_
  refine zr (zx (.list false 9 ((toldL e).map AV.str))) ?_
  refine zr (zx (zB (decide (RightE e)))) ?_
  refine zM (.list false 9 ((toldL e).map AV.str)) ?_
  refine zM (zB (decide (RightE e))) ?_
  refine zN ?_
  refine AWp.seq ?_
  refine zj 22 [(0, zI r), (1, encE e), (3, .lptr 3 0), (4, .str []), (5, zI 0), (6, .list false 9 ((toldL e).map AV.str)), (7, zB (decide (RightE e)))] [(3, [zI e.kind, .str e.id, zI e.sig, zI e.n])] M (bif (!(decide (RightE e))) then true else (bif (decide (r < 0)) then true else (decide (r > 1099511627776)))) ?_ ?_
  · skip
    refine zM (zB (decide (RightE e))) ?_
    refine zr (zn (decide (RightE e))) ?_
    refine zM (zB (!(decide (RightE e)))) ?_
    refine AOps.splitJ (t := 15) (b := !(decide (RightE e))) (x := true) (y := (bif (decide (r < 0)) then true else (decide (r > 1099511627776)))) rfl (fun h1 => ?_) (fun h1 => ?_)
    · skip
      have h1' : ¬ RightE e := (of_decide_eq_false (bnot_t h1))
      clear h1
      refine zs ?_
      refine zs ?_
      refine zr (zp true (zB true)) ?_
      refine zM (zB true) ?_
      refine zs ?_
      refine zs ?_
      refine zr (zp true (zB true)) ?_
      exact AOps.nil rfl
    · skip
      have h1' : RightE e := (of_decide_eq_true (bnot_f h1))
      clear h1
      refine zM (zI r) ?_
      refine zr (zi (decide (r < 0))) ?_
      refine zr (zp false (zB (decide (r < 0)))) ?_
      refine zM (zB (decide (r < 0))) ?_
      refine AOps.splitJ (t := 19) (b := decide (r < 0)) (x := true) (y := (decide (r > 1099511627776))) rfl (fun h2 => ?_) (fun h2 => ?_)
      · skip
        have h2' : r < 0 := (by have hh := of_decide_eq_true h2; omega)
        clear h2
        refine zs ?_
        refine zs ?_
        refine zr (zp true (zB true)) ?_
        exact AOps.nil rfl
      · skip
        have h2' : ¬ (r < 0) := (by have hh := of_decide_eq_false h2; omega)
        clear h2
        refine zM (zI r) ?_
        refine zr (zi (decide (r > 1099511627776))) ?_
        refine zr (zp false (zB (decide (r > 1099511627776)))) ?_
        exact AOps.nil rfl
  refine zC (b := bif (!(decide (RightE e))) then true else (bif (decide (r < 0)) then true else (decide (r > 1099511627776)))) rfl (fun h3 => ?_) (fun h3 => ?_)
  · skip
    have h3' : ¬ HasLine r e := (hl_t h3)
    clear h3
    refine zg ?_
    refine zM (.str []) ?_
    refine zM (zI 1) ?_
    refine zN ?_
    refine AWp.ret ?_
    exact ⟨.inl rfl, _, ResOf.two 4 5 (.str []) (zI 1) rfl rfl (.inl rfl) (.inl rfl) (by decide), ⟨by rw [textE_no (by assumption), errE_no (by assumption)], rfl⟩⟩
  · skip
    have h3' : ((0 ≤ r ∧ r ≤ 1099511627776) ∧ HasLine r e) := (hl_f h3)
    clear h3
    refine AWp.skip ?_
    refine zg ?_
    refine zM (zI r) ?_
    refine zc [zI r] Tryd.call44 (itoa_int r (by omega) (by omega) M) ?_
    rintro _ _ ⟨rfl, rfl⟩
    have hil := itoa_r_len (show ((0 ≤ r ∧ r ≤ 1099511627776) ∧ HasLine r e) by assumption).1
    refine zr (Reader.cat rfl rfl rfl (by first | omega | (simp only [List.length_append, List.length_cons, List.length_nil]; omega) | (simp; omega)) (c := (Lib.itoa r) ++ [32]) rfl) ?_
    refine zM (.list false 9 ((toldL e).map AV.str)) ?_
    refine zc [.list false 9 ((toldL e).map AV.str), .str [32]] Tryd.call49 (join_any (toldL e) [32] (by first | omega | (simp only [List.length_append, List.length_cons, List.length_nil]; omega)) (by first | assumption | omega) M) ?_
    rintro _ _ ⟨rfl, rfl⟩
    refine zr (Reader.cat rfl rfl rfl (by first | omega | (simp only [List.length_append, List.length_cons, List.length_nil]; omega) | (simp; omega)) (c := ((Lib.itoa r) ++ [32]) ++ (Lib.join (toldL e) [32])) rfl) ?_
    refine zM (.str (((Lib.itoa r) ++ [32]) ++ (Lib.join (toldL e) [32]))) ?_
    refine zM (zI 0) ?_
    refine zN ?_
    refine AWp.ret ?_
    exact ⟨.inl rfl, _, ResOf.two 4 5 (.str (((Lib.itoa r) ++ [32]) ++ (Lib.join (toldL e) [32]))) (zI 0) rfl rfl (.inl rfl) (.inl rfl) (by decide), ⟨by rw [line_text (show ((0 ≤ r ∧ r ≤ 1099511627776) ∧ HasLine r e) by assumption).2, errE_yes (show ((0 ≤ r ∧ r ≤ 1099511627776) ∧ HasLine r e) by assumption).2], rfl⟩⟩

end Go.Proofs.YtlpihekflkjkfaaDoor
