/- Walks over abstract values, printed by my program av.py. -/
import Derived.Test.YtlpihekflkjkfaaDoorLg5
namespace Go.Proofs.YtlpihekflkjkfaaDoor
open Go.RowKit

theorem kz2_t {k r : Int} (h : (bif kwOf k == [] then true else (bif decide (r < 0) then true else decide (r > 1099511627776))) = true) : ¬ (1 ≤ k ∧ k ≤ 16 ∧ 0 ≤ r ∧ r ≤ 1099511627776) := by
  rintro ⟨h1, h2, h3, h4⟩
  rw [beq_eq_false_iff_ne.2 (show kwOf k ≠ [] from fun e => kw_nil.1 e ⟨h1, h2⟩), decide_eq_false (show ¬ r < 0 by omega), decide_eq_false (show ¬ r > 1099511627776 by omega)] at h; cases h
theorem kz2_f {k r : Int} (h : (bif kwOf k == [] then true else (bif decide (r < 0) then true else decide (r > 1099511627776))) = false) : 1 ≤ k ∧ k ≤ 16 ∧ 0 ≤ r ∧ r ≤ 1099511627776 := by
  by_cases h0 : kwOf k = []
  · rw [h0] at h; cases h
  · have h1 : 1 ≤ k ∧ k ≤ 16 := by
      by_cases hk : 1 ≤ k ∧ k ≤ 16
      · exact hk
      · exact absurd (kw_nil.2 hk) h0
    rw [beq_eq_false_iff_ne.2 h0] at h
    by_cases h2 : r < 0
    · rw [decide_eq_true h2] at h; cases h
    · rw [decide_eq_false h2] at h
      have := of_decide_eq_false h
      omega
theorem sgw_in {n : Int} (h : 0 ≤ n ∧ n ≤ 2) : sgw n = wordOf n := by unfold sgw; rw [if_pos ((inS_iff n).2 h)]
theorem fl_id {e : Ev} (h : ¬ (e.kind = 3 ∨ e.kind = 5 ∨ e.kind = 6 ∨ e.kind = 7 ∨ e.kind = 9 ∨ e.kind = 14 ∨ e.kind = 16)) : flE e = [e.id] := by
  unfold flE
  rw [if_neg (by omega), if_neg (by omega), if_neg (by omega), if_neg (by omega), if_neg (by omega)]
theorem rl_intro {x : List UInt8} {b : Bool} {r : Int} {e : Ev} (hb : b = decide (HasLine r e)) (hx : HasLine r e → x = lineE r e) :
    ∃ y, AV.tuple [.str x, .lit (.bool b)] = .tuple [.str y, .lit (.bool (decide (HasLine r e)))] ∧ (HasLine r e → y = lineE r e) := ⟨x, by rw [hb], hx⟩
theorem rl_false {x : List UInt8} {r : Int} {e : Ev} (h : ¬ HasLine r e) :
    ∃ y, AV.tuple [.str x, .lit (.bool false)] = .tuple [.str y, .lit (.bool (decide (HasLine r e)))] ∧ (HasLine r e → y = lineE r e) := ⟨x, by rw [decide_eq_false h], fun hh => absurd hh h⟩

set_option maxRecDepth 20000 in
theorem rline_any (r : Int) (e : Ev) (hid : e.id.length ≤ 4294967280) (hn : -9223372036854775808 ≤ e.n ∧ e.n ≤ 9223372036854775807) (M : Nat → Option (List AV)) : ACall Tryd.prog 23 [.lit (.int .i64 r), encE e] M (fun r' M' => (∃ x, r' = .tuple [.str x, .lit (.bool (decide (HasLine r e)))] ∧ (HasLine r e → x = lineE r e)) ∧ M = M') := by
  have hkw := kw_len e.kind
  have hsw := word_len e.sig
  refine ACall.of Tryd.func23 rfl (n := 156) rfl rfl rfl ?_
  refine AWp.seq (AWp.region ?_)
  refine AOps.box trivial rfl (by decide) rfl (noL rfl) rfl (v := encE e) (.inl ⟨rfl, rfl⟩) rfl rfl (all_flat rfl) ?_
  refine AOps.read trivial rfl (by decide) (Reader.move (.inr rfl) (ok_const rfl) (v := .str []) rfl) ?_
  refine AOps.read trivial rfl (by decide) (Reader.move (.inr rfl) (ok_const rfl) (v := .lit (.bool false)) rfl) ?_
  refine AOps.nil ?_
  refine AWp.seq (AWp.region ?_)
  refine AOps.read trivial rfl (by decide) (Reader.fieldL rfl ⟨_, _, Tryd.underlying34, rfl, rfl, rfl, sizeOf_3⟩ (by decide) rfl) ?_
  refine AOps.read trivial rfl (by decide) (Reader.loadL rfl Tryd.underlying3 sizeOf_3 rfl rfl (v := .lit (.int .i64 e.kind)) rfl rfl) ?_
  refine AOps.call (args := [.lit (.int .i64 e.kind)]) trivial rfl (by decide) rfl rfl Tryd.call50 (args_ok rfl) rfl (by intro j x v hx hv; match j, hx, hv with | 0, hx, hv => cases hx; cases hv; exact .inl ⟨rfl, rfl⟩ | _ + 1, hx, hv => cases hx) (rkw_any e.kind M) ?_
  rintro _ _ ⟨rfl, rfl⟩
  refine AOps.read trivial rfl (by decide) (Reader.move (.inr rfl) (ok_const rfl) (v := .str (kwOf e.kind)) rfl) ?_
  refine AOps.nil ?_
  refine AWp.seq ?_
  refine AWp.regionJ [21, 0, 1, 3, 4, 5, 6] [3] (fun z => ⟨(21, .lit (.bool z)) :: [(0, .lit (.int .i64 r)), (1, encE e), (3, .lptr 3 0), (4, .str []), (5, .lit (.bool false)), (6, .str (kwOf e.kind))], [(3, [.lit (.int .i64 e.kind), .str e.id, .lit (.int .i64 e.sig), .lit (.int .i64 e.n)])], M⟩) (z := bif ((kwOf e.kind) == []) then true else (bif (decide (r < 0)) then true else (decide (r > 1099511627776)))) ?_ ?_
  · skip
    refine AOps.read trivial rfl (by decide) (Reader.move (.inl rfl) (ok_const rfl) (v := .str (kwOf e.kind)) rfl) ?_
    refine AOps.read trivial rfl (by decide) (Reader.strs rfl rfl rfl (r := (kwOf e.kind) == []) rfl) ?_
    refine AOps.read trivial rfl (by decide) (Reader.move (.inl rfl) (ok_const rfl) (v := .lit (.bool ((kwOf e.kind) == []))) rfl) ?_
    refine AOps.splitJ (t := 14) (b := (kwOf e.kind) == []) (x := true) (y := (bif (decide (r < 0)) then true else (decide (r > 1099511627776)))) rfl (fun h1 => ?_) (fun h1 => ?_)
    · skip
      have h1' : (kwOf e.kind) = [] := (eq_of_beq h1)
      clear h1
      refine AOps.skip ⟨2, false, 14, _, rfl, rfl, rfl, by simp⟩ rfl (by decide) ?_
      refine AOps.skip ⟨2, false, 14, _, rfl, rfl, rfl, by simp⟩ rfl (by decide) ?_
      refine AOps.read trivial rfl (by decide) (Reader.pick rfl (b := true) rfl (ok_const rfl) (ok_const rfl) (v := .lit (.bool true)) rfl) ?_
      refine AOps.read trivial rfl (by decide) (Reader.move (.inl rfl) (ok_const rfl) (v := .lit (.bool true)) rfl) ?_
      refine AOps.skip ⟨6, false, 18, _, rfl, rfl, rfl, by simp⟩ rfl (by decide) ?_
      refine AOps.skip ⟨6, false, 18, _, rfl, rfl, rfl, by simp⟩ rfl (by decide) ?_
      refine AOps.read trivial rfl (by decide) (Reader.pick rfl (b := true) rfl (ok_const rfl) (ok_const rfl) (v := .lit (.bool true)) rfl) ?_
      exact AOps.nil rfl
    · skip
      have h1' : ¬ ((kwOf e.kind) = []) := (beq_eq_false_iff_ne.1 h1)
      clear h1
      refine AOps.read ⟨14, rfl, rfl⟩ rfl (by decide) (Reader.move (.inl rfl) (ok_const rfl) (v := .lit (.int .i64 r)) rfl) ?_
      refine AOps.read ⟨14, rfl, rfl⟩ rfl (by decide) (Reader.int rfl rfl rfl (r := .bool (decide (r < 0))) rfl) ?_
      refine AOps.read trivial rfl (by decide) (Reader.pick rfl (b := false) rfl (ok_const rfl) (ok_const rfl) (v := .lit (.bool (decide (r < 0)))) rfl) ?_
      refine AOps.read trivial rfl (by decide) (Reader.move (.inl rfl) (ok_const rfl) (v := .lit (.bool (decide (r < 0)))) rfl) ?_
      refine AOps.splitJ (t := 18) (b := decide (r < 0)) (x := true) (y := (decide (r > 1099511627776))) rfl (fun h2 => ?_) (fun h2 => ?_)
      · skip
        have h2' : r < 0 := (by have hh := of_decide_eq_true h2; omega)
        clear h2
        refine AOps.skip ⟨6, false, 18, _, rfl, rfl, rfl, by simp⟩ rfl (by decide) ?_
        refine AOps.skip ⟨6, false, 18, _, rfl, rfl, rfl, by simp⟩ rfl (by decide) ?_
        refine AOps.read trivial rfl (by decide) (Reader.pick rfl (b := true) rfl (ok_const rfl) (ok_const rfl) (v := .lit (.bool true)) rfl) ?_
        exact AOps.nil rfl
      · skip
        have h2' : ¬ (r < 0) := (by have hh := of_decide_eq_false h2; omega)
        clear h2
        refine AOps.read ⟨18, rfl, rfl⟩ rfl (by decide) (Reader.move (.inl rfl) (ok_const rfl) (v := .lit (.int .i64 r)) rfl) ?_
        refine AOps.read ⟨18, rfl, rfl⟩ rfl (by decide) (Reader.int rfl rfl rfl (r := .bool (decide (r > 1099511627776))) rfl) ?_
        refine AOps.read trivial rfl (by decide) (Reader.pick rfl (b := false) rfl (ok_const rfl) (ok_const rfl) (v := .lit (.bool (decide (r > 1099511627776)))) rfl) ?_
        exact AOps.nil rfl
  refine AWp.cond (b := bif ((kwOf e.kind) == []) then true else (bif (decide (r < 0)) then true else (decide (r > 1099511627776)))) rfl (fun h3 => ?_) (fun h3 => ?_)
  · skip
    have h3' : ¬ (1 ≤ e.kind ∧ e.kind ≤ 16 ∧ 0 ≤ r ∧ r ≤ 1099511627776) := (kz2_t h3)
    clear h3
    refine AWp.seq (AWp.region ?_)
    refine AOps.read trivial rfl (by decide) (Reader.move (.inr rfl) (ok_const rfl) (v := .str []) rfl) ?_
    refine AOps.read trivial rfl (by decide) (Reader.move (.inr rfl) (ok_const rfl) (v := .lit (.bool false)) rfl) ?_
    refine AOps.nil ?_
    refine AWp.ret ?_
    exact ⟨.inl rfl, _, ResOf.two 4 5 (.str []) (.lit (.bool false)) rfl rfl (.inl rfl) (.inl rfl) (by decide), ⟨rl_false (fun h => by obtain ⟨q1, q2, q3⟩ := hl_e.1 h; first | (exact absurd (by assumption) q2) | omega), rfl⟩⟩
  · skip
    have h3' : 1 ≤ e.kind ∧ e.kind ≤ 16 ∧ 0 ≤ r ∧ r ≤ 1099511627776 := (kz2_f h3)
    clear h3
    refine AWp.skip ?_
    refine AWp.seq (AWp.region ?_)
    refine AOps.read trivial rfl (by decide) (Reader.move (.inl rfl) (ok_const rfl) (v := .lit (.int .i64 r)) rfl) ?_
    refine AOps.call (args := [.lit (.int .i64 r)]) trivial rfl (by decide) rfl rfl Tryd.call19 (args_ok rfl) rfl (by intro j x v hx hv; match j, hx, hv with | 0, hx, hv => cases hx; cases hv; exact .inl ⟨rfl, rfl⟩ | _ + 1, hx, hv => cases hx) (lDigits_int r (by omega) (by omega) M) ?_
    rintro _ _ ⟨rfl, rfl⟩
    have hdr := digs_len20 r.toNat (by omega)
    refine AOps.read trivial rfl (by decide) (Reader.cat rfl rfl rfl (by first | omega | (simp only [List.length_append, List.length_cons, List.length_nil]; omega) | (simp; omega)) (c := (digs r.toNat) ++ [32]) rfl) ?_
    refine AOps.read trivial rfl (by decide) (Reader.move (.inl rfl) (ok_const rfl) (v := .str (kwOf e.kind)) rfl) ?_
    refine AOps.read trivial rfl (by decide) (Reader.cat rfl rfl rfl (by first | omega | (simp only [List.length_append, List.length_cons, List.length_nil]; omega) | (simp; omega)) (c := ((digs r.toNat) ++ [32]) ++ (kwOf e.kind)) rfl) ?_
    refine AOps.read trivial rfl (by decide) (Reader.move (.inr rfl) (ok_const rfl) (v := .str (((digs r.toNat) ++ [32]) ++ (kwOf e.kind))) rfl) ?_
    refine AOps.nil ?_
    refine AWp.regionJ [8, 21, 0, 1, 3, 4, 5, 6, 7] [3] (fun z => ⟨(8, .lit (.bool z)) :: [(21, .lit (.bool (bif ((kwOf e.kind) == []) then true else (bif (decide (r < 0)) then true else (decide (r > 1099511627776)))))), (0, .lit (.int .i64 r)), (1, encE e), (3, .lptr 3 0), (4, .str []), (5, .lit (.bool false)), (6, .str (kwOf e.kind)), (7, .str (((digs r.toNat) ++ [32]) ++ (kwOf e.kind)))], [(3, [.lit (.int .i64 e.kind), .str e.id, .lit (.int .i64 e.sig), .lit (.int .i64 e.n)])], M⟩) (z := bif (e.kind != 6) then (bif (e.kind != 7) then (e.kind != 16) else false) else false) ?_ ?_
    · skip
      refine AOps.read trivial rfl (by decide) (Reader.fieldL rfl ⟨_, _, Tryd.underlying34, rfl, rfl, rfl, sizeOf_3⟩ (by decide) rfl) ?_
      refine AOps.read trivial rfl (by decide) (Reader.loadL rfl Tryd.underlying3 sizeOf_3 rfl rfl (v := .lit (.int .i64 e.kind)) rfl rfl) ?_
      refine AOps.read trivial rfl (by decide) (Reader.int rfl rfl rfl (r := .bool (e.kind != 6)) rfl) ?_
      refine AOps.read trivial rfl (by decide) (Reader.move (.inl rfl) (ok_const rfl) (v := .lit (.bool (e.kind != 6))) rfl) ?_
      refine AOps.splitJ (t := 30) (b := e.kind != 6) (x := (bif (e.kind != 7) then (e.kind != 16) else false)) (y := false) rfl (fun h4 => ?_) (fun h4 => ?_)
      · skip
        have h4' : e.kind ≠ 6 := (by have hh := bne_iff_ne.1 h4; omega)
        clear h4
        refine AOps.read ⟨30, rfl, rfl⟩ rfl (by decide) (Reader.fieldL rfl ⟨_, _, Tryd.underlying34, rfl, rfl, rfl, sizeOf_3⟩ (by decide) rfl) ?_
        refine AOps.read ⟨30, rfl, rfl⟩ rfl (by decide) (Reader.loadL rfl Tryd.underlying3 sizeOf_3 rfl rfl (v := .lit (.int .i64 e.kind)) rfl rfl) ?_
        refine AOps.read ⟨30, rfl, rfl⟩ rfl (by decide) (Reader.int rfl rfl rfl (r := .bool (e.kind != 7)) rfl) ?_
        refine AOps.read trivial rfl (by decide) (Reader.pick rfl (b := true) rfl (ok_const rfl) (ok_const rfl) (v := .lit (.bool (e.kind != 7))) rfl) ?_
        refine AOps.read trivial rfl (by decide) (Reader.move (.inl rfl) (ok_const rfl) (v := .lit (.bool (e.kind != 7))) rfl) ?_
        refine AOps.splitJ (t := 35) (b := e.kind != 7) (x := (e.kind != 16)) (y := false) rfl (fun h5 => ?_) (fun h5 => ?_)
        · skip
          have h5' : e.kind ≠ 7 := (by have hh := bne_iff_ne.1 h5; omega)
          clear h5
          refine AOps.read ⟨35, rfl, rfl⟩ rfl (by decide) (Reader.fieldL rfl ⟨_, _, Tryd.underlying34, rfl, rfl, rfl, sizeOf_3⟩ (by decide) rfl) ?_
          refine AOps.read ⟨35, rfl, rfl⟩ rfl (by decide) (Reader.loadL rfl Tryd.underlying3 sizeOf_3 rfl rfl (v := .lit (.int .i64 e.kind)) rfl rfl) ?_
          refine AOps.read ⟨35, rfl, rfl⟩ rfl (by decide) (Reader.int rfl rfl rfl (r := .bool (e.kind != 16)) rfl) ?_
          refine AOps.read trivial rfl (by decide) (Reader.pick rfl (b := true) rfl (ok_const rfl) (ok_const rfl) (v := .lit (.bool (e.kind != 16))) rfl) ?_
          refine AOps.read trivial rfl (by decide) (Reader.move (.inr rfl) (ok_const rfl) (v := .lit (.bool (e.kind != 16))) rfl) ?_
          exact AOps.nil rfl
        · skip
          have h5' : ¬ (e.kind ≠ 7) := (by have hh := bne_eq_false_iff_eq.1 h5; omega)
          clear h5
          refine AOps.skip ⟨8, true, 35, _, rfl, rfl, rfl, by simp⟩ rfl (by decide) ?_
          refine AOps.skip ⟨8, true, 35, _, rfl, rfl, rfl, by simp⟩ rfl (by decide) ?_
          refine AOps.skip ⟨8, true, 35, _, rfl, rfl, rfl, by simp⟩ rfl (by decide) ?_
          refine AOps.read trivial rfl (by decide) (Reader.pick rfl (b := false) rfl (ok_const rfl) (ok_const rfl) (v := .lit (.bool false)) rfl) ?_
          refine AOps.read trivial rfl (by decide) (Reader.move (.inr rfl) (ok_const rfl) (v := .lit (.bool false)) rfl) ?_
          exact AOps.nil rfl
      · skip
        have h4' : ¬ (e.kind ≠ 6) := (by have hh := bne_eq_false_iff_eq.1 h4; omega)
        clear h4
        refine AOps.skip ⟨3, true, 30, _, rfl, rfl, rfl, by simp⟩ rfl (by decide) ?_
        refine AOps.skip ⟨3, true, 30, _, rfl, rfl, rfl, by simp⟩ rfl (by decide) ?_
        refine AOps.skip ⟨3, true, 30, _, rfl, rfl, rfl, by simp⟩ rfl (by decide) ?_
        refine AOps.read trivial rfl (by decide) (Reader.pick rfl (b := false) rfl (ok_const rfl) (ok_const rfl) (v := .lit (.bool false)) rfl) ?_
        refine AOps.read trivial rfl (by decide) (Reader.move (.inl rfl) (ok_const rfl) (v := .lit (.bool false)) rfl) ?_
        refine AOps.skip ⟨8, true, 35, _, rfl, rfl, rfl, by simp⟩ rfl (by decide) ?_
        refine AOps.skip ⟨8, true, 35, _, rfl, rfl, rfl, by simp⟩ rfl (by decide) ?_
        refine AOps.skip ⟨8, true, 35, _, rfl, rfl, rfl, by simp⟩ rfl (by decide) ?_
        refine AOps.read trivial rfl (by decide) (Reader.pick rfl (b := false) rfl (ok_const rfl) (ok_const rfl) (v := .lit (.bool false)) rfl) ?_
        refine AOps.read trivial rfl (by decide) (Reader.move (.inr rfl) (ok_const rfl) (v := .lit (.bool false)) rfl) ?_
        exact AOps.nil rfl
    refine AWp.seq ?_
    refine AWp.regionJ [55, 8, 21, 0, 1, 3, 4, 5, 6, 7] [3] (fun z => ⟨(55, .lit (.bool z)) :: [(8, .lit (.bool (bif (e.kind != 6) then (bif (e.kind != 7) then (e.kind != 16) else false) else false))), (21, .lit (.bool (bif ((kwOf e.kind) == []) then true else (bif (decide (r < 0)) then true else (decide (r > 1099511627776)))))), (0, .lit (.int .i64 r)), (1, encE e), (3, .lptr 3 0), (4, .str []), (5, .lit (.bool false)), (6, .str (kwOf e.kind)), (7, .str (((digs r.toNat) ++ [32]) ++ (kwOf e.kind)))], [(3, [.lit (.int .i64 e.kind), .str e.id, .lit (.int .i64 e.sig), .lit (.int .i64 e.n)])], M⟩) (z := bif (bif (e.kind != 6) then (bif (e.kind != 7) then (e.kind != 16) else false) else false) then (bif (!(wordB e.id)) then true else (bif (!(bif (e.kind != 6) then (bif (e.kind != 7) then (e.kind != 16) else false) else false)) then (!(e.id == [])) else false)) else (bif (!(bif (e.kind != 6) then (bif (e.kind != 7) then (e.kind != 16) else false) else false)) then (!(e.id == [])) else false)) ?_ ?_
    · skip
      refine AOps.read trivial rfl (by decide) (Reader.move (.inl rfl) (ok_const rfl) (v := .lit (.bool (bif (e.kind != 6) then (bif (e.kind != 7) then (e.kind != 16) else false) else false))) rfl) ?_
      refine AOps.read trivial rfl (by decide) (Reader.move (.inl rfl) (ok_const rfl) (v := .lit (.bool (bif (e.kind != 6) then (bif (e.kind != 7) then (e.kind != 16) else false) else false))) rfl) ?_
      refine AOps.splitJ (t := 41) (b := bif (e.kind != 6) then (bif (e.kind != 7) then (e.kind != 16) else false) else false) (x := (bif (!(wordB e.id)) then true else (bif (!(bif (e.kind != 6) then (bif (e.kind != 7) then (e.kind != 16) else false) else false)) then (!(e.id == [])) else false))) (y := (bif (!(bif (e.kind != 6) then (bif (e.kind != 7) then (e.kind != 16) else false) else false)) then (!(e.id == [])) else false)) rfl (fun h6 => ?_) (fun h6 => ?_)
      · skip
        have h6' : Named e.kind := (of_decide_eq_true (named_b.symm.trans h6))
        clear h6
        refine AOps.read ⟨41, rfl, rfl⟩ rfl (by decide) (Reader.fieldL rfl ⟨_, _, Tryd.underlying34, rfl, rfl, rfl, sizeOf_9⟩ (by decide) rfl) ?_
        refine AOps.read ⟨41, rfl, rfl⟩ rfl (by decide) (Reader.loadL rfl Tryd.underlying9 sizeOf_9 rfl rfl (v := .str e.id) rfl rfl) ?_
        refine AOps.call (args := [.str e.id]) ⟨41, rfl, rfl⟩ rfl (by decide) rfl rfl Tryd.call51 (args_ok rfl) rfl (by intro j x v hx hv; match j, hx, hv with | 0, hx, hv => cases hx; cases hv; exact .inl ⟨rfl, rfl⟩ | _ + 1, hx, hv => cases hx) (rWd_any e.id hid M) ?_
        rintro _ _ ⟨rfl, rfl⟩
        refine AOps.read ⟨41, rfl, rfl⟩ rfl (by decide) (Reader.not (b := wordB e.id) rfl rfl) ?_
        refine AOps.read trivial rfl (by decide) (Reader.pick rfl (b := true) rfl (ok_const rfl) (ok_const rfl) (v := .lit (.bool (!(wordB e.id)))) rfl) ?_
        refine AOps.read trivial rfl (by decide) (Reader.move (.inl rfl) (ok_const rfl) (v := .lit (.bool (!(wordB e.id)))) rfl) ?_
        refine AOps.splitJ (t := 47) (b := !(wordB e.id)) (x := true) (y := (bif (!(bif (e.kind != 6) then (bif (e.kind != 7) then (e.kind != 16) else false) else false)) then (!(e.id == [])) else false)) rfl (fun h7 => ?_) (fun h7 => ?_)
        · skip
          have h7' : wordB e.id = false := (bnot_t h7)
          clear h7
          refine AOps.skip ⟨7, false, 47, _, rfl, rfl, rfl, by simp⟩ rfl (by decide) ?_
          refine AOps.skip ⟨7, false, 47, _, rfl, rfl, rfl, by simp⟩ rfl (by decide) ?_
          refine AOps.skip ⟨7, false, 47, _, rfl, rfl, rfl, by simp⟩ rfl (by decide) ?_
          refine AOps.skip ⟨10, true, 50, _, rfl, rfl, rfl, by simp [undef]⟩ rfl (by decide) ?_
          refine AOps.skip ⟨10, true, 50, _, rfl, rfl, rfl, by simp [undef]⟩ rfl (by decide) ?_
          refine AOps.skip ⟨10, true, 50, _, rfl, rfl, rfl, by simp [undef]⟩ rfl (by decide) ?_
          refine AOps.skip ⟨7, false, 47, _, rfl, rfl, rfl, by simp⟩ rfl (by decide) ?_
          refine AOps.read trivial rfl (by decide) (Reader.pick rfl (b := true) rfl (ok_const rfl) (ok_const rfl) (v := .lit (.bool true)) rfl) ?_
          exact AOps.nil rfl
        · skip
          have h7' : wordB e.id = true := (bnot_f h7)
          clear h7
          refine AOps.read ⟨47, rfl, rfl⟩ rfl (by decide) (Reader.move (.inl rfl) (ok_const rfl) (v := .lit (.bool (bif (e.kind != 6) then (bif (e.kind != 7) then (e.kind != 16) else false) else false))) rfl) ?_
          refine AOps.read ⟨47, rfl, rfl⟩ rfl (by decide) (Reader.not (b := bif (e.kind != 6) then (bif (e.kind != 7) then (e.kind != 16) else false) else false) rfl rfl) ?_
          refine AOps.read ⟨47, rfl, rfl⟩ rfl (by decide) (Reader.move (.inl rfl) (ok_const rfl) (v := .lit (.bool (!(bif (e.kind != 6) then (bif (e.kind != 7) then (e.kind != 16) else false) else false)))) rfl) ?_
          refine AOps.splitJ (t := 50) (b := !(bif (e.kind != 6) then (bif (e.kind != 7) then (e.kind != 16) else false) else false)) (x := (!(e.id == []))) (y := false) rfl (fun h8 => ?_) (fun h8 => ?_)
          · skip
            have h8' : ¬ Named e.kind := (of_decide_eq_false (named_b.symm.trans (bnot_t h8)))
            clear h8
            refine AOps.read ⟨50, rfl, rfl⟩ rfl (by decide) (Reader.fieldL rfl ⟨_, _, Tryd.underlying34, rfl, rfl, rfl, sizeOf_9⟩ (by decide) rfl) ?_
            refine AOps.read ⟨50, rfl, rfl⟩ rfl (by decide) (Reader.loadL rfl Tryd.underlying9 sizeOf_9 rfl rfl (v := .str e.id) rfl rfl) ?_
            refine AOps.read ⟨50, rfl, rfl⟩ rfl (by decide) (Reader.strs rfl rfl rfl (r := !(e.id == [])) rfl) ?_
            refine AOps.read ⟨47, rfl, rfl⟩ rfl (by decide) (Reader.pick rfl (b := true) rfl (ok_const rfl) (ok_const rfl) (v := .lit (.bool (!(e.id == [])))) rfl) ?_
            refine AOps.read trivial rfl (by decide) (Reader.pick rfl (b := false) rfl (ok_const rfl) (ok_const rfl) (v := .lit (.bool (!(e.id == [])))) rfl) ?_
            exact AOps.nil rfl
          · skip
            have h8' : Named e.kind := (of_decide_eq_true (named_b.symm.trans (bnot_f h8)))
            clear h8
            refine AOps.skip ⟨10, true, 50, _, rfl, rfl, rfl, by simp⟩ rfl (by decide) ?_
            refine AOps.skip ⟨10, true, 50, _, rfl, rfl, rfl, by simp⟩ rfl (by decide) ?_
            refine AOps.skip ⟨10, true, 50, _, rfl, rfl, rfl, by simp⟩ rfl (by decide) ?_
            refine AOps.read ⟨47, rfl, rfl⟩ rfl (by decide) (Reader.pick rfl (b := false) rfl (ok_const rfl) (ok_const rfl) (v := .lit (.bool false)) rfl) ?_
            refine AOps.read trivial rfl (by decide) (Reader.pick rfl (b := false) rfl (ok_const rfl) (ok_const rfl) (v := .lit (.bool false)) rfl) ?_
            exact AOps.nil rfl
      · skip
        have h6' : ¬ Named e.kind := (of_decide_eq_false (named_b.symm.trans h6))
        clear h6
        refine AOps.skip ⟨1, true, 41, _, rfl, rfl, rfl, by simp⟩ rfl (by decide) ?_
        refine AOps.skip ⟨1, true, 41, _, rfl, rfl, rfl, by simp⟩ rfl (by decide) ?_
        refine AOps.skip ⟨1, true, 41, _, rfl, rfl, rfl, by simp⟩ rfl (by decide) ?_
        refine AOps.skip ⟨1, true, 41, _, rfl, rfl, rfl, by simp⟩ rfl (by decide) ?_
        refine AOps.read trivial rfl (by decide) (Reader.pick rfl (b := false) rfl (ok_const rfl) (ok_const rfl) (v := .lit (.bool false)) rfl) ?_
        refine AOps.read trivial rfl (by decide) (Reader.move (.inl rfl) (ok_const rfl) (v := .lit (.bool false)) rfl) ?_
        refine AOps.read ⟨47, rfl, rfl⟩ rfl (by decide) (Reader.move (.inl rfl) (ok_const rfl) (v := .lit (.bool (bif (e.kind != 6) then (bif (e.kind != 7) then (e.kind != 16) else false) else false))) rfl) ?_
        refine AOps.read ⟨47, rfl, rfl⟩ rfl (by decide) (Reader.not (b := bif (e.kind != 6) then (bif (e.kind != 7) then (e.kind != 16) else false) else false) rfl rfl) ?_
        refine AOps.read ⟨47, rfl, rfl⟩ rfl (by decide) (Reader.move (.inl rfl) (ok_const rfl) (v := .lit (.bool (!(bif (e.kind != 6) then (bif (e.kind != 7) then (e.kind != 16) else false) else false)))) rfl) ?_
        refine AOps.splitJ (t := 50) (b := !(bif (e.kind != 6) then (bif (e.kind != 7) then (e.kind != 16) else false) else false)) (x := (!(e.id == []))) (y := false) rfl (fun h9 => ?_) (fun h9 => ?_)
        · skip
          have h9' : ¬ Named e.kind := (of_decide_eq_false (named_b.symm.trans (bnot_t h9)))
          clear h9
          refine AOps.read ⟨50, rfl, rfl⟩ rfl (by decide) (Reader.fieldL rfl ⟨_, _, Tryd.underlying34, rfl, rfl, rfl, sizeOf_9⟩ (by decide) rfl) ?_
          refine AOps.read ⟨50, rfl, rfl⟩ rfl (by decide) (Reader.loadL rfl Tryd.underlying9 sizeOf_9 rfl rfl (v := .str e.id) rfl rfl) ?_
          refine AOps.read ⟨50, rfl, rfl⟩ rfl (by decide) (Reader.strs rfl rfl rfl (r := !(e.id == [])) rfl) ?_
          refine AOps.read ⟨47, rfl, rfl⟩ rfl (by decide) (Reader.pick rfl (b := true) rfl (ok_const rfl) (ok_const rfl) (v := .lit (.bool (!(e.id == [])))) rfl) ?_
          refine AOps.read trivial rfl (by decide) (Reader.pick rfl (b := false) rfl (ok_const rfl) (ok_const rfl) (v := .lit (.bool (!(e.id == [])))) rfl) ?_
          exact AOps.nil rfl
        · skip
          have h9' : Named e.kind := (of_decide_eq_true (named_b.symm.trans (bnot_f h9)))
          clear h9
          refine AOps.skip ⟨10, true, 50, _, rfl, rfl, rfl, by simp⟩ rfl (by decide) ?_
          refine AOps.skip ⟨10, true, 50, _, rfl, rfl, rfl, by simp⟩ rfl (by decide) ?_
          refine AOps.skip ⟨10, true, 50, _, rfl, rfl, rfl, by simp⟩ rfl (by decide) ?_
          refine AOps.read ⟨47, rfl, rfl⟩ rfl (by decide) (Reader.pick rfl (b := false) rfl (ok_const rfl) (ok_const rfl) (v := .lit (.bool false)) rfl) ?_
          refine AOps.read trivial rfl (by decide) (Reader.pick rfl (b := false) rfl (ok_const rfl) (ok_const rfl) (v := .lit (.bool false)) rfl) ?_
          exact AOps.nil rfl
    have hz6 : (bif (bif (e.kind != 6) then (bif (e.kind != 7) then (e.kind != 16) else false) else false) then (bif (!(wordB e.id)) then true else (bif (!(bif (e.kind != 6) then (bif (e.kind != 7) then (e.kind != 16) else false) else false)) then (!(e.id == [])) else false)) else (bif (!(bif (e.kind != 6) then (bif (e.kind != 7) then (e.kind != 16) else false) else false)) then (!(e.id == [])) else false)) = decide (BadId e) := by rw [named_b]; unfold BadId; by_cases hq : Named e.kind <;> by_cases hq2 : e.id = [] <;> rcases Bool.eq_false_or_eq_true (wordB e.id) with hw | hw <;> simp [hq, hq2, hw]
    refine AWp.cond (b := bif (bif (e.kind != 6) then (bif (e.kind != 7) then (e.kind != 16) else false) else false) then (bif (!(wordB e.id)) then true else (bif (!(bif (e.kind != 6) then (bif (e.kind != 7) then (e.kind != 16) else false) else false)) then (!(e.id == [])) else false)) else (bif (!(bif (e.kind != 6) then (bif (e.kind != 7) then (e.kind != 16) else false) else false)) then (!(e.id == [])) else false)) rfl (fun h10 => ?_) (fun h10 => ?_)
    · skip
      have h10' : BadId e := (of_decide_eq_true (hz6.symm.trans h10))
      clear h10
      refine AWp.seq (AWp.region ?_)
      refine AOps.read trivial rfl (by decide) (Reader.move (.inr rfl) (ok_const rfl) (v := .str []) rfl) ?_
      refine AOps.read trivial rfl (by decide) (Reader.move (.inr rfl) (ok_const rfl) (v := .lit (.bool false)) rfl) ?_
      refine AOps.nil ?_
      refine AWp.ret ?_
      exact ⟨.inl rfl, _, ResOf.two 4 5 (.str []) (.lit (.bool false)) rfl rfl (.inl rfl) (.inl rfl) (by decide), ⟨rl_false (fun h => by obtain ⟨q1, q2, q3⟩ := hl_e.1 h; first | (exact absurd (by assumption) q2) | omega), rfl⟩⟩
    · skip
      have h10' : ¬ BadId e := (of_decide_eq_false (hz6.symm.trans h10))
      clear h10
      refine AWp.skip ?_
      refine AWp.mid [55, 8, 21, 0, 1, 3, 4, 5, 6, 56, 7] [3] (fun s => ∃ (s1 : List UInt8), s = ⟨[(55, .lit (.bool (bif (bif (e.kind != 6) then (bif (e.kind != 7) then (e.kind != 16) else false) else false) then (bif (!(wordB e.id)) then true else (bif (!(bif (e.kind != 6) then (bif (e.kind != 7) then (e.kind != 16) else false) else false)) then (!(e.id == [])) else false)) else (bif (!(bif (e.kind != 6) then (bif (e.kind != 7) then (e.kind != 16) else false) else false)) then (!(e.id == [])) else false)))), (8, .lit (.bool (bif (e.kind != 6) then (bif (e.kind != 7) then (e.kind != 16) else false) else false))), (21, .lit (.bool (bif ((kwOf e.kind) == []) then true else (bif (decide (r < 0)) then true else (decide (r > 1099511627776)))))), (0, .lit (.int .i64 r)), (1, encE e), (3, .lptr 3 0), (4, .str []), (5, .lit (.bool false)), (6, .str (kwOf e.kind)), (56, .lit (.bool (bif (e.kind != 6) then (bif (e.kind != 7) then (e.kind != 16) else false) else false))), (7, .str s1)], [(3, [.lit (.int .i64 e.kind), .str e.id, .lit (.int .i64 e.sig), .lit (.int .i64 e.n)])], M⟩ ∧ (s1 = if Named e.kind then ((((digs r.toNat ++ [32]) ++ kwOf e.kind) ++ [32]) ++ e.id) else ((digs r.toNat ++ [32]) ++ kwOf e.kind)) ∧ (s1.length ≤ 4294967400)) ?_ ?_
      · skip
        refine AWp.seq (AWp.region ?_)
        refine AOps.read trivial rfl (by decide) (Reader.move (.inl rfl) (ok_const rfl) (v := .lit (.bool (bif (e.kind != 6) then (bif (e.kind != 7) then (e.kind != 16) else false) else false))) rfl) ?_
        refine AOps.nil ?_
        refine AWp.cond (b := bif (e.kind != 6) then (bif (e.kind != 7) then (e.kind != 16) else false) else false) rfl (fun h11 => ?_) (fun h11 => ?_)
        · skip
          have h11' : Named e.kind := (of_decide_eq_true (named_b.symm.trans h11))
          clear h11
          refine AWp.region ?_
          refine AOps.read trivial rfl (by decide) (Reader.move (.inl rfl) (ok_const rfl) (v := .str (((digs r.toNat) ++ [32]) ++ (kwOf e.kind))) rfl) ?_
          refine AOps.read trivial rfl (by decide) (Reader.cat rfl rfl rfl (by first | omega | (simp only [List.length_append, List.length_cons, List.length_nil]; omega) | (simp; omega)) (c := (((digs r.toNat) ++ [32]) ++ (kwOf e.kind)) ++ [32]) rfl) ?_
          refine AOps.read trivial rfl (by decide) (Reader.fieldL rfl ⟨_, _, Tryd.underlying34, rfl, rfl, rfl, sizeOf_9⟩ (by decide) rfl) ?_
          refine AOps.read trivial rfl (by decide) (Reader.loadL rfl Tryd.underlying9 sizeOf_9 rfl rfl (v := .str e.id) rfl rfl) ?_
          refine AOps.read trivial rfl (by decide) (Reader.cat rfl rfl rfl (by first | omega | (simp only [List.length_append, List.length_cons, List.length_nil]; omega) | (simp; omega)) (c := ((((digs r.toNat) ++ [32]) ++ (kwOf e.kind)) ++ [32]) ++ e.id) rfl) ?_
          refine AOps.read trivial rfl (by decide) (Reader.move (.inr rfl) (ok_const rfl) (v := .str (((((digs r.toNat) ++ [32]) ++ (kwOf e.kind)) ++ [32]) ++ e.id)) rfl) ?_
          refine AOps.nil ?_
          exact ⟨_, rfl, by first | (rw [if_pos (by assumption)]; done) | (rw [if_neg (by assumption)]; done), by first | omega | (simp only [List.length_append, List.length_cons, List.length_nil]; omega)⟩
        · skip
          have h11' : ¬ Named e.kind := (of_decide_eq_false (named_b.symm.trans h11))
          clear h11
          refine AWp.skip ?_
          exact ⟨_, rfl, by first | (rw [if_pos (by assumption)]; done) | (rw [if_neg (by assumption)]; done), by first | omega | (simp only [List.length_append, List.length_cons, List.length_nil]; omega)⟩
      rintro _ ⟨s1, rfl, hs1, hs1l⟩
      refine AWp.mid [55, 8, 21, 0, 1, 3, 4, 5, 6, 56, 64, 7] [3] (fun s => ∃ (s2 : List UInt8), s = ⟨[(55, .lit (.bool (bif (bif (e.kind != 6) then (bif (e.kind != 7) then (e.kind != 16) else false) else false) then (bif (!(wordB e.id)) then true else (bif (!(bif (e.kind != 6) then (bif (e.kind != 7) then (e.kind != 16) else false) else false)) then (!(e.id == [])) else false)) else (bif (!(bif (e.kind != 6) then (bif (e.kind != 7) then (e.kind != 16) else false) else false)) then (!(e.id == [])) else false)))), (8, .lit (.bool (bif (e.kind != 6) then (bif (e.kind != 7) then (e.kind != 16) else false) else false))), (21, .lit (.bool (bif ((kwOf e.kind) == []) then true else (bif (decide (r < 0)) then true else (decide (r > 1099511627776)))))), (0, .lit (.int .i64 r)), (1, encE e), (3, .lptr 3 0), (4, .str []), (5, .lit (.bool false)), (6, .str (kwOf e.kind)), (56, .lit (.bool (bif (e.kind != 6) then (bif (e.kind != 7) then (e.kind != 16) else false) else false))), (64, .lit (.bool (e.kind == 3))), (7, .str s2)], [(3, [.lit (.int .i64 e.kind), .str e.id, .lit (.int .i64 e.sig), .lit (.int .i64 e.n)])], M⟩ ∧ ((e.kind = 3 ∧ e.n = 3 ∧ s2 = s1 ++ [32, 112, 114, 101, 115, 115, 117, 114, 101]) ∨ (¬ e.kind = 3 ∧ s2 = s1)) ∧ (s2.length ≤ 4294967500)) ?_ ?_
      · skip
        refine AWp.seq (AWp.region ?_)
        refine AOps.read trivial rfl (by decide) (Reader.fieldL rfl ⟨_, _, Tryd.underlying34, rfl, rfl, rfl, sizeOf_3⟩ (by decide) rfl) ?_
        refine AOps.read trivial rfl (by decide) (Reader.loadL rfl Tryd.underlying3 sizeOf_3 rfl rfl (v := .lit (.int .i64 e.kind)) rfl rfl) ?_
        refine AOps.read trivial rfl (by decide) (Reader.int rfl rfl rfl (r := .bool (e.kind == 3)) rfl) ?_
        refine AOps.nil ?_
        refine AWp.cond (b := e.kind == 3) rfl (fun h12 => ?_) (fun h12 => ?_)
        · skip
          have h12' : e.kind = 3 := (by have hh := eq_of_beq h12; omega)
          clear h12
          refine AWp.seq ?_
          refine AWp.seq (AWp.region ?_)
          refine AOps.read trivial rfl (by decide) (Reader.fieldL rfl ⟨_, _, Tryd.underlying34, rfl, rfl, rfl, sizeOf_3⟩ (by decide) rfl) ?_
          refine AOps.read trivial rfl (by decide) (Reader.loadL rfl Tryd.underlying3 sizeOf_3 rfl rfl (v := .lit (.int .i64 e.n)) rfl rfl) ?_
          refine AOps.read trivial rfl (by decide) (Reader.int rfl rfl rfl (r := .bool (e.n == 4)) rfl) ?_
          refine AOps.nil ?_
          refine AWp.cond (b := e.n == 4) rfl (fun h13 => ?_) (fun h13 => ?_)
          · skip
            have h13' : e.n = 4 := (by have hh := eq_of_beq h13; omega)
            clear h13
            refine AWp.seq (AWp.anyR [55, 8, 21, 0, 1, 3, 4, 5, 6, 56, 7, 64, 67] [3] (⟨[(55, .lit (.bool (bif (bif (e.kind != 6) then (bif (e.kind != 7) then (e.kind != 16) else false) else false) then (bif (!(wordB e.id)) then true else (bif (!(bif (e.kind != 6) then (bif (e.kind != 7) then (e.kind != 16) else false) else false)) then (!(e.id == [])) else false)) else (bif (!(bif (e.kind != 6) then (bif (e.kind != 7) then (e.kind != 16) else false) else false)) then (!(e.id == [])) else false)))), (8, .lit (.bool (bif (e.kind != 6) then (bif (e.kind != 7) then (e.kind != 16) else false) else false))), (21, .lit (.bool (bif ((kwOf e.kind) == []) then true else (bif (decide (r < 0)) then true else (decide (r > 1099511627776)))))), (0, .lit (.int .i64 r)), (1, encE e), (3, .lptr 3 0), (4, .str (s1 ++ [32, 114, 111, 111, 109])), (5, .lit (.bool (e.sig == 0))), (6, .str (kwOf e.kind)), (56, .lit (.bool (bif (e.kind != 6) then (bif (e.kind != 7) then (e.kind != 16) else false) else false))), (7, .str s1), (64, .lit (.bool (e.kind == 3))), (67, .lit (.bool (e.n == 4)))], [(3, [.lit (.int .i64 e.kind), .str e.id, .lit (.int .i64 e.sig), .lit (.int .i64 e.n)])], M⟩) (by kernel_rfl) ?_ ?_)
            · skip
              skip
              refine SAny.take 0 rfl (by kernel_rfl) (by kernel_rfl) (by kernel_rfl) trivial rfl (by decide) (PReader.move (.inl rfl) (ok_const rfl) (v := .str s1) rfl) ?_
              refine SAny.take 1 rfl (by kernel_rfl) (by kernel_rfl) (by kernel_rfl) trivial rfl (by decide) (PReader.cat rfl rfl rfl (by first | omega | (simp only [List.length_append, List.length_cons, List.length_nil]; omega) | (simp; omega)) (c := s1 ++ [32, 114, 111, 111, 109]) rfl) ?_
              refine SAny.take 2 rfl (by kernel_rfl) (by kernel_rfl) (by kernel_rfl) trivial rfl (by decide) (PReader.fieldL rfl ⟨_, _, Tryd.underlying34, rfl, rfl, rfl, sizeOf_3⟩ (by decide) rfl) ?_
              refine SAny.take 5 rfl (by kernel_rfl) (by kernel_rfl) (by kernel_rfl) trivial rfl (by decide) (PReader.move (.inr rfl) (ok_const rfl) (v := .str (s1 ++ [32, 114, 111, 111, 109])) rfl) ?_
              refine SAny.step [3] (by kernel_rfl) (by decide) ?_
              intro iq hq; simp only [List.mem_cons, List.mem_nil_iff, or_false] at hq
              rcases hq with rfl
              · refine ⟨_, rfl, ?_⟩
                refine AOps.read trivial rfl (by decide) (Reader.loadL rfl Tryd.underlying3 sizeOf_3 rfl rfl (v := .lit (.int .i64 e.sig)) rfl rfl) ?_
                refine AOps.nil ?_
                refine SAny.take 4 rfl (by kernel_rfl) (by kernel_rfl) (by kernel_rfl) trivial rfl (by decide) (PReader.int rfl rfl rfl (r := .bool (e.sig == 0)) rfl) ?_
                refine SAny.take 6 rfl (by kernel_rfl) (by kernel_rfl) (by kernel_rfl) trivial rfl (by decide) (PReader.move (.inr rfl) (ok_const rfl) (v := .lit (.bool (e.sig == 0))) rfl) ?_
                exact SAny.done (by kernel_rfl) rfl
            refine AWp.ret ?_
            exact ⟨.inl rfl, _, ResOf.two 4 5 (.str (s1 ++ [32, 114, 111, 111, 109])) (.lit (.bool (e.sig == 0))) rfl rfl (.inl rfl) (.inl rfl) (by decide), ⟨rl_intro (by rw [Bool.eq_iff_iff, decide_eq_true_iff]; simp only [beq_iff_eq]; exact ⟨fun h => hl_e.2 ⟨(show 1 ≤ e.kind ∧ e.kind ≤ 16 ∧ 0 ≤ r ∧ r ≤ 1099511627776 by assumption), by assumption, by omega⟩, fun h => by obtain ⟨q1, q2, q3⟩ := hl_e.1 h; omega⟩) (fun h => by have a : e.kind = 3 := (by assumption); have b : e.n = 4 := (by assumption); unfold lineE; simp [flE, join_two, Lib.join_one, presL, roomL, Named, hs1, a, b]), rfl⟩⟩
          · skip
            have h13' : ¬ (e.n = 4) := (by have hh := beq_eq_false_iff_ne.1 h13; omega)
            clear h13
            refine AWp.skip ?_
            refine AWp.seq ?_
            refine AWp.seq (AWp.region ?_)
            refine AOps.read trivial rfl (by decide) (Reader.fieldL rfl ⟨_, _, Tryd.underlying34, rfl, rfl, rfl, sizeOf_3⟩ (by decide) rfl) ?_
            refine AOps.read trivial rfl (by decide) (Reader.loadL rfl Tryd.underlying3 sizeOf_3 rfl rfl (v := .lit (.int .i64 e.n)) rfl rfl) ?_
            refine AOps.read trivial rfl (by decide) (Reader.int rfl rfl rfl (r := .bool (e.n != 3)) rfl) ?_
            refine AOps.nil ?_
            refine AWp.cond (b := e.n != 3) rfl (fun h14 => ?_) (fun h14 => ?_)
            · skip
              have h14' : e.n ≠ 3 := (by have hh := bne_iff_ne.1 h14; omega)
              clear h14
              refine AWp.seq (AWp.region ?_)
              refine AOps.read trivial rfl (by decide) (Reader.move (.inr rfl) (ok_const rfl) (v := .str []) rfl) ?_
              refine AOps.read trivial rfl (by decide) (Reader.move (.inr rfl) (ok_const rfl) (v := .lit (.bool false)) rfl) ?_
              refine AOps.nil ?_
              refine AWp.ret ?_
              exact ⟨.inl rfl, _, ResOf.two 4 5 (.str []) (.lit (.bool false)) rfl rfl (.inl rfl) (.inl rfl) (by decide), ⟨rl_false (fun h => by obtain ⟨q1, q2, q3⟩ := hl_e.1 h; first | (exact absurd (by assumption) q2) | omega), rfl⟩⟩
            · skip
              have h14' : ¬ (e.n ≠ 3) := (by have hh := bne_eq_false_iff_eq.1 h14; omega)
              clear h14
              refine AWp.skip ?_
              refine AWp.region ?_
              refine AOps.read trivial rfl (by decide) (Reader.move (.inl rfl) (ok_const rfl) (v := .str s1) rfl) ?_
              refine AOps.read trivial rfl (by decide) (Reader.cat rfl rfl rfl (by first | omega | (simp only [List.length_append, List.length_cons, List.length_nil]; omega) | (simp; omega)) (c := s1 ++ [32, 112, 114, 101, 115, 115, 117, 114, 101]) rfl) ?_
              refine AOps.read trivial rfl (by decide) (Reader.move (.inr rfl) (ok_const rfl) (v := .str (s1 ++ [32, 112, 114, 101, 115, 115, 117, 114, 101])) rfl) ?_
              refine AOps.nil ?_
              exact ⟨_, rfl, .inl ⟨by assumption, by omega, rfl⟩, by first | omega | (simp only [List.length_append, List.length_cons, List.length_nil]; omega)⟩
        · skip
          have h12' : ¬ (e.kind = 3) := (by have hh := beq_eq_false_iff_ne.1 h12; omega)
          clear h12
          refine AWp.skip ?_
          exact ⟨_, rfl, .inr ⟨by assumption, rfl⟩, by first | omega | (simp only [List.length_append, List.length_cons, List.length_nil]; omega)⟩
      rintro _ ⟨s2, rfl, hs2, hs2l⟩
      refine AWp.seq ?_
      refine AWp.regionJ [95, 55, 8, 21, 0, 1, 3, 4, 5, 6, 56, 64, 7] [3] (fun z => ⟨(95, .lit (.bool z)) :: [(55, .lit (.bool (bif (bif (e.kind != 6) then (bif (e.kind != 7) then (e.kind != 16) else false) else false) then (bif (!(wordB e.id)) then true else (bif (!(bif (e.kind != 6) then (bif (e.kind != 7) then (e.kind != 16) else false) else false)) then (!(e.id == [])) else false)) else (bif (!(bif (e.kind != 6) then (bif (e.kind != 7) then (e.kind != 16) else false) else false)) then (!(e.id == [])) else false)))), (8, .lit (.bool (bif (e.kind != 6) then (bif (e.kind != 7) then (e.kind != 16) else false) else false))), (21, .lit (.bool (bif ((kwOf e.kind) == []) then true else (bif (decide (r < 0)) then true else (decide (r > 1099511627776)))))), (0, .lit (.int .i64 r)), (1, encE e), (3, .lptr 3 0), (4, .str []), (5, .lit (.bool false)), (6, .str (kwOf e.kind)), (56, .lit (.bool (bif (e.kind != 6) then (bif (e.kind != 7) then (e.kind != 16) else false) else false))), (64, .lit (.bool (e.kind == 3))), (7, .str s2)], [(3, [.lit (.int .i64 e.kind), .str e.id, .lit (.int .i64 e.sig), .lit (.int .i64 e.n)])], M⟩) (z := bif (e.kind == 3) then true else (bif (e.kind == 5) then true else (bif (e.kind == 6) then true else (e.kind == 7)))) ?_ ?_
      · skip
        refine AOps.read trivial rfl (by decide) (Reader.fieldL rfl ⟨_, _, Tryd.underlying34, rfl, rfl, rfl, sizeOf_3⟩ (by decide) rfl) ?_
        refine AOps.read trivial rfl (by decide) (Reader.loadL rfl Tryd.underlying3 sizeOf_3 rfl rfl (v := .lit (.int .i64 e.kind)) rfl rfl) ?_
        refine AOps.read trivial rfl (by decide) (Reader.int rfl rfl rfl (r := .bool (e.kind == 3)) rfl) ?_
        refine AOps.read trivial rfl (by decide) (Reader.move (.inl rfl) (ok_const rfl) (v := .lit (.bool (e.kind == 3))) rfl) ?_
        refine AOps.splitJ (t := 81) (b := e.kind == 3) (x := true) (y := (bif (e.kind == 5) then true else (bif (e.kind == 6) then true else (e.kind == 7)))) rfl (fun h15 => ?_) (fun h15 => ?_)
        · skip
          have h15' : e.kind = 3 := (by have hh := eq_of_beq h15; omega)
          clear h15
          refine AOps.skip ⟨3, false, 81, _, rfl, rfl, rfl, by simp⟩ rfl (by decide) ?_
          refine AOps.skip ⟨3, false, 81, _, rfl, rfl, rfl, by simp⟩ rfl (by decide) ?_
          refine AOps.skip ⟨3, false, 81, _, rfl, rfl, rfl, by simp⟩ rfl (by decide) ?_
          refine AOps.read trivial rfl (by decide) (Reader.pick rfl (b := true) rfl (ok_const rfl) (ok_const rfl) (v := .lit (.bool true)) rfl) ?_
          refine AOps.read trivial rfl (by decide) (Reader.move (.inl rfl) (ok_const rfl) (v := .lit (.bool true)) rfl) ?_
          refine AOps.skip ⟨8, false, 86, _, rfl, rfl, rfl, by simp⟩ rfl (by decide) ?_
          refine AOps.skip ⟨8, false, 86, _, rfl, rfl, rfl, by simp⟩ rfl (by decide) ?_
          refine AOps.skip ⟨8, false, 86, _, rfl, rfl, rfl, by simp⟩ rfl (by decide) ?_
          refine AOps.read trivial rfl (by decide) (Reader.pick rfl (b := true) rfl (ok_const rfl) (ok_const rfl) (v := .lit (.bool true)) rfl) ?_
          refine AOps.read trivial rfl (by decide) (Reader.move (.inl rfl) (ok_const rfl) (v := .lit (.bool true)) rfl) ?_
          refine AOps.skip ⟨13, false, 91, _, rfl, rfl, rfl, by simp⟩ rfl (by decide) ?_
          refine AOps.skip ⟨13, false, 91, _, rfl, rfl, rfl, by simp⟩ rfl (by decide) ?_
          refine AOps.skip ⟨13, false, 91, _, rfl, rfl, rfl, by simp⟩ rfl (by decide) ?_
          refine AOps.read trivial rfl (by decide) (Reader.pick rfl (b := true) rfl (ok_const rfl) (ok_const rfl) (v := .lit (.bool true)) rfl) ?_
          exact AOps.nil rfl
        · skip
          have h15' : ¬ (e.kind = 3) := (by have hh := beq_eq_false_iff_ne.1 h15; omega)
          clear h15
          refine AOps.read ⟨81, rfl, rfl⟩ rfl (by decide) (Reader.fieldL rfl ⟨_, _, Tryd.underlying34, rfl, rfl, rfl, sizeOf_3⟩ (by decide) rfl) ?_
          refine AOps.read ⟨81, rfl, rfl⟩ rfl (by decide) (Reader.loadL rfl Tryd.underlying3 sizeOf_3 rfl rfl (v := .lit (.int .i64 e.kind)) rfl rfl) ?_
          refine AOps.read ⟨81, rfl, rfl⟩ rfl (by decide) (Reader.int rfl rfl rfl (r := .bool (e.kind == 5)) rfl) ?_
          refine AOps.read trivial rfl (by decide) (Reader.pick rfl (b := false) rfl (ok_const rfl) (ok_const rfl) (v := .lit (.bool (e.kind == 5))) rfl) ?_
          refine AOps.read trivial rfl (by decide) (Reader.move (.inl rfl) (ok_const rfl) (v := .lit (.bool (e.kind == 5))) rfl) ?_
          refine AOps.splitJ (t := 86) (b := e.kind == 5) (x := true) (y := (bif (e.kind == 6) then true else (e.kind == 7))) rfl (fun h16 => ?_) (fun h16 => ?_)
          · skip
            have h16' : e.kind = 5 := (by have hh := eq_of_beq h16; omega)
            clear h16
            refine AOps.skip ⟨8, false, 86, _, rfl, rfl, rfl, by simp⟩ rfl (by decide) ?_
            refine AOps.skip ⟨8, false, 86, _, rfl, rfl, rfl, by simp⟩ rfl (by decide) ?_
            refine AOps.skip ⟨8, false, 86, _, rfl, rfl, rfl, by simp⟩ rfl (by decide) ?_
            refine AOps.read trivial rfl (by decide) (Reader.pick rfl (b := true) rfl (ok_const rfl) (ok_const rfl) (v := .lit (.bool true)) rfl) ?_
            refine AOps.read trivial rfl (by decide) (Reader.move (.inl rfl) (ok_const rfl) (v := .lit (.bool true)) rfl) ?_
            refine AOps.skip ⟨13, false, 91, _, rfl, rfl, rfl, by simp⟩ rfl (by decide) ?_
            refine AOps.skip ⟨13, false, 91, _, rfl, rfl, rfl, by simp⟩ rfl (by decide) ?_
            refine AOps.skip ⟨13, false, 91, _, rfl, rfl, rfl, by simp⟩ rfl (by decide) ?_
            refine AOps.read trivial rfl (by decide) (Reader.pick rfl (b := true) rfl (ok_const rfl) (ok_const rfl) (v := .lit (.bool true)) rfl) ?_
            exact AOps.nil rfl
          · skip
            have h16' : ¬ (e.kind = 5) := (by have hh := beq_eq_false_iff_ne.1 h16; omega)
            clear h16
            refine AOps.read ⟨86, rfl, rfl⟩ rfl (by decide) (Reader.fieldL rfl ⟨_, _, Tryd.underlying34, rfl, rfl, rfl, sizeOf_3⟩ (by decide) rfl) ?_
            refine AOps.read ⟨86, rfl, rfl⟩ rfl (by decide) (Reader.loadL rfl Tryd.underlying3 sizeOf_3 rfl rfl (v := .lit (.int .i64 e.kind)) rfl rfl) ?_
            refine AOps.read ⟨86, rfl, rfl⟩ rfl (by decide) (Reader.int rfl rfl rfl (r := .bool (e.kind == 6)) rfl) ?_
            refine AOps.read trivial rfl (by decide) (Reader.pick rfl (b := false) rfl (ok_const rfl) (ok_const rfl) (v := .lit (.bool (e.kind == 6))) rfl) ?_
            refine AOps.read trivial rfl (by decide) (Reader.move (.inl rfl) (ok_const rfl) (v := .lit (.bool (e.kind == 6))) rfl) ?_
            refine AOps.splitJ (t := 91) (b := e.kind == 6) (x := true) (y := (e.kind == 7)) rfl (fun h17 => ?_) (fun h17 => ?_)
            · skip
              have h17' : e.kind = 6 := (by have hh := eq_of_beq h17; omega)
              clear h17
              refine AOps.skip ⟨13, false, 91, _, rfl, rfl, rfl, by simp⟩ rfl (by decide) ?_
              refine AOps.skip ⟨13, false, 91, _, rfl, rfl, rfl, by simp⟩ rfl (by decide) ?_
              refine AOps.skip ⟨13, false, 91, _, rfl, rfl, rfl, by simp⟩ rfl (by decide) ?_
              refine AOps.read trivial rfl (by decide) (Reader.pick rfl (b := true) rfl (ok_const rfl) (ok_const rfl) (v := .lit (.bool true)) rfl) ?_
              exact AOps.nil rfl
            · skip
              have h17' : ¬ (e.kind = 6) := (by have hh := beq_eq_false_iff_ne.1 h17; omega)
              clear h17
              refine AOps.read ⟨91, rfl, rfl⟩ rfl (by decide) (Reader.fieldL rfl ⟨_, _, Tryd.underlying34, rfl, rfl, rfl, sizeOf_3⟩ (by decide) rfl) ?_
              refine AOps.read ⟨91, rfl, rfl⟩ rfl (by decide) (Reader.loadL rfl Tryd.underlying3 sizeOf_3 rfl rfl (v := .lit (.int .i64 e.kind)) rfl rfl) ?_
              refine AOps.read ⟨91, rfl, rfl⟩ rfl (by decide) (Reader.int rfl rfl rfl (r := .bool (e.kind == 7)) rfl) ?_
              refine AOps.read trivial rfl (by decide) (Reader.pick rfl (b := false) rfl (ok_const rfl) (ok_const rfl) (v := .lit (.bool (e.kind == 7))) rfl) ?_
              exact AOps.nil rfl
      have hz1 : (bif (e.kind == 3) then true else (bif (e.kind == 5) then true else (bif (e.kind == 6) then true else (e.kind == 7)))) = decide (e.kind = 3 ∨ e.kind = 5 ∨ e.kind = 6 ∨ e.kind = 7) := by rw [Bool.eq_iff_iff, decide_eq_true_iff]; simp only [Bool.cond_eq_ite]; (repeat' split) <;> simp_all <;> omega
      refine AWp.cond (b := bif (e.kind == 3) then true else (bif (e.kind == 5) then true else (bif (e.kind == 6) then true else (e.kind == 7)))) rfl (fun h18 => ?_) (fun h18 => ?_)
      · skip
        have h18' : e.kind = 3 ∨ e.kind = 5 ∨ e.kind = 6 ∨ e.kind = 7 := (of_decide_eq_true (hz1.symm.trans h18))
        clear h18
        refine AWp.seq ?_
        refine AWp.regionJ [113, 95, 55, 8, 21, 0, 1, 3, 4, 5, 6, 56, 64, 7] [3] (fun z => ⟨(113, .lit (.bool z)) :: [(95, .lit (.bool (bif (e.kind == 3) then true else (bif (e.kind == 5) then true else (bif (e.kind == 6) then true else (e.kind == 7)))))), (55, .lit (.bool (bif (bif (e.kind != 6) then (bif (e.kind != 7) then (e.kind != 16) else false) else false) then (bif (!(wordB e.id)) then true else (bif (!(bif (e.kind != 6) then (bif (e.kind != 7) then (e.kind != 16) else false) else false)) then (!(e.id == [])) else false)) else (bif (!(bif (e.kind != 6) then (bif (e.kind != 7) then (e.kind != 16) else false) else false)) then (!(e.id == [])) else false)))), (8, .lit (.bool (bif (e.kind != 6) then (bif (e.kind != 7) then (e.kind != 16) else false) else false))), (21, .lit (.bool (bif ((kwOf e.kind) == []) then true else (bif (decide (r < 0)) then true else (decide (r > 1099511627776)))))), (0, .lit (.int .i64 r)), (1, encE e), (3, .lptr 3 0), (4, .str []), (5, .lit (.bool false)), (6, .str (kwOf e.kind)), (56, .lit (.bool (bif (e.kind != 6) then (bif (e.kind != 7) then (e.kind != 16) else false) else false))), (64, .lit (.bool (e.kind == 3))), (7, .str s2)], [(3, [.lit (.int .i64 e.kind), .str e.id, .lit (.int .i64 e.sig), .lit (.int .i64 e.n)])], M⟩) (z := bif (decide (e.sig < 0)) then true else (bif (decide (e.sig > 2)) then true else (bif (e.kind != 3) then (e.n != 0) else false))) ?_ ?_
        · skip
          refine AOps.read trivial rfl (by decide) (Reader.fieldL rfl ⟨_, _, Tryd.underlying34, rfl, rfl, rfl, sizeOf_3⟩ (by decide) rfl) ?_
          refine AOps.read trivial rfl (by decide) (Reader.loadL rfl Tryd.underlying3 sizeOf_3 rfl rfl (v := .lit (.int .i64 e.sig)) rfl rfl) ?_
          refine AOps.read trivial rfl (by decide) (Reader.int rfl rfl rfl (r := .bool (decide (e.sig < 0))) rfl) ?_
          refine AOps.read trivial rfl (by decide) (Reader.move (.inl rfl) (ok_const rfl) (v := .lit (.bool (decide (e.sig < 0)))) rfl) ?_
          refine AOps.splitJ (t := 99) (b := decide (e.sig < 0)) (x := true) (y := (bif (decide (e.sig > 2)) then true else (bif (e.kind != 3) then (e.n != 0) else false))) rfl (fun h19 => ?_) (fun h19 => ?_)
          · skip
            have h19' : e.sig < 0 := (by have hh := of_decide_eq_true h19; omega)
            clear h19
            refine AOps.skip ⟨3, false, 99, _, rfl, rfl, rfl, by simp⟩ rfl (by decide) ?_
            refine AOps.skip ⟨3, false, 99, _, rfl, rfl, rfl, by simp⟩ rfl (by decide) ?_
            refine AOps.skip ⟨3, false, 99, _, rfl, rfl, rfl, by simp⟩ rfl (by decide) ?_
            refine AOps.read trivial rfl (by decide) (Reader.pick rfl (b := true) rfl (ok_const rfl) (ok_const rfl) (v := .lit (.bool true)) rfl) ?_
            refine AOps.read trivial rfl (by decide) (Reader.move (.inl rfl) (ok_const rfl) (v := .lit (.bool true)) rfl) ?_
            refine AOps.skip ⟨8, false, 104, _, rfl, rfl, rfl, by simp⟩ rfl (by decide) ?_
            refine AOps.skip ⟨8, false, 104, _, rfl, rfl, rfl, by simp⟩ rfl (by decide) ?_
            refine AOps.skip ⟨8, false, 104, _, rfl, rfl, rfl, by simp⟩ rfl (by decide) ?_
            refine AOps.skip ⟨8, false, 104, _, rfl, rfl, rfl, by simp⟩ rfl (by decide) ?_
            refine AOps.skip ⟨12, true, 108, _, rfl, rfl, rfl, by simp [undef]⟩ rfl (by decide) ?_
            refine AOps.skip ⟨12, true, 108, _, rfl, rfl, rfl, by simp [undef]⟩ rfl (by decide) ?_
            refine AOps.skip ⟨12, true, 108, _, rfl, rfl, rfl, by simp [undef]⟩ rfl (by decide) ?_
            refine AOps.skip ⟨8, false, 104, _, rfl, rfl, rfl, by simp⟩ rfl (by decide) ?_
            refine AOps.read trivial rfl (by decide) (Reader.pick rfl (b := true) rfl (ok_const rfl) (ok_const rfl) (v := .lit (.bool true)) rfl) ?_
            exact AOps.nil rfl
          · skip
            have h19' : ¬ (e.sig < 0) := (by have hh := of_decide_eq_false h19; omega)
            clear h19
            refine AOps.read ⟨99, rfl, rfl⟩ rfl (by decide) (Reader.fieldL rfl ⟨_, _, Tryd.underlying34, rfl, rfl, rfl, sizeOf_3⟩ (by decide) rfl) ?_
            refine AOps.read ⟨99, rfl, rfl⟩ rfl (by decide) (Reader.loadL rfl Tryd.underlying3 sizeOf_3 rfl rfl (v := .lit (.int .i64 e.sig)) rfl rfl) ?_
            refine AOps.read ⟨99, rfl, rfl⟩ rfl (by decide) (Reader.int rfl rfl rfl (r := .bool (decide (e.sig > 2))) rfl) ?_
            refine AOps.read trivial rfl (by decide) (Reader.pick rfl (b := false) rfl (ok_const rfl) (ok_const rfl) (v := .lit (.bool (decide (e.sig > 2)))) rfl) ?_
            refine AOps.read trivial rfl (by decide) (Reader.move (.inl rfl) (ok_const rfl) (v := .lit (.bool (decide (e.sig > 2)))) rfl) ?_
            refine AOps.splitJ (t := 104) (b := decide (e.sig > 2)) (x := true) (y := (bif (e.kind != 3) then (e.n != 0) else false)) rfl (fun h20 => ?_) (fun h20 => ?_)
            · skip
              have h20' : e.sig > 2 := (by have hh := of_decide_eq_true h20; omega)
              clear h20
              refine AOps.skip ⟨8, false, 104, _, rfl, rfl, rfl, by simp⟩ rfl (by decide) ?_
              refine AOps.skip ⟨8, false, 104, _, rfl, rfl, rfl, by simp⟩ rfl (by decide) ?_
              refine AOps.skip ⟨8, false, 104, _, rfl, rfl, rfl, by simp⟩ rfl (by decide) ?_
              refine AOps.skip ⟨8, false, 104, _, rfl, rfl, rfl, by simp⟩ rfl (by decide) ?_
              refine AOps.skip ⟨12, true, 108, _, rfl, rfl, rfl, by simp [undef]⟩ rfl (by decide) ?_
              refine AOps.skip ⟨12, true, 108, _, rfl, rfl, rfl, by simp [undef]⟩ rfl (by decide) ?_
              refine AOps.skip ⟨12, true, 108, _, rfl, rfl, rfl, by simp [undef]⟩ rfl (by decide) ?_
              refine AOps.skip ⟨8, false, 104, _, rfl, rfl, rfl, by simp⟩ rfl (by decide) ?_
              refine AOps.read trivial rfl (by decide) (Reader.pick rfl (b := true) rfl (ok_const rfl) (ok_const rfl) (v := .lit (.bool true)) rfl) ?_
              exact AOps.nil rfl
            · skip
              have h20' : ¬ (e.sig > 2) := (by have hh := of_decide_eq_false h20; omega)
              clear h20
              refine AOps.read ⟨104, rfl, rfl⟩ rfl (by decide) (Reader.fieldL rfl ⟨_, _, Tryd.underlying34, rfl, rfl, rfl, sizeOf_3⟩ (by decide) rfl) ?_
              refine AOps.read ⟨104, rfl, rfl⟩ rfl (by decide) (Reader.loadL rfl Tryd.underlying3 sizeOf_3 rfl rfl (v := .lit (.int .i64 e.kind)) rfl rfl) ?_
              refine AOps.read ⟨104, rfl, rfl⟩ rfl (by decide) (Reader.int rfl rfl rfl (r := .bool (e.kind != 3)) rfl) ?_
              refine AOps.read ⟨104, rfl, rfl⟩ rfl (by decide) (Reader.move (.inl rfl) (ok_const rfl) (v := .lit (.bool (e.kind != 3))) rfl) ?_
              refine AOps.splitJ (t := 108) (b := e.kind != 3) (x := (e.n != 0)) (y := false) rfl (fun h21 => ?_) (fun h21 => ?_)
              · skip
                have h21' : e.kind ≠ 3 := (by have hh := bne_iff_ne.1 h21; omega)
                clear h21
                refine AOps.read ⟨108, rfl, rfl⟩ rfl (by decide) (Reader.fieldL rfl ⟨_, _, Tryd.underlying34, rfl, rfl, rfl, sizeOf_3⟩ (by decide) rfl) ?_
                refine AOps.read ⟨108, rfl, rfl⟩ rfl (by decide) (Reader.loadL rfl Tryd.underlying3 sizeOf_3 rfl rfl (v := .lit (.int .i64 e.n)) rfl rfl) ?_
                refine AOps.read ⟨108, rfl, rfl⟩ rfl (by decide) (Reader.int rfl rfl rfl (r := .bool (e.n != 0)) rfl) ?_
                refine AOps.read ⟨104, rfl, rfl⟩ rfl (by decide) (Reader.pick rfl (b := true) rfl (ok_const rfl) (ok_const rfl) (v := .lit (.bool (e.n != 0))) rfl) ?_
                refine AOps.read trivial rfl (by decide) (Reader.pick rfl (b := false) rfl (ok_const rfl) (ok_const rfl) (v := .lit (.bool (e.n != 0))) rfl) ?_
                exact AOps.nil rfl
              · skip
                have h21' : ¬ (e.kind ≠ 3) := (by have hh := bne_eq_false_iff_eq.1 h21; omega)
                clear h21
                refine AOps.skip ⟨12, true, 108, _, rfl, rfl, rfl, by simp⟩ rfl (by decide) ?_
                refine AOps.skip ⟨12, true, 108, _, rfl, rfl, rfl, by simp⟩ rfl (by decide) ?_
                refine AOps.skip ⟨12, true, 108, _, rfl, rfl, rfl, by simp⟩ rfl (by decide) ?_
                refine AOps.read ⟨104, rfl, rfl⟩ rfl (by decide) (Reader.pick rfl (b := false) rfl (ok_const rfl) (ok_const rfl) (v := .lit (.bool false)) rfl) ?_
                refine AOps.read trivial rfl (by decide) (Reader.pick rfl (b := false) rfl (ok_const rfl) (ok_const rfl) (v := .lit (.bool false)) rfl) ?_
                exact AOps.nil rfl
        have hz2 : (bif (decide (e.sig < 0)) then true else (bif (decide (e.sig > 2)) then true else (bif (e.kind != 3) then (e.n != 0) else false))) = decide ((e.sig < 0 ∨ e.sig > 2) ∨ (¬ e.kind = 3 ∧ ¬ e.n = 0)) := by rw [Bool.eq_iff_iff, decide_eq_true_iff]; simp only [Bool.cond_eq_ite]; (repeat' split) <;> simp_all <;> omega
        refine AWp.cond (b := bif (decide (e.sig < 0)) then true else (bif (decide (e.sig > 2)) then true else (bif (e.kind != 3) then (e.n != 0) else false))) rfl (fun h22 => ?_) (fun h22 => ?_)
        · skip
          have h22' : (e.sig < 0 ∨ e.sig > 2) ∨ (¬ e.kind = 3 ∧ ¬ e.n = 0) := (of_decide_eq_true (hz2.symm.trans h22))
          clear h22
          refine AWp.seq (AWp.region ?_)
          refine AOps.read trivial rfl (by decide) (Reader.move (.inr rfl) (ok_const rfl) (v := .str []) rfl) ?_
          refine AOps.read trivial rfl (by decide) (Reader.move (.inr rfl) (ok_const rfl) (v := .lit (.bool false)) rfl) ?_
          refine AOps.nil ?_
          refine AWp.ret ?_
          exact ⟨.inl rfl, _, ResOf.two 4 5 (.str []) (.lit (.bool false)) rfl rfl (.inl rfl) (.inl rfl) (by decide), ⟨rl_false (fun h => by obtain ⟨q1, q2, q3⟩ := hl_e.1 h; first | (exact absurd (by assumption) q2) | omega), rfl⟩⟩
        · skip
          have h22' : ¬ ((e.sig < 0 ∨ e.sig > 2) ∨ (¬ e.kind = 3 ∧ ¬ e.n = 0)) := (of_decide_eq_false (hz2.symm.trans h22))
          clear h22
          refine AWp.skip ?_
          refine AWp.seq (AWp.region ?_)
          refine AOps.read trivial rfl (by decide) (Reader.move (.inl rfl) (ok_const rfl) (v := .str s2) rfl) ?_
          refine AOps.read trivial rfl (by decide) (Reader.cat rfl rfl rfl (by first | omega | (simp only [List.length_append, List.length_cons, List.length_nil]; omega) | (simp; omega)) (c := s2 ++ [32]) rfl) ?_
          refine AOps.read trivial rfl (by decide) (Reader.fieldL rfl ⟨_, _, Tryd.underlying34, rfl, rfl, rfl, sizeOf_3⟩ (by decide) rfl) ?_
          refine AOps.read trivial rfl (by decide) (Reader.loadL rfl Tryd.underlying3 sizeOf_3 rfl rfl (v := .lit (.int .i64 e.sig)) rfl rfl) ?_
          refine AOps.call (args := [.lit (.int .i64 e.sig)]) trivial rfl (by decide) rfl rfl Tryd.call41 (args_ok rfl) rfl (by intro j x v hx hv; match j, hx, hv with | 0, hx, hv => cases hx; cases hv; exact .inl ⟨rfl, rfl⟩ | _ + 1, hx, hv => cases hx) (lrw06_any e.sig M) ?_
          rintro _ _ ⟨rfl, rfl⟩
          refine AOps.read trivial rfl (by decide) (Reader.cat rfl rfl rfl (by first | omega | (simp only [List.length_append, List.length_cons, List.length_nil]; omega) | (simp; omega)) (c := (s2 ++ [32]) ++ (wordOf e.sig)) rfl) ?_
          refine AOps.read trivial rfl (by decide) (Reader.move (.inr rfl) (ok_const rfl) (v := .str ((s2 ++ [32]) ++ (wordOf e.sig))) rfl) ?_
          refine AOps.read trivial rfl (by decide) (Reader.move (.inr rfl) (ok_const rfl) (v := .lit (.bool true)) rfl) ?_
          refine AOps.nil ?_
          refine AWp.ret ?_
          exact ⟨.inl rfl, _, ResOf.two 4 5 (.str ((s2 ++ [32]) ++ (wordOf e.sig))) (.lit (.bool true)) rfl rfl (.inl rfl) (.inl rfl) (by decide), ⟨rl_intro ((decide_eq_true (hl_e.2 ⟨(show 1 ≤ e.kind ∧ e.kind ≤ 16 ∧ 0 ≤ r ∧ r ≤ 1099511627776 by assumption), by assumption, by omega⟩)).symm) (fun h => by unfold lineE; have e1 : sgw e.sig = wordOf e.sig := sgw_in (by omega); rcases hs2 with ⟨a, b, rfl⟩ | ⟨a, rfl⟩ <;> first | (simp [flE, join_two, Lib.join_one, presL, roomL, Named, hs1, a, b, e1]; done) | (rcases (show e.kind = 5 ∨ e.kind = 6 ∨ e.kind = 7 by omega) with q | q | q <;> simp [flE, join_two, Lib.join_one, presL, roomL, Named, hs1, q, e1]; done)), rfl⟩⟩
      · skip
        have h18' : ¬ (e.kind = 3 ∨ e.kind = 5 ∨ e.kind = 6 ∨ e.kind = 7) := (of_decide_eq_false (hz1.symm.trans h18))
        clear h18
        refine AWp.skip ?_
        refine AWp.seq ?_
        refine AWp.regionJ [132, 95, 55, 8, 21, 0, 1, 3, 4, 5, 6, 56, 64, 7] [3] (fun z => ⟨(132, .lit (.bool z)) :: [(95, .lit (.bool (bif (e.kind == 3) then true else (bif (e.kind == 5) then true else (bif (e.kind == 6) then true else (e.kind == 7)))))), (55, .lit (.bool (bif (bif (e.kind != 6) then (bif (e.kind != 7) then (e.kind != 16) else false) else false) then (bif (!(wordB e.id)) then true else (bif (!(bif (e.kind != 6) then (bif (e.kind != 7) then (e.kind != 16) else false) else false)) then (!(e.id == [])) else false)) else (bif (!(bif (e.kind != 6) then (bif (e.kind != 7) then (e.kind != 16) else false) else false)) then (!(e.id == [])) else false)))), (8, .lit (.bool (bif (e.kind != 6) then (bif (e.kind != 7) then (e.kind != 16) else false) else false))), (21, .lit (.bool (bif ((kwOf e.kind) == []) then true else (bif (decide (r < 0)) then true else (decide (r > 1099511627776)))))), (0, .lit (.int .i64 r)), (1, encE e), (3, .lptr 3 0), (4, .str []), (5, .lit (.bool false)), (6, .str (kwOf e.kind)), (56, .lit (.bool (bif (e.kind != 6) then (bif (e.kind != 7) then (e.kind != 16) else false) else false))), (64, .lit (.bool (e.kind == 3))), (7, .str s2)], [(3, [.lit (.int .i64 e.kind), .str e.id, .lit (.int .i64 e.sig), .lit (.int .i64 e.n)])], M⟩) (z := bif (e.kind == 9) then true else (bif (e.kind == 14) then true else (e.kind == 16))) ?_ ?_
        · skip
          refine AOps.read trivial rfl (by decide) (Reader.fieldL rfl ⟨_, _, Tryd.underlying34, rfl, rfl, rfl, sizeOf_3⟩ (by decide) rfl) ?_
          refine AOps.read trivial rfl (by decide) (Reader.loadL rfl Tryd.underlying3 sizeOf_3 rfl rfl (v := .lit (.int .i64 e.kind)) rfl rfl) ?_
          refine AOps.read trivial rfl (by decide) (Reader.int rfl rfl rfl (r := .bool (e.kind == 9)) rfl) ?_
          refine AOps.read trivial rfl (by decide) (Reader.move (.inl rfl) (ok_const rfl) (v := .lit (.bool (e.kind == 9))) rfl) ?_
          refine AOps.splitJ (t := 123) (b := e.kind == 9) (x := true) (y := (bif (e.kind == 14) then true else (e.kind == 16))) rfl (fun h23 => ?_) (fun h23 => ?_)
          · skip
            have h23' : e.kind = 9 := (by have hh := eq_of_beq h23; omega)
            clear h23
            refine AOps.skip ⟨3, false, 123, _, rfl, rfl, rfl, by simp⟩ rfl (by decide) ?_
            refine AOps.skip ⟨3, false, 123, _, rfl, rfl, rfl, by simp⟩ rfl (by decide) ?_
            refine AOps.skip ⟨3, false, 123, _, rfl, rfl, rfl, by simp⟩ rfl (by decide) ?_
            refine AOps.read trivial rfl (by decide) (Reader.pick rfl (b := true) rfl (ok_const rfl) (ok_const rfl) (v := .lit (.bool true)) rfl) ?_
            refine AOps.read trivial rfl (by decide) (Reader.move (.inl rfl) (ok_const rfl) (v := .lit (.bool true)) rfl) ?_
            refine AOps.skip ⟨8, false, 128, _, rfl, rfl, rfl, by simp⟩ rfl (by decide) ?_
            refine AOps.skip ⟨8, false, 128, _, rfl, rfl, rfl, by simp⟩ rfl (by decide) ?_
            refine AOps.skip ⟨8, false, 128, _, rfl, rfl, rfl, by simp⟩ rfl (by decide) ?_
            refine AOps.read trivial rfl (by decide) (Reader.pick rfl (b := true) rfl (ok_const rfl) (ok_const rfl) (v := .lit (.bool true)) rfl) ?_
            exact AOps.nil rfl
          · skip
            have h23' : ¬ (e.kind = 9) := (by have hh := beq_eq_false_iff_ne.1 h23; omega)
            clear h23
            refine AOps.read ⟨123, rfl, rfl⟩ rfl (by decide) (Reader.fieldL rfl ⟨_, _, Tryd.underlying34, rfl, rfl, rfl, sizeOf_3⟩ (by decide) rfl) ?_
            refine AOps.read ⟨123, rfl, rfl⟩ rfl (by decide) (Reader.loadL rfl Tryd.underlying3 sizeOf_3 rfl rfl (v := .lit (.int .i64 e.kind)) rfl rfl) ?_
            refine AOps.read ⟨123, rfl, rfl⟩ rfl (by decide) (Reader.int rfl rfl rfl (r := .bool (e.kind == 14)) rfl) ?_
            refine AOps.read trivial rfl (by decide) (Reader.pick rfl (b := false) rfl (ok_const rfl) (ok_const rfl) (v := .lit (.bool (e.kind == 14))) rfl) ?_
            refine AOps.read trivial rfl (by decide) (Reader.move (.inl rfl) (ok_const rfl) (v := .lit (.bool (e.kind == 14))) rfl) ?_
            refine AOps.splitJ (t := 128) (b := e.kind == 14) (x := true) (y := (e.kind == 16)) rfl (fun h24 => ?_) (fun h24 => ?_)
            · skip
              have h24' : e.kind = 14 := (by have hh := eq_of_beq h24; omega)
              clear h24
              refine AOps.skip ⟨8, false, 128, _, rfl, rfl, rfl, by simp⟩ rfl (by decide) ?_
              refine AOps.skip ⟨8, false, 128, _, rfl, rfl, rfl, by simp⟩ rfl (by decide) ?_
              refine AOps.skip ⟨8, false, 128, _, rfl, rfl, rfl, by simp⟩ rfl (by decide) ?_
              refine AOps.read trivial rfl (by decide) (Reader.pick rfl (b := true) rfl (ok_const rfl) (ok_const rfl) (v := .lit (.bool true)) rfl) ?_
              exact AOps.nil rfl
            · skip
              have h24' : ¬ (e.kind = 14) := (by have hh := beq_eq_false_iff_ne.1 h24; omega)
              clear h24
              refine AOps.read ⟨128, rfl, rfl⟩ rfl (by decide) (Reader.fieldL rfl ⟨_, _, Tryd.underlying34, rfl, rfl, rfl, sizeOf_3⟩ (by decide) rfl) ?_
              refine AOps.read ⟨128, rfl, rfl⟩ rfl (by decide) (Reader.loadL rfl Tryd.underlying3 sizeOf_3 rfl rfl (v := .lit (.int .i64 e.kind)) rfl rfl) ?_
              refine AOps.read ⟨128, rfl, rfl⟩ rfl (by decide) (Reader.int rfl rfl rfl (r := .bool (e.kind == 16)) rfl) ?_
              refine AOps.read trivial rfl (by decide) (Reader.pick rfl (b := false) rfl (ok_const rfl) (ok_const rfl) (v := .lit (.bool (e.kind == 16))) rfl) ?_
              exact AOps.nil rfl
        have hz3 : (bif (e.kind == 9) then true else (bif (e.kind == 14) then true else (e.kind == 16))) = decide (e.kind = 9 ∨ e.kind = 14 ∨ e.kind = 16) := by rw [Bool.eq_iff_iff, decide_eq_true_iff]; simp only [Bool.cond_eq_ite]; (repeat' split) <;> simp_all <;> omega
        refine AWp.cond (b := bif (e.kind == 9) then true else (bif (e.kind == 14) then true else (e.kind == 16))) rfl (fun h25 => ?_) (fun h25 => ?_)
        · skip
          have h25' : e.kind = 9 ∨ e.kind = 14 ∨ e.kind = 16 := (of_decide_eq_true (hz3.symm.trans h25))
          clear h25
          refine AWp.seq ?_
          refine AWp.regionJ [140, 132, 95, 55, 8, 21, 0, 1, 3, 4, 5, 6, 56, 64, 7] [3] (fun z => ⟨(140, .lit (.bool z)) :: [(132, .lit (.bool (bif (e.kind == 9) then true else (bif (e.kind == 14) then true else (e.kind == 16))))), (95, .lit (.bool (bif (e.kind == 3) then true else (bif (e.kind == 5) then true else (bif (e.kind == 6) then true else (e.kind == 7)))))), (55, .lit (.bool (bif (bif (e.kind != 6) then (bif (e.kind != 7) then (e.kind != 16) else false) else false) then (bif (!(wordB e.id)) then true else (bif (!(bif (e.kind != 6) then (bif (e.kind != 7) then (e.kind != 16) else false) else false)) then (!(e.id == [])) else false)) else (bif (!(bif (e.kind != 6) then (bif (e.kind != 7) then (e.kind != 16) else false) else false)) then (!(e.id == [])) else false)))), (8, .lit (.bool (bif (e.kind != 6) then (bif (e.kind != 7) then (e.kind != 16) else false) else false))), (21, .lit (.bool (bif ((kwOf e.kind) == []) then true else (bif (decide (r < 0)) then true else (decide (r > 1099511627776)))))), (0, .lit (.int .i64 r)), (1, encE e), (3, .lptr 3 0), (4, .str []), (5, .lit (.bool false)), (6, .str (kwOf e.kind)), (56, .lit (.bool (bif (e.kind != 6) then (bif (e.kind != 7) then (e.kind != 16) else false) else false))), (64, .lit (.bool (e.kind == 3))), (7, .str s2)], [(3, [.lit (.int .i64 e.kind), .str e.id, .lit (.int .i64 e.sig), .lit (.int .i64 e.n)])], M⟩) (z := bif (decide (e.n < 0)) then true else (e.sig != 0)) ?_ ?_
          · skip
            refine AOps.read trivial rfl (by decide) (Reader.fieldL rfl ⟨_, _, Tryd.underlying34, rfl, rfl, rfl, sizeOf_3⟩ (by decide) rfl) ?_
            refine AOps.read trivial rfl (by decide) (Reader.loadL rfl Tryd.underlying3 sizeOf_3 rfl rfl (v := .lit (.int .i64 e.n)) rfl rfl) ?_
            refine AOps.read trivial rfl (by decide) (Reader.int rfl rfl rfl (r := .bool (decide (e.n < 0))) rfl) ?_
            refine AOps.read trivial rfl (by decide) (Reader.move (.inl rfl) (ok_const rfl) (v := .lit (.bool (decide (e.n < 0)))) rfl) ?_
            refine AOps.splitJ (t := 136) (b := decide (e.n < 0)) (x := true) (y := (e.sig != 0)) rfl (fun h26 => ?_) (fun h26 => ?_)
            · skip
              have h26' : e.n < 0 := (by have hh := of_decide_eq_true h26; omega)
              clear h26
              refine AOps.skip ⟨3, false, 136, _, rfl, rfl, rfl, by simp⟩ rfl (by decide) ?_
              refine AOps.skip ⟨3, false, 136, _, rfl, rfl, rfl, by simp⟩ rfl (by decide) ?_
              refine AOps.skip ⟨3, false, 136, _, rfl, rfl, rfl, by simp⟩ rfl (by decide) ?_
              refine AOps.read trivial rfl (by decide) (Reader.pick rfl (b := true) rfl (ok_const rfl) (ok_const rfl) (v := .lit (.bool true)) rfl) ?_
              exact AOps.nil rfl
            · skip
              have h26' : ¬ (e.n < 0) := (by have hh := of_decide_eq_false h26; omega)
              clear h26
              refine AOps.read ⟨136, rfl, rfl⟩ rfl (by decide) (Reader.fieldL rfl ⟨_, _, Tryd.underlying34, rfl, rfl, rfl, sizeOf_3⟩ (by decide) rfl) ?_
              refine AOps.read ⟨136, rfl, rfl⟩ rfl (by decide) (Reader.loadL rfl Tryd.underlying3 sizeOf_3 rfl rfl (v := .lit (.int .i64 e.sig)) rfl rfl) ?_
              refine AOps.read ⟨136, rfl, rfl⟩ rfl (by decide) (Reader.int rfl rfl rfl (r := .bool (e.sig != 0)) rfl) ?_
              refine AOps.read trivial rfl (by decide) (Reader.pick rfl (b := false) rfl (ok_const rfl) (ok_const rfl) (v := .lit (.bool (e.sig != 0))) rfl) ?_
              exact AOps.nil rfl
          have hz4 : (bif (decide (e.n < 0)) then true else (e.sig != 0)) = decide (e.n < 0 ∨ ¬ e.sig = 0) := by rw [Bool.eq_iff_iff, decide_eq_true_iff]; simp only [Bool.cond_eq_ite]; (repeat' split) <;> simp_all <;> omega
          refine AWp.cond (b := bif (decide (e.n < 0)) then true else (e.sig != 0)) rfl (fun h27 => ?_) (fun h27 => ?_)
          · skip
            have h27' : e.n < 0 ∨ ¬ e.sig = 0 := (of_decide_eq_true (hz4.symm.trans h27))
            clear h27
            refine AWp.seq (AWp.region ?_)
            refine AOps.read trivial rfl (by decide) (Reader.move (.inr rfl) (ok_const rfl) (v := .str []) rfl) ?_
            refine AOps.read trivial rfl (by decide) (Reader.move (.inr rfl) (ok_const rfl) (v := .lit (.bool false)) rfl) ?_
            refine AOps.nil ?_
            refine AWp.ret ?_
            exact ⟨.inl rfl, _, ResOf.two 4 5 (.str []) (.lit (.bool false)) rfl rfl (.inl rfl) (.inl rfl) (by decide), ⟨rl_false (fun h => by obtain ⟨q1, q2, q3⟩ := hl_e.1 h; first | (exact absurd (by assumption) q2) | omega), rfl⟩⟩
          · skip
            have h27' : ¬ (e.n < 0 ∨ ¬ e.sig = 0) := (of_decide_eq_false (hz4.symm.trans h27))
            clear h27
            refine AWp.skip ?_
            refine AWp.seq (AWp.region ?_)
            refine AOps.read trivial rfl (by decide) (Reader.move (.inl rfl) (ok_const rfl) (v := .str s2) rfl) ?_
            refine AOps.read trivial rfl (by decide) (Reader.cat rfl rfl rfl (by first | omega | (simp only [List.length_append, List.length_cons, List.length_nil]; omega) | (simp; omega)) (c := s2 ++ [32]) rfl) ?_
            refine AOps.read trivial rfl (by decide) (Reader.fieldL rfl ⟨_, _, Tryd.underlying34, rfl, rfl, rfl, sizeOf_3⟩ (by decide) rfl) ?_
            refine AOps.read trivial rfl (by decide) (Reader.loadL rfl Tryd.underlying3 sizeOf_3 rfl rfl (v := .lit (.int .i64 e.n)) rfl rfl) ?_
            refine AOps.call (args := [.lit (.int .i64 e.n)]) trivial rfl (by decide) rfl rfl Tryd.call19 (args_ok rfl) rfl (by intro j x v hx hv; match j, hx, hv with | 0, hx, hv => cases hx; cases hv; exact .inl ⟨rfl, rfl⟩ | _ + 1, hx, hv => cases hx) (lDigits_int e.n (by omega) (by omega) M) ?_
            rintro _ _ ⟨rfl, rfl⟩
            have hdn := digs_len20 e.n.toNat (by omega)
            refine AOps.read trivial rfl (by decide) (Reader.cat rfl rfl rfl (by first | omega | (simp only [List.length_append, List.length_cons, List.length_nil]; omega) | (simp; omega)) (c := (s2 ++ [32]) ++ (digs e.n.toNat)) rfl) ?_
            refine AOps.read trivial rfl (by decide) (Reader.move (.inr rfl) (ok_const rfl) (v := .str ((s2 ++ [32]) ++ (digs e.n.toNat))) rfl) ?_
            refine AOps.read trivial rfl (by decide) (Reader.move (.inr rfl) (ok_const rfl) (v := .lit (.bool true)) rfl) ?_
            refine AOps.nil ?_
            refine AWp.ret ?_
            exact ⟨.inl rfl, _, ResOf.two 4 5 (.str ((s2 ++ [32]) ++ (digs e.n.toNat))) (.lit (.bool true)) rfl rfl (.inl rfl) (.inl rfl) (by decide), ⟨rl_intro ((decide_eq_true (hl_e.2 ⟨(show 1 ≤ e.kind ∧ e.kind ≤ 16 ∧ 0 ≤ r ∧ r ≤ 1099511627776 by assumption), by assumption, by omega⟩)).symm) (fun h => by unfold lineE; have e2 : Lib.itoa e.n = digs e.n.toNat := itoa_pos (by omega); rcases hs2 with ⟨a, b, rfl⟩ | ⟨a, rfl⟩ <;> first | (exfalso; omega) | (rcases (show e.kind = 9 ∨ e.kind = 14 ∨ e.kind = 16 by omega) with q | q | q <;> simp [flE, join_two, Lib.join_one, presL, roomL, Named, hs1, q, e2])), rfl⟩⟩
        · skip
          have h25' : ¬ (e.kind = 9 ∨ e.kind = 14 ∨ e.kind = 16) := (of_decide_eq_false (hz3.symm.trans h25))
          clear h25
          refine AWp.skip ?_
          by_cases hbc : e.sig = 0
          · skip
            have hbcb : (e.sig == 0) = true := beq_iff_eq.2 hbc
            refine AWp.seq (AWp.anyR [132, 95, 55, 8, 21, 0, 1, 3, 4, 5, 6, 56, 64, 7] [3] (⟨[(132, .lit (.bool (bif (e.kind == 9) then true else (bif (e.kind == 14) then true else (e.kind == 16))))), (95, .lit (.bool (bif (e.kind == 3) then true else (bif (e.kind == 5) then true else (bif (e.kind == 6) then true else (e.kind == 7)))))), (55, .lit (.bool (bif (bif (e.kind != 6) then (bif (e.kind != 7) then (e.kind != 16) else false) else false) then (bif (!(wordB e.id)) then true else (bif (!(bif (e.kind != 6) then (bif (e.kind != 7) then (e.kind != 16) else false) else false)) then (!(e.id == [])) else false)) else (bif (!(bif (e.kind != 6) then (bif (e.kind != 7) then (e.kind != 16) else false) else false)) then (!(e.id == [])) else false)))), (8, .lit (.bool (bif (e.kind != 6) then (bif (e.kind != 7) then (e.kind != 16) else false) else false))), (21, .lit (.bool (bif ((kwOf e.kind) == []) then true else (bif (decide (r < 0)) then true else (decide (r > 1099511627776)))))), (0, .lit (.int .i64 r)), (1, encE e), (3, .lptr 3 0), (4, .str s2), (5, .lit (.bool (e.n == 0))), (6, .str (kwOf e.kind)), (56, .lit (.bool (bif (e.kind != 6) then (bif (e.kind != 7) then (e.kind != 16) else false) else false))), (64, .lit (.bool (e.kind == 3))), (7, .str s2)], [(3, [.lit (.int .i64 e.kind), .str e.id, .lit (.int .i64 e.sig), .lit (.int .i64 e.n)])], M⟩) (by kernel_rfl) ?_ ?_)
            · skip
              skip
              refine SAny.take 0 rfl (by kernel_rfl) (by kernel_rfl) (by kernel_rfl) trivial rfl (by decide) (PReader.move (.inl rfl) (ok_const rfl) (v := .str s2) rfl) ?_
              refine SAny.take 1 rfl (by kernel_rfl) (by kernel_rfl) (by kernel_rfl) trivial rfl (by decide) (PReader.fieldL rfl ⟨_, _, Tryd.underlying34, rfl, rfl, rfl, sizeOf_3⟩ (by decide) rfl) ?_
              refine SAny.step [2] (by kernel_rfl) (by decide) ?_
              intro iq hq; simp only [List.mem_cons, List.mem_nil_iff, or_false] at hq
              rcases hq with rfl
              · refine ⟨_, rfl, ?_⟩
                refine AOps.read trivial rfl (by decide) (Reader.loadL rfl Tryd.underlying3 sizeOf_3 rfl rfl (v := .lit (.int .i64 e.sig)) rfl rfl) ?_
                refine AOps.nil ?_
                refine SAny.take 3 rfl (by kernel_rfl) (by kernel_rfl) (by kernel_rfl) trivial rfl (by decide) (PReader.int rfl rfl rfl (r := .bool true) (fold_eq hbcb)) ?_
                refine SAny.take 4 rfl (by kernel_rfl) (by kernel_rfl) (by kernel_rfl) trivial rfl (by decide) (PReader.move (.inl rfl) (ok_const rfl) (v := .lit (.bool true)) rfl) ?_
                refine SAny.take 5 rfl (by kernel_rfl) (by kernel_rfl) (by kernel_rfl) ⟨151, rfl, rfl⟩ rfl (by decide) (PReader.fieldL rfl ⟨_, _, Tryd.underlying34, rfl, rfl, rfl, sizeOf_3⟩ (by decide) rfl) ?_
                refine SAny.take 9 rfl (by kernel_rfl) (by kernel_rfl) (by kernel_rfl) trivial rfl (by decide) (PReader.move (.inr rfl) (ok_const rfl) (v := .str s2) rfl) ?_
                refine SAny.step [6] (by kernel_rfl) (by decide) ?_
                intro iq hq; simp only [List.mem_cons, List.mem_nil_iff, or_false] at hq
                rcases hq with rfl
                · refine ⟨_, rfl, ?_⟩
                  refine AOps.read ⟨151, rfl, rfl⟩ rfl (by decide) (Reader.loadL rfl Tryd.underlying3 sizeOf_3 rfl rfl (v := .lit (.int .i64 e.n)) rfl rfl) ?_
                  refine AOps.nil ?_
                  refine SAny.take 7 rfl (by kernel_rfl) (by kernel_rfl) (by kernel_rfl) ⟨151, rfl, rfl⟩ rfl (by decide) (PReader.int rfl rfl rfl (r := .bool (e.n == 0)) rfl) ?_
                  refine SAny.take 8 rfl (by kernel_rfl) (by kernel_rfl) (by kernel_rfl) trivial rfl (by decide) (PReader.pick rfl (b := true) rfl (ok_const rfl) (ok_const rfl) (v := .lit (.bool (e.n == 0))) rfl) ?_
                  refine SAny.take 10 rfl (by kernel_rfl) (by kernel_rfl) (by kernel_rfl) trivial rfl (by decide) (PReader.move (.inr rfl) (ok_const rfl) (v := .lit (.bool (e.n == 0))) rfl) ?_
                  exact SAny.done (by kernel_rfl) rfl
            refine AWp.ret ?_
            exact ⟨.inl rfl, _, ResOf.two 4 5 (.str s2) (.lit (.bool (e.n == 0))) rfl rfl (.inl rfl) (.inl rfl) (by decide), ⟨rl_intro (by rw [Bool.eq_iff_iff, decide_eq_true_iff]; simp only [beq_iff_eq]; exact ⟨fun h => hl_e.2 ⟨(show 1 ≤ e.kind ∧ e.kind ≤ 16 ∧ 0 ≤ r ∧ r ≤ 1099511627776 by assumption), by assumption, by omega⟩, fun h => by obtain ⟨q1, q2, q3⟩ := hl_e.1 h; omega⟩) (fun h => by unfold lineE; rcases hs2 with ⟨a, b, rfl⟩ | ⟨a, rfl⟩ <;> first | (exfalso; omega) | (have c1 : flE e = [e.id] := fl_id (by omega); have c2 : Named e.kind := ⟨by omega, by omega, by omega⟩; simp [join_two, Lib.join_one, hs1, c1, c2])), rfl⟩⟩
          · skip
            have hbcb : (e.sig == 0) = false := beq_eq_false_iff_ne.2 hbc
            refine AWp.seq (AWp.anyR [132, 95, 55, 8, 21, 0, 1, 3, 4, 5, 6, 56, 64, 7] [3] (⟨[(132, .lit (.bool (bif (e.kind == 9) then true else (bif (e.kind == 14) then true else (e.kind == 16))))), (95, .lit (.bool (bif (e.kind == 3) then true else (bif (e.kind == 5) then true else (bif (e.kind == 6) then true else (e.kind == 7)))))), (55, .lit (.bool (bif (bif (e.kind != 6) then (bif (e.kind != 7) then (e.kind != 16) else false) else false) then (bif (!(wordB e.id)) then true else (bif (!(bif (e.kind != 6) then (bif (e.kind != 7) then (e.kind != 16) else false) else false)) then (!(e.id == [])) else false)) else (bif (!(bif (e.kind != 6) then (bif (e.kind != 7) then (e.kind != 16) else false) else false)) then (!(e.id == [])) else false)))), (8, .lit (.bool (bif (e.kind != 6) then (bif (e.kind != 7) then (e.kind != 16) else false) else false))), (21, .lit (.bool (bif ((kwOf e.kind) == []) then true else (bif (decide (r < 0)) then true else (decide (r > 1099511627776)))))), (0, .lit (.int .i64 r)), (1, encE e), (3, .lptr 3 0), (4, .str s2), (5, .lit (.bool false)), (6, .str (kwOf e.kind)), (56, .lit (.bool (bif (e.kind != 6) then (bif (e.kind != 7) then (e.kind != 16) else false) else false))), (64, .lit (.bool (e.kind == 3))), (7, .str s2)], [(3, [.lit (.int .i64 e.kind), .str e.id, .lit (.int .i64 e.sig), .lit (.int .i64 e.n)])], M⟩) (by kernel_rfl) ?_ ?_)
            · skip
              skip
              refine SAny.take 0 rfl (by kernel_rfl) (by kernel_rfl) (by kernel_rfl) trivial rfl (by decide) (PReader.move (.inl rfl) (ok_const rfl) (v := .str s2) rfl) ?_
              refine SAny.take 1 rfl (by kernel_rfl) (by kernel_rfl) (by kernel_rfl) trivial rfl (by decide) (PReader.fieldL rfl ⟨_, _, Tryd.underlying34, rfl, rfl, rfl, sizeOf_3⟩ (by decide) rfl) ?_
              refine SAny.step [2] (by kernel_rfl) (by decide) ?_
              intro iq hq; simp only [List.mem_cons, List.mem_nil_iff, or_false] at hq
              rcases hq with rfl
              · refine ⟨_, rfl, ?_⟩
                refine AOps.read trivial rfl (by decide) (Reader.loadL rfl Tryd.underlying3 sizeOf_3 rfl rfl (v := .lit (.int .i64 e.sig)) rfl rfl) ?_
                refine AOps.nil ?_
                refine SAny.take 3 rfl (by kernel_rfl) (by kernel_rfl) (by kernel_rfl) trivial rfl (by decide) (PReader.int rfl rfl rfl (r := .bool false) (fold_eq hbcb)) ?_
                refine SAny.take 4 rfl (by kernel_rfl) (by kernel_rfl) (by kernel_rfl) trivial rfl (by decide) (PReader.move (.inl rfl) (ok_const rfl) (v := .lit (.bool false)) rfl) ?_
                refine SAny.take 9 rfl (by kernel_rfl) (by kernel_rfl) (by kernel_rfl) trivial rfl (by decide) (PReader.move (.inr rfl) (ok_const rfl) (v := .str s2) rfl) ?_
                refine SAny.step [5] (by kernel_rfl) (by decide) ?_
                intro iq hq; simp only [List.mem_cons, List.mem_nil_iff, or_false] at hq
                rcases hq with rfl
                · refine ⟨_, rfl, ?_⟩
                  refine AOps.skip ⟨4, true, 151, _, rfl, rfl, rfl, by simp⟩ rfl (by decide) ?_
                  refine AOps.nil ?_
                  refine SAny.step [6] (by kernel_rfl) (by decide) ?_
                  intro iq hq; simp only [List.mem_cons, List.mem_nil_iff, or_false] at hq
                  rcases hq with rfl
                  · refine ⟨_, rfl, ?_⟩
                    refine AOps.skip ⟨4, true, 151, _, rfl, rfl, rfl, by simp⟩ rfl (by decide) ?_
                    refine AOps.nil ?_
                    refine SAny.step [7] (by kernel_rfl) (by decide) ?_
                    intro iq hq; simp only [List.mem_cons, List.mem_nil_iff, or_false] at hq
                    rcases hq with rfl
                    · refine ⟨_, rfl, ?_⟩
                      refine AOps.skip ⟨4, true, 151, _, rfl, rfl, rfl, by simp⟩ rfl (by decide) ?_
                      refine AOps.nil ?_
                      refine SAny.take 8 rfl (by kernel_rfl) (by kernel_rfl) (by kernel_rfl) trivial rfl (by decide) (PReader.pick rfl (b := false) rfl (ok_const rfl) (ok_const rfl) (v := .lit (.bool false)) rfl) ?_
                      refine SAny.take 10 rfl (by kernel_rfl) (by kernel_rfl) (by kernel_rfl) trivial rfl (by decide) (PReader.move (.inr rfl) (ok_const rfl) (v := .lit (.bool false)) rfl) ?_
                      exact SAny.done (by kernel_rfl) rfl
            refine AWp.ret ?_
            exact ⟨.inl rfl, _, ResOf.two 4 5 (.str s2) (.lit (.bool false)) rfl rfl (.inl rfl) (.inl rfl) (by decide), ⟨rl_false (fun h => by obtain ⟨q1, q2, q3⟩ := hl_e.1 h; first | (exact absurd (by assumption) q2) | omega), rfl⟩⟩

end Go.Proofs.YtlpihekflkjkfaaDoor
