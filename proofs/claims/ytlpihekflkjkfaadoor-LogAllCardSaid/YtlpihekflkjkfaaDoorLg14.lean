/- Lg6, Lg14, in one text. -/
import Derived.Test.YtlpihekflkjkfaaDoorLg5
import Derived.Test.YtlpihekflkjkfaaDoorAvZ
import Derived.Test.YtlpihekflkjkfaaDoorLg13
namespace Go.Proofs.YtlpihekflkjkfaaDoor
section

open Go.RowKit

theorem kz2_t {k r : Int} (h : (bif kwOf k == [] then true else (bif decide (r < 0) then true else decide (r > 1099511627776))) = true) : ¬ (1 ≤ k ∧ k ≤ 16 ∧ 0 ≤ r ∧ r ≤ 1099511627776) := by
  rintro ⟨h1, h2, h3, h4⟩
  rw [beq_eq_false_iff_ne.2 (show kwOf k ≠ [] from fun e => kw_nil.1 e ⟨h1, h2⟩), decide_eq_false (show ¬ r < 0 by omega), decide_eq_false (show ¬ r > 1099511627776 by omega)] at h; cases h
theorem kz2_f {k r : Int} (h : (bif kwOf k == [] then true else (bif decide (r < 0) then true else decide (r > 1099511627776))) = false) : 1 ≤ k ∧ k ≤ 16 ∧ 0 ≤ r ∧ r ≤ 1099511627776 := by
  by_cases h0 : kwOf k = []
  · rw [h0] at h; cases h
  · have h1 : 1 ≤ k ∧ k ≤ 16 := by
      by_cases hk : 1 ≤ k ∧ k ≤ 16
      · exact hk
      · exact absurd (kw_nil.2 hk) h0
    rw [beq_eq_false_iff_ne.2 h0] at h
    by_cases h2 : r < 0
    · rw [decide_eq_true h2] at h; cases h
    · rw [decide_eq_false h2] at h
      have := of_decide_eq_false h
      omega
theorem sgw_in {n : Int} (h : 0 ≤ n ∧ n ≤ 2) : sgw n = wordOf n := by unfold sgw; rw [if_pos ((inS_iff n).2 h)]
theorem fl_id {e : Ev} (h : ¬ (e.kind = 3 ∨ e.kind = 5 ∨ e.kind = 6 ∨ e.kind = 7 ∨ e.kind = 9 ∨ e.kind = 14 ∨ e.kind = 16)) : flE e = [e.id] := by
  unfold flE
  rw [if_neg (by omega), if_neg (by omega), if_neg (by omega), if_neg (by omega), if_neg (by omega)]
theorem rl_intro {x : List UInt8} {b : Bool} {r : Int} {e : Ev} (hb : b = decide (HasLine r e)) (hx : HasLine r e → x = lineE r e) :
    ∃ y, AV.tuple [.str x, .lit (.bool b)] = .tuple [.str y, .lit (.bool (decide (HasLine r e)))] ∧ (HasLine r e → y = lineE r e) := ⟨x, by rw [hb], hx⟩
theorem rl_false {x : List UInt8} {r : Int} {e : Ev} (h : ¬ HasLine r e) :
    ∃ y, AV.tuple [.str x, .lit (.bool false)] = .tuple [.str y, .lit (.bool (decide (HasLine r e)))] ∧ (HasLine r e → y = lineE r e) := ⟨x, by rw [decide_eq_false h], fun hh => absurd hh h⟩

set_option maxRecDepth 20000 in
theorem rline_any (r : Int) (e : Ev) (hid : e.id.length ≤ 4294967280) (hn : -9223372036854775808 ≤ e.n ∧ e.n ≤ 9223372036854775807) (M : Nat → Option (List AV)) : ACall Tryd.prog 23 [zI r, encE e] M (fun r' M' => (∃ x, r' = .tuple [.str x, zB (decide (HasLine r e))] ∧ (HasLine r e → x = lineE r e)) ∧ M = M') := by
  have hkw := kw_len e.kind
  have hsw := word_len e.sig
  refine ACall.of Tryd.func23 rfl (n := 156) rfl rfl rfl ?_
  refine zg ?_
  refine AOps.box trivial rfl (by decide) rfl (noL rfl) rfl (v := encE e) (.inl ⟨rfl, rfl⟩) rfl rfl (all_flat rfl) ?_
  refine zM (.str []) ?_
  refine zM (zB false) ?_
  refine zN ?_
  refine zg ?_
  refine zr (zfL Tryd.underlying34 sizeOf_3) ?_
  refine zr (zlL (zI e.kind) Tryd.underlying3 sizeOf_3) ?_
  refine zc [zI e.kind] Tryd.call50 (rkw_any e.kind M) ?_
  rintro _ _ ⟨rfl, rfl⟩
  refine zM (.str (kwOf e.kind)) ?_
  refine zN ?_
  refine AWp.seq ?_
  refine zj 21 [(0, zI r), (1, encE e), (3, .lptr 3 0), (4, .str []), (5, zB false), (6, .str (kwOf e.kind))] [(3, [zI e.kind, .str e.id, zI e.sig, zI e.n])] M (bif ((kwOf e.kind) == []) then true else (bif (decide (r < 0)) then true else (decide (r > 1099511627776)))) ?_ ?_
  · skip
    refine zM (.str (kwOf e.kind)) ?_
    refine zr (zt ((kwOf e.kind) == [])) ?_
    refine zM (zB ((kwOf e.kind) == [])) ?_
    refine AOps.splitJ (t := 14) (b := (kwOf e.kind) == []) (x := true) (y := (bif (decide (r < 0)) then true else (decide (r > 1099511627776)))) rfl (fun h1 => ?_) (fun h1 => ?_)
    · skip
      have h1' : (kwOf e.kind) = [] := (eq_of_beq h1)
      clear h1
      refine zs ?_
      refine zs ?_
      refine zr (zp true (zB true)) ?_
      refine zM (zB true) ?_
      refine zs ?_
      refine zs ?_
      refine zr (zp true (zB true)) ?_
      exact AOps.nil rfl
    · skip
      have h1' : ¬ ((kwOf e.kind) = []) := (beq_eq_false_iff_ne.1 h1)
      clear h1
      refine zM (zI r) ?_
      refine zr (zi (decide (r < 0))) ?_
      refine zr (zp false (zB (decide (r < 0)))) ?_
      refine zM (zB (decide (r < 0))) ?_
      refine AOps.splitJ (t := 18) (b := decide (r < 0)) (x := true) (y := (decide (r > 1099511627776))) rfl (fun h2 => ?_) (fun h2 => ?_)
      · skip
        have h2' : r < 0 := (by have hh := of_decide_eq_true h2; omega)
        clear h2
        refine zs ?_
        refine zs ?_
        refine zr (zp true (zB true)) ?_
        exact AOps.nil rfl
      · skip
        have h2' : ¬ (r < 0) := (by have hh := of_decide_eq_false h2; omega)
        clear h2
        refine zM (zI r) ?_
        refine zr (zi (decide (r > 1099511627776))) ?_
        refine zr (zp false (zB (decide (r > 1099511627776)))) ?_
        exact AOps.nil rfl
  refine zC (b := bif ((kwOf e.kind) == []) then true else (bif (decide (r < 0)) then true else (decide (r > 1099511627776)))) rfl (fun h3 => ?_) (fun h3 => ?_)
  · skip
    have h3' : ¬ (1 ≤ e.kind ∧ e.kind ≤ 16 ∧ 0 ≤ r ∧ r ≤ 1099511627776) := (kz2_t h3)
    clear h3
    refine zg ?_
    refine zM (.str []) ?_
    refine zM (zB false) ?_
    refine zN ?_
    refine AWp.ret ?_
    exact ⟨.inl rfl, _, ResOf.two 4 5 (.str []) (zB false) rfl rfl (.inl rfl) (.inl rfl) (by decide), ⟨rl_false (fun h => by obtain ⟨q1, q2, q3⟩ := hl_e.1 h; first | (exact absurd (by assumption) q2) | omega), rfl⟩⟩
  · skip
    have h3' : 1 ≤ e.kind ∧ e.kind ≤ 16 ∧ 0 ≤ r ∧ r ≤ 1099511627776 := (kz2_f h3)
    clear h3
    refine AWp.skip ?_
    refine zg ?_
    refine zM (zI r) ?_
    refine zc [zI r] Tryd.call19 (lDigits_int r (by omega) (by omega) M) ?_
    rintro _ _ ⟨rfl, rfl⟩
    have hdr := digs_len20 r.toNat (by omega)
    refine zr (Reader.cat rfl rfl rfl (by first | omega | (simp only [List.length_append, List.length_cons, List.length_nil]; omega) | (simp; omega)) (c := (digs r.toNat) ++ [32]) rfl) ?_
    refine zM (.str (kwOf e.kind)) ?_
    refine zr (Reader.cat rfl rfl rfl (by first | omega | (simp only [List.length_append, List.length_cons, List.length_nil]; omega) | (simp; omega)) (c := ((digs r.toNat) ++ [32]) ++ (kwOf e.kind)) rfl) ?_
    refine zM (.str (((digs r.toNat) ++ [32]) ++ (kwOf e.kind))) ?_
    refine zN ?_
    refine zj 8 [(21, zB (bif ((kwOf e.kind) == []) then true else (bif (decide (r < 0)) then true else (decide (r > 1099511627776))))), (0, zI r), (1, encE e), (3, .lptr 3 0), (4, .str []), (5, zB false), (6, .str (kwOf e.kind)), (7, .str (((digs r.toNat) ++ [32]) ++ (kwOf e.kind)))] [(3, [zI e.kind, .str e.id, zI e.sig, zI e.n])] M (bif (e.kind != 6) then (bif (e.kind != 7) then (e.kind != 16) else false) else false) ?_ ?_
    · skip
      refine zr (zfL Tryd.underlying34 sizeOf_3) ?_
      refine zr (zlL (zI e.kind) Tryd.underlying3 sizeOf_3) ?_
      refine zr (zi (e.kind != 6)) ?_
      refine zM (zB (e.kind != 6)) ?_
      refine AOps.splitJ (t := 30) (b := e.kind != 6) (x := (bif (e.kind != 7) then (e.kind != 16) else false)) (y := false) rfl (fun h4 => ?_) (fun h4 => ?_)
      · skip
        have h4' : e.kind ≠ 6 := (by have hh := bne_iff_ne.1 h4; omega)
        clear h4
        refine zr (zfL Tryd.underlying34 sizeOf_3) ?_
        refine zr (zlL (zI e.kind) Tryd.underlying3 sizeOf_3) ?_
        refine zr (zi (e.kind != 7)) ?_
        refine zr (zp true (zB (e.kind != 7))) ?_
        refine zM (zB (e.kind != 7)) ?_
        refine AOps.splitJ (t := 35) (b := e.kind != 7) (x := (e.kind != 16)) (y := false) rfl (fun h5 => ?_) (fun h5 => ?_)
        · skip
          have h5' : e.kind ≠ 7 := (by have hh := bne_iff_ne.1 h5; omega)
          clear h5
          refine zr (zfL Tryd.underlying34 sizeOf_3) ?_
          refine zr (zlL (zI e.kind) Tryd.underlying3 sizeOf_3) ?_
          refine zr (zi (e.kind != 16)) ?_
          refine zr (zp true (zB (e.kind != 16))) ?_
          refine zM (zB (e.kind != 16)) ?_
          exact AOps.nil rfl
        · skip
          have h5' : ¬ (e.kind ≠ 7) := (by have hh := bne_eq_false_iff_eq.1 h5; omega)
          clear h5
          refine zs ?_
          refine zs ?_
          refine zs ?_
          refine zr (zp false (zB false)) ?_
          refine zM (zB false) ?_
          exact AOps.nil rfl
      · skip
        have h4' : ¬ (e.kind ≠ 6) := (by have hh := bne_eq_false_iff_eq.1 h4; omega)
        clear h4
        refine zs ?_
        refine zs ?_
        refine zs ?_
        refine zr (zp false (zB false)) ?_
        refine zM (zB false) ?_
        refine zs ?_
        refine zs ?_
        refine zs ?_
        refine zr (zp false (zB false)) ?_
        refine zM (zB false) ?_
        exact AOps.nil rfl
    refine AWp.seq ?_
    refine zj 55 [(8, zB (bif (e.kind != 6) then (bif (e.kind != 7) then (e.kind != 16) else false) else false)), (21, zB (bif ((kwOf e.kind) == []) then true else (bif (decide (r < 0)) then true else (decide (r > 1099511627776))))), (0, zI r), (1, encE e), (3, .lptr 3 0), (4, .str []), (5, zB false), (6, .str (kwOf e.kind)), (7, .str (((digs r.toNat) ++ [32]) ++ (kwOf e.kind)))] [(3, [zI e.kind, .str e.id, zI e.sig, zI e.n])] M (bif (bif (e.kind != 6) then (bif (e.kind != 7) then (e.kind != 16) else false) else false) then (bif (!(wordB e.id)) then true else (bif (!(bif (e.kind != 6) then (bif (e.kind != 7) then (e.kind != 16) else false) else false)) then (!(e.id == [])) else false)) else (bif (!(bif (e.kind != 6) then (bif (e.kind != 7) then (e.kind != 16) else false) else false)) then (!(e.id == [])) else false)) ?_ ?_
    · skip
      refine zM (zB (bif (e.kind != 6) then (bif (e.kind != 7) then (e.kind != 16) else false) else false)) ?_
      refine zM (zB (bif (e.kind != 6) then (bif (e.kind != 7) then (e.kind != 16) else false) else false)) ?_
      refine AOps.splitJ (t := 41) (b := bif (e.kind != 6) then (bif (e.kind != 7) then (e.kind != 16) else false) else false) (x := (bif (!(wordB e.id)) then true else (bif (!(bif (e.kind != 6) then (bif (e.kind != 7) then (e.kind != 16) else false) else false)) then (!(e.id == [])) else false))) (y := (bif (!(bif (e.kind != 6) then (bif (e.kind != 7) then (e.kind != 16) else false) else false)) then (!(e.id == [])) else false)) rfl (fun h6 => ?_) (fun h6 => ?_)
      · skip
        have h6' : Named e.kind := (of_decide_eq_true (named_b.symm.trans h6))
        clear h6
        refine zr (zfL Tryd.underlying34 sizeOf_9) ?_
        refine zr (zlL (.str e.id) Tryd.underlying9 sizeOf_9) ?_
        refine zc [.str e.id] Tryd.call51 (rWd_any e.id hid M) ?_
        rintro _ _ ⟨rfl, rfl⟩
        refine zr (zn (wordB e.id)) ?_
        refine zr (zp true (zB (!(wordB e.id)))) ?_
        refine zM (zB (!(wordB e.id))) ?_
        refine AOps.splitJ (t := 47) (b := !(wordB e.id)) (x := true) (y := (bif (!(bif (e.kind != 6) then (bif (e.kind != 7) then (e.kind != 16) else false) else false)) then (!(e.id == [])) else false)) rfl (fun h7 => ?_) (fun h7 => ?_)
        · skip
          have h7' : wordB e.id = false := (bnot_t h7)
          clear h7
          refine zs ?_
          refine zs ?_
          refine zs ?_
          refine zs ?_
          refine zs ?_
          refine zs ?_
          refine zs ?_
          refine zr (zp true (zB true)) ?_
          exact AOps.nil rfl
        · skip
          have h7' : wordB e.id = true := (bnot_f h7)
          clear h7
          refine zM (zB (bif (e.kind != 6) then (bif (e.kind != 7) then (e.kind != 16) else false) else false)) ?_
          refine zr (zn (bif (e.kind != 6) then (bif (e.kind != 7) then (e.kind != 16) else false) else false)) ?_
          refine zM (zB (!(bif (e.kind != 6) then (bif (e.kind != 7) then (e.kind != 16) else false) else false))) ?_
          refine AOps.splitJ (t := 50) (b := !(bif (e.kind != 6) then (bif (e.kind != 7) then (e.kind != 16) else false) else false)) (x := (!(e.id == []))) (y := false) rfl (fun h8 => ?_) (fun h8 => ?_)
          · skip
            have h8' : ¬ Named e.kind := (of_decide_eq_false (named_b.symm.trans (bnot_t h8)))
            clear h8
            refine zr (zfL Tryd.underlying34 sizeOf_9) ?_
            refine zr (zlL (.str e.id) Tryd.underlying9 sizeOf_9) ?_
            refine zr (zt (!(e.id == []))) ?_
            refine zr (zp true (zB (!(e.id == [])))) ?_
            refine zr (zp false (zB (!(e.id == [])))) ?_
            exact AOps.nil rfl
          · skip
            have h8' : Named e.kind := (of_decide_eq_true (named_b.symm.trans (bnot_f h8)))
            clear h8
            refine zs ?_
            refine zs ?_
            refine zs ?_
            refine zr (zp false (zB false)) ?_
            refine zr (zp false (zB false)) ?_
            exact AOps.nil rfl
      · skip
        have h6' : ¬ Named e.kind := (of_decide_eq_false (named_b.symm.trans h6))
        clear h6
        refine zs ?_
        refine zs ?_
        refine zs ?_
        refine zs ?_
        refine zr (zp false (zB false)) ?_
        refine zM (zB false) ?_
        refine zM (zB (bif (e.kind != 6) then (bif (e.kind != 7) then (e.kind != 16) else false) else false)) ?_
        refine zr (zn (bif (e.kind != 6) then (bif (e.kind != 7) then (e.kind != 16) else false) else false)) ?_
        refine zM (zB (!(bif (e.kind != 6) then (bif (e.kind != 7) then (e.kind != 16) else false) else false))) ?_
        refine AOps.splitJ (t := 50) (b := !(bif (e.kind != 6) then (bif (e.kind != 7) then (e.kind != 16) else false) else false)) (x := (!(e.id == []))) (y := false) rfl (fun h9 => ?_) (fun h9 => ?_)
        · skip
          have h9' : ¬ Named e.kind := (of_decide_eq_false (named_b.symm.trans (bnot_t h9)))
          clear h9
          refine zr (zfL Tryd.underlying34 sizeOf_9) ?_
          refine zr (zlL (.str e.id) Tryd.underlying9 sizeOf_9) ?_
          refine zr (zt (!(e.id == []))) ?_
          refine zr (zp true (zB (!(e.id == [])))) ?_
          refine zr (zp false (zB (!(e.id == [])))) ?_
          exact AOps.nil rfl
        · skip
          have h9' : Named e.kind := (of_decide_eq_true (named_b.symm.trans (bnot_f h9)))
          clear h9
          refine zs ?_
          refine zs ?_
          refine zs ?_
          refine zr (zp false (zB false)) ?_
          refine zr (zp false (zB false)) ?_
          exact AOps.nil rfl
    have hz6 : (bif (bif (e.kind != 6) then (bif (e.kind != 7) then (e.kind != 16) else false) else false) then (bif (!(wordB e.id)) then true else (bif (!(bif (e.kind != 6) then (bif (e.kind != 7) then (e.kind != 16) else false) else false)) then (!(e.id == [])) else false)) else (bif (!(bif (e.kind != 6) then (bif (e.kind != 7) then (e.kind != 16) else false) else false)) then (!(e.id == [])) else false)) = decide (BadId e) := by rw [named_b]; unfold BadId; by_cases hq : Named e.kind <;> by_cases hq2 : e.id = [] <;> rcases Bool.eq_false_or_eq_true (wordB e.id) with hw | hw <;> simp [hq, hq2, hw]
    refine zC (b := bif (bif (e.kind != 6) then (bif (e.kind != 7) then (e.kind != 16) else false) else false) then (bif (!(wordB e.id)) then true else (bif (!(bif (e.kind != 6) then (bif (e.kind != 7) then (e.kind != 16) else false) else false)) then (!(e.id == [])) else false)) else (bif (!(bif (e.kind != 6) then (bif (e.kind != 7) then (e.kind != 16) else false) else false)) then (!(e.id == [])) else false)) rfl (fun h10 => ?_) (fun h10 => ?_)
    · skip
      have h10' : BadId e := (of_decide_eq_true (hz6.symm.trans h10))
      clear h10
      refine zg ?_
      refine zM (.str []) ?_
      refine zM (zB false) ?_
      refine zN ?_
      refine AWp.ret ?_
      exact ⟨.inl rfl, _, ResOf.two 4 5 (.str []) (zB false) rfl rfl (.inl rfl) (.inl rfl) (by decide), ⟨rl_false (fun h => by obtain ⟨q1, q2, q3⟩ := hl_e.1 h; first | (exact absurd (by assumption) q2) | omega), rfl⟩⟩
    · skip
      have h10' : ¬ BadId e := (of_decide_eq_false (hz6.symm.trans h10))
      clear h10
      refine AWp.skip ?_
      refine AWp.mid [55, 8, 21, 0, 1, 3, 4, 5, 6, 56, 7] [3] (fun s => ∃ (s1 : List UInt8), s = ⟨[(55, zB (bif (bif (e.kind != 6) then (bif (e.kind != 7) then (e.kind != 16) else false) else false) then (bif (!(wordB e.id)) then true else (bif (!(bif (e.kind != 6) then (bif (e.kind != 7) then (e.kind != 16) else false) else false)) then (!(e.id == [])) else false)) else (bif (!(bif (e.kind != 6) then (bif (e.kind != 7) then (e.kind != 16) else false) else false)) then (!(e.id == [])) else false))), (8, zB (bif (e.kind != 6) then (bif (e.kind != 7) then (e.kind != 16) else false) else false)), (21, zB (bif ((kwOf e.kind) == []) then true else (bif (decide (r < 0)) then true else (decide (r > 1099511627776))))), (0, zI r), (1, encE e), (3, .lptr 3 0), (4, .str []), (5, zB false), (6, .str (kwOf e.kind)), (56, zB (bif (e.kind != 6) then (bif (e.kind != 7) then (e.kind != 16) else false) else false)), (7, .str s1)], [(3, [zI e.kind, .str e.id, zI e.sig, zI e.n])], M⟩ ∧ (s1 = if Named e.kind then ((((digs r.toNat ++ [32]) ++ kwOf e.kind) ++ [32]) ++ e.id) else ((digs r.toNat ++ [32]) ++ kwOf e.kind)) ∧ (s1.length ≤ 4294967400)) ?_ ?_
      · skip
        refine zg ?_
        refine zM (zB (bif (e.kind != 6) then (bif (e.kind != 7) then (e.kind != 16) else false) else false)) ?_
        refine zN ?_
        refine zC (b := bif (e.kind != 6) then (bif (e.kind != 7) then (e.kind != 16) else false) else false) rfl (fun h11 => ?_) (fun h11 => ?_)
        · skip
          have h11' : Named e.kind := (of_decide_eq_true (named_b.symm.trans h11))
          clear h11
          refine AWp.region ?_
          refine zM (.str (((digs r.toNat) ++ [32]) ++ (kwOf e.kind))) ?_
          refine zr (Reader.cat rfl rfl rfl (by first | omega | (simp only [List.length_append, List.length_cons, List.length_nil]; omega) | (simp; omega)) (c := (((digs r.toNat) ++ [32]) ++ (kwOf e.kind)) ++ [32]) rfl) ?_
          refine zr (zfL Tryd.underlying34 sizeOf_9) ?_
          refine zr (zlL (.str e.id) Tryd.underlying9 sizeOf_9) ?_
          refine zr (Reader.cat rfl rfl rfl (by first | omega | (simp only [List.length_append, List.length_cons, List.length_nil]; omega) | (simp; omega)) (c := ((((digs r.toNat) ++ [32]) ++ (kwOf e.kind)) ++ [32]) ++ e.id) rfl) ?_
          refine zM (.str (((((digs r.toNat) ++ [32]) ++ (kwOf e.kind)) ++ [32]) ++ e.id)) ?_
          refine zN ?_
          exact ⟨_, rfl, by first | (rw [if_pos (by assumption)]; done) | (rw [if_neg (by assumption)]; done), by first | omega | (simp only [List.length_append, List.length_cons, List.length_nil]; omega)⟩
        · skip
          have h11' : ¬ Named e.kind := (of_decide_eq_false (named_b.symm.trans h11))
          clear h11
          refine AWp.skip ?_
          exact ⟨_, rfl, by first | (rw [if_pos (by assumption)]; done) | (rw [if_neg (by assumption)]; done), by first | omega | (simp only [List.length_append, List.length_cons, List.length_nil]; omega)⟩
      rintro _ ⟨s1, rfl, hs1, hs1l⟩
      refine AWp.mid [55, 8, 21, 0, 1, 3, 4, 5, 6, 56, 64, 7] [3] (fun s => ∃ (s2 : List UInt8), s = ⟨[(55, zB (bif (bif (e.kind != 6) then (bif (e.kind != 7) then (e.kind != 16) else false) else false) then (bif (!(wordB e.id)) then true else (bif (!(bif (e.kind != 6) then (bif (e.kind != 7) then (e.kind != 16) else false) else false)) then (!(e.id == [])) else false)) else (bif (!(bif (e.kind != 6) then (bif (e.kind != 7) then (e.kind != 16) else false) else false)) then (!(e.id == [])) else false))), (8, zB (bif (e.kind != 6) then (bif (e.kind != 7) then (e.kind != 16) else false) else false)), (21, zB (bif ((kwOf e.kind) == []) then true else (bif (decide (r < 0)) then true else (decide (r > 1099511627776))))), (0, zI r), (1, encE e), (3, .lptr 3 0), (4, .str []), (5, zB false), (6, .str (kwOf e.kind)), (56, zB (bif (e.kind != 6) then (bif (e.kind != 7) then (e.kind != 16) else false) else false)), (64, zB (e.kind == 3)), (7, .str s2)], [(3, [zI e.kind, .str e.id, zI e.sig, zI e.n])], M⟩ ∧ ((e.kind = 3 ∧ e.n = 3 ∧ s2 = s1 ++ [32, 112, 114, 101, 115, 115, 117, 114, 101]) ∨ (¬ e.kind = 3 ∧ s2 = s1)) ∧ (s2.length ≤ 4294967500)) ?_ ?_
      · skip
        refine zg ?_
        refine zr (zfL Tryd.underlying34 sizeOf_3) ?_
        refine zr (zlL (zI e.kind) Tryd.underlying3 sizeOf_3) ?_
        refine zr (zi (e.kind == 3)) ?_
        refine zN ?_
        refine zC (b := e.kind == 3) rfl (fun h12 => ?_) (fun h12 => ?_)
        · skip
          have h12' : e.kind = 3 := (by have hh := eq_of_beq h12; omega)
          clear h12
          refine AWp.seq ?_
          refine zg ?_
          refine zr (zfL Tryd.underlying34 sizeOf_3) ?_
          refine zr (zlL (zI e.n) Tryd.underlying3 sizeOf_3) ?_
          refine zr (zi (e.n == 4)) ?_
          refine zN ?_
          refine zC (b := e.n == 4) rfl (fun h13 => ?_) (fun h13 => ?_)
          · skip
            have h13' : e.n = 4 := (by have hh := eq_of_beq h13; omega)
            clear h13
            refine AWp.seq (AWp.anyR [55, 8, 21, 0, 1, 3, 4, 5, 6, 56, 7, 64, 67] [3] (⟨[(55, zB (bif (bif (e.kind != 6) then (bif (e.kind != 7) then (e.kind != 16) else false) else false) then (bif (!(wordB e.id)) then true else (bif (!(bif (e.kind != 6) then (bif (e.kind != 7) then (e.kind != 16) else false) else false)) then (!(e.id == [])) else false)) else (bif (!(bif (e.kind != 6) then (bif (e.kind != 7) then (e.kind != 16) else false) else false)) then (!(e.id == [])) else false))), (8, zB (bif (e.kind != 6) then (bif (e.kind != 7) then (e.kind != 16) else false) else false)), (21, zB (bif ((kwOf e.kind) == []) then true else (bif (decide (r < 0)) then true else (decide (r > 1099511627776))))), (0, zI r), (1, encE e), (3, .lptr 3 0), (4, .str (s1 ++ [32, 114, 111, 111, 109])), (5, zB (e.sig == 0)), (6, .str (kwOf e.kind)), (56, zB (bif (e.kind != 6) then (bif (e.kind != 7) then (e.kind != 16) else false) else false)), (7, .str s1), (64, zB (e.kind == 3)), (67, zB (e.n == 4))], [(3, [zI e.kind, .str e.id, zI e.sig, zI e.n])], M⟩) (by kernel_rfl) ?_ ?_)
            · skip
              skip
              refine zkm 0 (.str s1) ?_
              refine zk 1 rfl (PReader.cat rfl rfl rfl (by first | omega | (simp only [List.length_append, List.length_cons, List.length_nil]; omega) | (simp; omega)) (c := s1 ++ [32, 114, 111, 111, 109]) rfl) ?_
              refine zk 2 rfl (PReader.fieldL rfl ⟨_, _, Tryd.underlying34, rfl, rfl, rfl, sizeOf_3⟩ (by decide) rfl) ?_
              refine zkm 5 (.str (s1 ++ [32, 114, 111, 111, 109])) ?_
              refine zq [3] ⟨⟨_, rfl, ?_⟩, trivial⟩
              · skip
                refine zr (zlL (zI e.sig) Tryd.underlying3 sizeOf_3) ?_
                refine zN ?_
                refine zk 4 rfl (PReader.int rfl rfl rfl (r := .bool (e.sig == 0)) rfl) ?_
                refine zkm 6 (zB (e.sig == 0)) ?_
                exact SAny.done (by kernel_rfl) rfl
            refine AWp.ret ?_
            exact ⟨.inl rfl, _, ResOf.two 4 5 (.str (s1 ++ [32, 114, 111, 111, 109])) (zB (e.sig == 0)) rfl rfl (.inl rfl) (.inl rfl) (by decide), ⟨rl_intro (by rw [Bool.eq_iff_iff, decide_eq_true_iff]; simp only [beq_iff_eq]; exact ⟨fun h => hl_e.2 ⟨(show 1 ≤ e.kind ∧ e.kind ≤ 16 ∧ 0 ≤ r ∧ r ≤ 1099511627776 by assumption), by assumption, by omega⟩, fun h => by obtain ⟨q1, q2, q3⟩ := hl_e.1 h; omega⟩) (fun h => by have a : e.kind = 3 := (by assumption); have b : e.n = 4 := (by assumption); unfold lineE; simp [flE, join_two, Lib.join_one, presL, roomL, Named, hs1, a, b]), rfl⟩⟩
          · skip
            have h13' : ¬ (e.n = 4) := (by have hh := beq_eq_false_iff_ne.1 h13; omega)
            clear h13
            refine AWp.skip ?_
            refine AWp.seq ?_
            refine zg ?_
            refine zr (zfL Tryd.underlying34 sizeOf_3) ?_
            refine zr (zlL (zI e.n) Tryd.underlying3 sizeOf_3) ?_
            refine zr (zi (e.n != 3)) ?_
            refine zN ?_
            refine zC (b := e.n != 3) rfl (fun h14 => ?_) (fun h14 => ?_)
            · skip
              have h14' : e.n ≠ 3 := (by have hh := bne_iff_ne.1 h14; omega)
              clear h14
              refine zg ?_
              refine zM (.str []) ?_
              refine zM (zB false) ?_
              refine zN ?_
              refine AWp.ret ?_
              exact ⟨.inl rfl, _, ResOf.two 4 5 (.str []) (zB false) rfl rfl (.inl rfl) (.inl rfl) (by decide), ⟨rl_false (fun h => by obtain ⟨q1, q2, q3⟩ := hl_e.1 h; first | (exact absurd (by assumption) q2) | omega), rfl⟩⟩
            · skip
              have h14' : ¬ (e.n ≠ 3) := (by have hh := bne_eq_false_iff_eq.1 h14; omega)
              clear h14
              refine AWp.skip ?_
              refine AWp.region ?_
              refine zM (.str s1) ?_
              refine zr (Reader.cat rfl rfl rfl (by first | omega | (simp only [List.length_append, List.length_cons, List.length_nil]; omega) | (simp; omega)) (c := s1 ++ [32, 112, 114, 101, 115, 115, 117, 114, 101]) rfl) ?_
              refine zM (.str (s1 ++ [32, 112, 114, 101, 115, 115, 117, 114, 101])) ?_
              refine zN ?_
              exact ⟨_, rfl, .inl ⟨by assumption, by omega, rfl⟩, by first | omega | (simp only [List.length_append, List.length_cons, List.length_nil]; omega)⟩
        · skip
          have h12' : ¬ (e.kind = 3) := (by have hh := beq_eq_false_iff_ne.1 h12; omega)
          clear h12
          refine AWp.skip ?_
          exact ⟨_, rfl, .inr ⟨by assumption, rfl⟩, by first | omega | (simp only [List.length_append, List.length_cons, List.length_nil]; omega)⟩
      rintro _ ⟨s2, rfl, hs2, hs2l⟩
      refine AWp.seq ?_
      refine zj 95 [(55, zB (bif (bif (e.kind != 6) then (bif (e.kind != 7) then (e.kind != 16) else false) else false) then (bif (!(wordB e.id)) then true else (bif (!(bif (e.kind != 6) then (bif (e.kind != 7) then (e.kind != 16) else false) else false)) then (!(e.id == [])) else false)) else (bif (!(bif (e.kind != 6) then (bif (e.kind != 7) then (e.kind != 16) else false) else false)) then (!(e.id == [])) else false))), (8, zB (bif (e.kind != 6) then (bif (e.kind != 7) then (e.kind != 16) else false) else false)), (21, zB (bif ((kwOf e.kind) == []) then true else (bif (decide (r < 0)) then true else (decide (r > 1099511627776))))), (0, zI r), (1, encE e), (3, .lptr 3 0), (4, .str []), (5, zB false), (6, .str (kwOf e.kind)), (56, zB (bif (e.kind != 6) then (bif (e.kind != 7) then (e.kind != 16) else false) else false)), (64, zB (e.kind == 3)), (7, .str s2)] [(3, [zI e.kind, .str e.id, zI e.sig, zI e.n])] M (bif (e.kind == 3) then true else (bif (e.kind == 5) then true else (bif (e.kind == 6) then true else (e.kind == 7)))) ?_ ?_
      · skip
        refine zr (zfL Tryd.underlying34 sizeOf_3) ?_
        refine zr (zlL (zI e.kind) Tryd.underlying3 sizeOf_3) ?_
        refine zr (zi (e.kind == 3)) ?_
        refine zM (zB (e.kind == 3)) ?_
        refine AOps.splitJ (t := 81) (b := e.kind == 3) (x := true) (y := (bif (e.kind == 5) then true else (bif (e.kind == 6) then true else (e.kind == 7)))) rfl (fun h15 => ?_) (fun h15 => ?_)
        · skip
          have h15' : e.kind = 3 := (by have hh := eq_of_beq h15; omega)
          clear h15
          refine zs ?_
          refine zs ?_
          refine zs ?_
          refine zr (zp true (zB true)) ?_
          refine zM (zB true) ?_
          refine zs ?_
          refine zs ?_
          refine zs ?_
          refine zr (zp true (zB true)) ?_
          refine zM (zB true) ?_
          refine zs ?_
          refine zs ?_
          refine zs ?_
          refine zr (zp true (zB true)) ?_
          exact AOps.nil rfl
        · skip
          have h15' : ¬ (e.kind = 3) := (by have hh := beq_eq_false_iff_ne.1 h15; omega)
          clear h15
          refine zr (zfL Tryd.underlying34 sizeOf_3) ?_
          refine zr (zlL (zI e.kind) Tryd.underlying3 sizeOf_3) ?_
          refine zr (zi (e.kind == 5)) ?_
          refine zr (zp false (zB (e.kind == 5))) ?_
          refine zM (zB (e.kind == 5)) ?_
          refine AOps.splitJ (t := 86) (b := e.kind == 5) (x := true) (y := (bif (e.kind == 6) then true else (e.kind == 7))) rfl (fun h16 => ?_) (fun h16 => ?_)
          · skip
            have h16' : e.kind = 5 := (by have hh := eq_of_beq h16; omega)
            clear h16
            refine zs ?_
            refine zs ?_
            refine zs ?_
            refine zr (zp true (zB true)) ?_
            refine zM (zB true) ?_
            refine zs ?_
            refine zs ?_
            refine zs ?_
            refine zr (zp true (zB true)) ?_
            exact AOps.nil rfl
          · skip
            have h16' : ¬ (e.kind = 5) := (by have hh := beq_eq_false_iff_ne.1 h16; omega)
            clear h16
            refine zr (zfL Tryd.underlying34 sizeOf_3) ?_
            refine zr (zlL (zI e.kind) Tryd.underlying3 sizeOf_3) ?_
            refine zr (zi (e.kind == 6)) ?_
            refine zr (zp false (zB (e.kind == 6))) ?_
            refine zM (zB (e.kind == 6)) ?_
            refine AOps.splitJ (t := 91) (b := e.kind == 6) (x := true) (y := (e.kind == 7)) rfl (fun h17 => ?_) (fun h17 => ?_)
            · skip
              have h17' : e.kind = 6 := (by have hh := eq_of_beq h17; omega)
              clear h17
              refine zs ?_
              refine zs ?_
              refine zs ?_
              refine zr (zp true (zB true)) ?_
              exact AOps.nil rfl
            · skip
              have h17' : ¬ (e.kind = 6) := (by have hh := beq_eq_false_iff_ne.1 h17; omega)
              clear h17
              refine zr (zfL Tryd.underlying34 sizeOf_3) ?_
              refine zr (zlL (zI e.kind) Tryd.underlying3 sizeOf_3) ?_
              refine zr (zi (e.kind == 7)) ?_
              refine zr (zp false (zB (e.kind == 7))) ?_
              exact AOps.nil rfl
      have hz1 : (bif (e.kind == 3) then true else (bif (e.kind == 5) then true else (bif (e.kind == 6) then true else (e.kind == 7)))) = decide (e.kind = 3 ∨ e.kind = 5 ∨ e.kind = 6 ∨ e.kind = 7) := by rw [Bool.eq_iff_iff, decide_eq_true_iff]; simp only [Bool.cond_eq_ite]; (repeat' split) <;> simp_all <;> omega
      refine zC (b := bif (e.kind == 3) then true else (bif (e.kind == 5) then true else (bif (e.kind == 6) then true else (e.kind == 7)))) rfl (fun h18 => ?_) (fun h18 => ?_)
      · skip
        have h18' : e.kind = 3 ∨ e.kind = 5 ∨ e.kind = 6 ∨ e.kind = 7 := (of_decide_eq_true (hz1.symm.trans h18))
        clear h18
        refine AWp.seq ?_
        refine zj 113 [(95, zB (bif (e.kind == 3) then true else (bif (e.kind == 5) then true else (bif (e.kind == 6) then true else (e.kind == 7))))), (55, zB (bif (bif (e.kind != 6) then (bif (e.kind != 7) then (e.kind != 16) else false) else false) then (bif (!(wordB e.id)) then true else (bif (!(bif (e.kind != 6) then (bif (e.kind != 7) then (e.kind != 16) else false) else false)) then (!(e.id == [])) else false)) else (bif (!(bif (e.kind != 6) then (bif (e.kind != 7) then (e.kind != 16) else false) else false)) then (!(e.id == [])) else false))), (8, zB (bif (e.kind != 6) then (bif (e.kind != 7) then (e.kind != 16) else false) else false)), (21, zB (bif ((kwOf e.kind) == []) then true else (bif (decide (r < 0)) then true else (decide (r > 1099511627776))))), (0, zI r), (1, encE e), (3, .lptr 3 0), (4, .str []), (5, zB false), (6, .str (kwOf e.kind)), (56, zB (bif (e.kind != 6) then (bif (e.kind != 7) then (e.kind != 16) else false) else false)), (64, zB (e.kind == 3)), (7, .str s2)] [(3, [zI e.kind, .str e.id, zI e.sig, zI e.n])] M (bif (decide (e.sig < 0)) then true else (bif (decide (e.sig > 2)) then true else (bif (e.kind != 3) then (e.n != 0) else false))) ?_ ?_
        · skip
          refine zr (zfL Tryd.underlying34 sizeOf_3) ?_
          refine zr (zlL (zI e.sig) Tryd.underlying3 sizeOf_3) ?_
          refine zr (zi (decide (e.sig < 0))) ?_
          refine zM (zB (decide (e.sig < 0))) ?_
          refine AOps.splitJ (t := 99) (b := decide (e.sig < 0)) (x := true) (y := (bif (decide (e.sig > 2)) then true else (bif (e.kind != 3) then (e.n != 0) else false))) rfl (fun h19 => ?_) (fun h19 => ?_)
          · skip
            have h19' : e.sig < 0 := (by have hh := of_decide_eq_true h19; omega)
            clear h19
            refine zs ?_
            refine zs ?_
            refine zs ?_
            refine zr (zp true (zB true)) ?_
            refine zM (zB true) ?_
            refine zs ?_
            refine zs ?_
            refine zs ?_
            refine zs ?_
            refine zs ?_
            refine zs ?_
            refine zs ?_
            refine zs ?_
            refine zr (zp true (zB true)) ?_
            exact AOps.nil rfl
          · skip
            have h19' : ¬ (e.sig < 0) := (by have hh := of_decide_eq_false h19; omega)
            clear h19
            refine zr (zfL Tryd.underlying34 sizeOf_3) ?_
            refine zr (zlL (zI e.sig) Tryd.underlying3 sizeOf_3) ?_
            refine zr (zi (decide (e.sig > 2))) ?_
            refine zr (zp false (zB (decide (e.sig > 2)))) ?_
            refine zM (zB (decide (e.sig > 2))) ?_
            refine AOps.splitJ (t := 104) (b := decide (e.sig > 2)) (x := true) (y := (bif (e.kind != 3) then (e.n != 0) else false)) rfl (fun h20 => ?_) (fun h20 => ?_)
            · skip
              have h20' : e.sig > 2 := (by have hh := of_decide_eq_true h20; omega)
              clear h20
              refine zs ?_
              refine zs ?_
              refine zs ?_
              refine zs ?_
              refine zs ?_
              refine zs ?_
              refine zs ?_
              refine zs ?_
              refine zr (zp true (zB true)) ?_
              exact AOps.nil rfl
            · skip
              have h20' : ¬ (e.sig > 2) := (by have hh := of_decide_eq_false h20; omega)
              clear h20
              refine zr (zfL Tryd.underlying34 sizeOf_3) ?_
              refine zr (zlL (zI e.kind) Tryd.underlying3 sizeOf_3) ?_
              refine zr (zi (e.kind != 3)) ?_
              refine zM (zB (e.kind != 3)) ?_
              refine AOps.splitJ (t := 108) (b := e.kind != 3) (x := (e.n != 0)) (y := false) rfl (fun h21 => ?_) (fun h21 => ?_)
              · skip
                have h21' : e.kind ≠ 3 := (by have hh := bne_iff_ne.1 h21; omega)
                clear h21
                refine zr (zfL Tryd.underlying34 sizeOf_3) ?_
                refine zr (zlL (zI e.n) Tryd.underlying3 sizeOf_3) ?_
                refine zr (zi (e.n != 0)) ?_
                refine zr (zp true (zB (e.n != 0))) ?_
                refine zr (zp false (zB (e.n != 0))) ?_
                exact AOps.nil rfl
              · skip
                have h21' : ¬ (e.kind ≠ 3) := (by have hh := bne_eq_false_iff_eq.1 h21; omega)
                clear h21
                refine zs ?_
                refine zs ?_
                refine zs ?_
                refine zr (zp false (zB false)) ?_
                refine zr (zp false (zB false)) ?_
                exact AOps.nil rfl
        have hz2 : (bif (decide (e.sig < 0)) then true else (bif (decide (e.sig > 2)) then true else (bif (e.kind != 3) then (e.n != 0) else false))) = decide ((e.sig < 0 ∨ e.sig > 2) ∨ (¬ e.kind = 3 ∧ ¬ e.n = 0)) := by rw [Bool.eq_iff_iff, decide_eq_true_iff]; simp only [Bool.cond_eq_ite]; (repeat' split) <;> simp_all <;> omega
        refine zC (b := bif (decide (e.sig < 0)) then true else (bif (decide (e.sig > 2)) then true else (bif (e.kind != 3) then (e.n != 0) else false))) rfl (fun h22 => ?_) (fun h22 => ?_)
        · skip
          have h22' : (e.sig < 0 ∨ e.sig > 2) ∨ (¬ e.kind = 3 ∧ ¬ e.n = 0) := (of_decide_eq_true (hz2.symm.trans h22))
          clear h22
          refine zg ?_
          refine zM (.str []) ?_
          refine zM (zB false) ?_
          refine zN ?_
          refine AWp.ret ?_
          exact ⟨.inl rfl, _, ResOf.two 4 5 (.str []) (zB false) rfl rfl (.inl rfl) (.inl rfl) (by decide), ⟨rl_false (fun h => by obtain ⟨q1, q2, q3⟩ := hl_e.1 h; first | (exact absurd (by assumption) q2) | omega), rfl⟩⟩
        · skip
          have h22' : ¬ ((e.sig < 0 ∨ e.sig > 2) ∨ (¬ e.kind = 3 ∧ ¬ e.n = 0)) := (of_decide_eq_false (hz2.symm.trans h22))
          clear h22
          refine AWp.skip ?_
          refine zg ?_
          refine zM (.str s2) ?_
          refine zr (Reader.cat rfl rfl rfl (by first | omega | (simp only [List.length_append, List.length_cons, List.length_nil]; omega) | (simp; omega)) (c := s2 ++ [32]) rfl) ?_
          refine zr (zfL Tryd.underlying34 sizeOf_3) ?_
          refine zr (zlL (zI e.sig) Tryd.underlying3 sizeOf_3) ?_
          refine zc [zI e.sig] Tryd.call41 (lrw06_any e.sig M) ?_
          rintro _ _ ⟨rfl, rfl⟩
          refine zr (Reader.cat rfl rfl rfl (by first | omega | (simp only [List.length_append, List.length_cons, List.length_nil]; omega) | (simp; omega)) (c := (s2 ++ [32]) ++ (wordOf e.sig)) rfl) ?_
          refine zM (.str ((s2 ++ [32]) ++ (wordOf e.sig))) ?_
          refine zM (zB true) ?_
          refine zN ?_
          refine AWp.ret ?_
          exact ⟨.inl rfl, _, ResOf.two 4 5 (.str ((s2 ++ [32]) ++ (wordOf e.sig))) (zB true) rfl rfl (.inl rfl) (.inl rfl) (by decide), ⟨rl_intro ((decide_eq_true (hl_e.2 ⟨(show 1 ≤ e.kind ∧ e.kind ≤ 16 ∧ 0 ≤ r ∧ r ≤ 1099511627776 by assumption), by assumption, by omega⟩)).symm) (fun h => by unfold lineE; have e1 : sgw e.sig = wordOf e.sig := sgw_in (by omega); rcases hs2 with ⟨a, b, rfl⟩ | ⟨a, rfl⟩ <;> first | (simp [flE, join_two, Lib.join_one, presL, roomL, Named, hs1, a, b, e1]; done) | (rcases (show e.kind = 5 ∨ e.kind = 6 ∨ e.kind = 7 by omega) with q | q | q <;> simp [flE, join_two, Lib.join_one, presL, roomL, Named, hs1, q, e1]; done)), rfl⟩⟩
      · skip
        have h18' : ¬ (e.kind = 3 ∨ e.kind = 5 ∨ e.kind = 6 ∨ e.kind = 7) := (of_decide_eq_false (hz1.symm.trans h18))
        clear h18
        refine AWp.skip ?_
        refine AWp.seq ?_
        refine zj 132 [(95, zB (bif (e.kind == 3) then true else (bif (e.kind == 5) then true else (bif (e.kind == 6) then true else (e.kind == 7))))), (55, zB (bif (bif (e.kind != 6) then (bif (e.kind != 7) then (e.kind != 16) else false) else false) then (bif (!(wordB e.id)) then true else (bif (!(bif (e.kind != 6) then (bif (e.kind != 7) then (e.kind != 16) else false) else false)) then (!(e.id == [])) else false)) else (bif (!(bif (e.kind != 6) then (bif (e.kind != 7) then (e.kind != 16) else false) else false)) then (!(e.id == [])) else false))), (8, zB (bif (e.kind != 6) then (bif (e.kind != 7) then (e.kind != 16) else false) else false)), (21, zB (bif ((kwOf e.kind) == []) then true else (bif (decide (r < 0)) then true else (decide (r > 1099511627776))))), (0, zI r), (1, encE e), (3, .lptr 3 0), (4, .str []), (5, zB false), (6, .str (kwOf e.kind)), (56, zB (bif (e.kind != 6) then (bif (e.kind != 7) then (e.kind != 16) else false) else false)), (64, zB (e.kind == 3)), (7, .str s2)] [(3, [zI e.kind, .str e.id, zI e.sig, zI e.n])] M (bif (e.kind == 9) then true else (bif (e.kind == 14) then true else (e.kind == 16))) ?_ ?_
        · skip
          refine zr (zfL Tryd.underlying34 sizeOf_3) ?_
          refine zr (zlL (zI e.kind) Tryd.underlying3 sizeOf_3) ?_
          refine zr (zi (e.kind == 9)) ?_
          refine zM (zB (e.kind == 9)) ?_
          refine AOps.splitJ (t := 123) (b := e.kind == 9) (x := true) (y := (bif (e.kind == 14) then true else (e.kind == 16))) rfl (fun h23 => ?_) (fun h23 => ?_)
          · skip
            have h23' : e.kind = 9 := (by have hh := eq_of_beq h23; omega)
            clear h23
            refine zs ?_
            refine zs ?_
            refine zs ?_
            refine zr (zp true (zB true)) ?_
            refine zM (zB true) ?_
            refine zs ?_
            refine zs ?_
            refine zs ?_
            refine zr (zp true (zB true)) ?_
            exact AOps.nil rfl
          · skip
            have h23' : ¬ (e.kind = 9) := (by have hh := beq_eq_false_iff_ne.1 h23; omega)
            clear h23
            refine zr (zfL Tryd.underlying34 sizeOf_3) ?_
            refine zr (zlL (zI e.kind) Tryd.underlying3 sizeOf_3) ?_
            refine zr (zi (e.kind == 14)) ?_
            refine zr (zp false (zB (e.kind == 14))) ?_
            refine zM (zB (e.kind == 14)) ?_
            refine AOps.splitJ (t := 128) (b := e.kind == 14) (x := true) (y := (e.kind == 16)) rfl (fun h24 => ?_) (fun h24 => ?_)
            · skip
              have h24' : e.kind = 14 := (by have hh := eq_of_beq h24; omega)
              clear h24
              refine zs ?_
              refine zs ?_
              refine zs ?_
              refine zr (zp true (zB true)) ?_
              exact AOps.nil rfl
            · skip
              have h24' : ¬ (e.kind = 14) := (by have hh := beq_eq_false_iff_ne.1 h24; omega)
              clear h24
              refine zr (zfL Tryd.underlying34 sizeOf_3) ?_
              refine zr (zlL (zI e.kind) Tryd.underlying3 sizeOf_3) ?_
              refine zr (zi (e.kind == 16)) ?_
              refine zr (zp false (zB (e.kind == 16))) ?_
              exact AOps.nil rfl
        have hz3 : (bif (e.kind == 9) then true else (bif (e.kind == 14) then true else (e.kind == 16))) = decide (e.kind = 9 ∨ e.kind = 14 ∨ e.kind = 16) := by rw [Bool.eq_iff_iff, decide_eq_true_iff]; simp only [Bool.cond_eq_ite]; (repeat' split) <;> simp_all <;> omega
        refine zC (b := bif (e.kind == 9) then true else (bif (e.kind == 14) then true else (e.kind == 16))) rfl (fun h25 => ?_) (fun h25 => ?_)
        · skip
          have h25' : e.kind = 9 ∨ e.kind = 14 ∨ e.kind = 16 := (of_decide_eq_true (hz3.symm.trans h25))
          clear h25
          refine AWp.seq ?_
          refine zj 140 [(132, zB (bif (e.kind == 9) then true else (bif (e.kind == 14) then true else (e.kind == 16)))), (95, zB (bif (e.kind == 3) then true else (bif (e.kind == 5) then true else (bif (e.kind == 6) then true else (e.kind == 7))))), (55, zB (bif (bif (e.kind != 6) then (bif (e.kind != 7) then (e.kind != 16) else false) else false) then (bif (!(wordB e.id)) then true else (bif (!(bif (e.kind != 6) then (bif (e.kind != 7) then (e.kind != 16) else false) else false)) then (!(e.id == [])) else false)) else (bif (!(bif (e.kind != 6) then (bif (e.kind != 7) then (e.kind != 16) else false) else false)) then (!(e.id == [])) else false))), (8, zB (bif (e.kind != 6) then (bif (e.kind != 7) then (e.kind != 16) else false) else false)), (21, zB (bif ((kwOf e.kind) == []) then true else (bif (decide (r < 0)) then true else (decide (r > 1099511627776))))), (0, zI r), (1, encE e), (3, .lptr 3 0), (4, .str []), (5, zB false), (6, .str (kwOf e.kind)), (56, zB (bif (e.kind != 6) then (bif (e.kind != 7) then (e.kind != 16) else false) else false)), (64, zB (e.kind == 3)), (7, .str s2)] [(3, [zI e.kind, .str e.id, zI e.sig, zI e.n])] M (bif (decide (e.n < 0)) then true else (e.sig != 0)) ?_ ?_
          · skip
            refine zr (zfL Tryd.underlying34 sizeOf_3) ?_
            refine zr (zlL (zI e.n) Tryd.underlying3 sizeOf_3) ?_
            refine zr (zi (decide (e.n < 0))) ?_
            refine zM (zB (decide (e.n < 0))) ?_
            refine AOps.splitJ (t := 136) (b := decide (e.n < 0)) (x := true) (y := (e.sig != 0)) rfl (fun h26 => ?_) (fun h26 => ?_)
            · skip
              have h26' : e.n < 0 := (by have hh := of_decide_eq_true h26; omega)
              clear h26
              refine zs ?_
              refine zs ?_
              refine zs ?_
              refine zr (zp true (zB true)) ?_
              exact AOps.nil rfl
            · skip
              have h26' : ¬ (e.n < 0) := (by have hh := of_decide_eq_false h26; omega)
              clear h26
              refine zr (zfL Tryd.underlying34 sizeOf_3) ?_
              refine zr (zlL (zI e.sig) Tryd.underlying3 sizeOf_3) ?_
              refine zr (zi (e.sig != 0)) ?_
              refine zr (zp false (zB (e.sig != 0))) ?_
              exact AOps.nil rfl
          have hz4 : (bif (decide (e.n < 0)) then true else (e.sig != 0)) = decide (e.n < 0 ∨ ¬ e.sig = 0) := by rw [Bool.eq_iff_iff, decide_eq_true_iff]; simp only [Bool.cond_eq_ite]; (repeat' split) <;> simp_all <;> omega
          refine zC (b := bif (decide (e.n < 0)) then true else (e.sig != 0)) rfl (fun h27 => ?_) (fun h27 => ?_)
          · skip
            have h27' : e.n < 0 ∨ ¬ e.sig = 0 := (of_decide_eq_true (hz4.symm.trans h27))
            clear h27
            refine zg ?_
            refine zM (.str []) ?_
            refine zM (zB false) ?_
            refine zN ?_
            refine AWp.ret ?_
            exact ⟨.inl rfl, _, ResOf.two 4 5 (.str []) (zB false) rfl rfl (.inl rfl) (.inl rfl) (by decide), ⟨rl_false (fun h => by obtain ⟨q1, q2, q3⟩ := hl_e.1 h; first | (exact absurd (by assumption) q2) | omega), rfl⟩⟩
          · skip
            have h27' : ¬ (e.n < 0 ∨ ¬ e.sig = 0) := (of_decide_eq_false (hz4.symm.trans h27))
            clear h27
            refine AWp.skip ?_
            refine zg ?_
            refine zM (.str s2) ?_
            refine zr (Reader.cat rfl rfl rfl (by first | omega | (simp only [List.length_append, List.length_cons, List.length_nil]; omega) | (simp; omega)) (c := s2 ++ [32]) rfl) ?_
            refine zr (zfL Tryd.underlying34 sizeOf_3) ?_
            refine zr (zlL (zI e.n) Tryd.underlying3 sizeOf_3) ?_
            refine zc [zI e.n] Tryd.call19 (lDigits_int e.n (by omega) (by omega) M) ?_
            rintro _ _ ⟨rfl, rfl⟩
            have hdn := digs_len20 e.n.toNat (by omega)
            refine zr (Reader.cat rfl rfl rfl (by first | omega | (simp only [List.length_append, List.length_cons, List.length_nil]; omega) | (simp; omega)) (c := (s2 ++ [32]) ++ (digs e.n.toNat)) rfl) ?_
            refine zM (.str ((s2 ++ [32]) ++ (digs e.n.toNat))) ?_
            refine zM (zB true) ?_
            refine zN ?_
            refine AWp.ret ?_
            exact ⟨.inl rfl, _, ResOf.two 4 5 (.str ((s2 ++ [32]) ++ (digs e.n.toNat))) (zB true) rfl rfl (.inl rfl) (.inl rfl) (by decide), ⟨rl_intro ((decide_eq_true (hl_e.2 ⟨(show 1 ≤ e.kind ∧ e.kind ≤ 16 ∧ 0 ≤ r ∧ r ≤ 1099511627776 by assumption), by assumption, by omega⟩)).symm) (fun h => by unfold lineE; have e2 : Lib.itoa e.n = digs e.n.toNat := itoa_pos (by omega); rcases hs2 with ⟨a, b, rfl⟩ | ⟨a, rfl⟩ <;> first | (exfalso; omega) | (rcases (show e.kind = 9 ∨ e.kind = 14 ∨ e.kind = 16 by omega) with q | q | q <;> simp [flE, join_two, Lib.join_one, presL, roomL, Named, hs1, q, e2])), rfl⟩⟩
        · skip
          have h25' : ¬ (e.kind = 9 ∨ e.kind = 14 ∨ e.kind = 16) := (of_decide_eq_false (hz3.symm.trans h25))
          clear h25
          refine AWp.skip ?_
          by_cases hbc : e.sig = 0
          · skip
            have hbcb : (e.sig == 0) = true := beq_iff_eq.2 hbc
            refine AWp.seq (AWp.anyR [132, 95, 55, 8, 21, 0, 1, 3, 4, 5, 6, 56, 64, 7] [3] (⟨[(132, zB (bif (e.kind == 9) then true else (bif (e.kind == 14) then true else (e.kind == 16)))), (95, zB (bif (e.kind == 3) then true else (bif (e.kind == 5) then true else (bif (e.kind == 6) then true else (e.kind == 7))))), (55, zB (bif (bif (e.kind != 6) then (bif (e.kind != 7) then (e.kind != 16) else false) else false) then (bif (!(wordB e.id)) then true else (bif (!(bif (e.kind != 6) then (bif (e.kind != 7) then (e.kind != 16) else false) else false)) then (!(e.id == [])) else false)) else (bif (!(bif (e.kind != 6) then (bif (e.kind != 7) then (e.kind != 16) else false) else false)) then (!(e.id == [])) else false))), (8, zB (bif (e.kind != 6) then (bif (e.kind != 7) then (e.kind != 16) else false) else false)), (21, zB (bif ((kwOf e.kind) == []) then true else (bif (decide (r < 0)) then true else (decide (r > 1099511627776))))), (0, zI r), (1, encE e), (3, .lptr 3 0), (4, .str s2), (5, zB (e.n == 0)), (6, .str (kwOf e.kind)), (56, zB (bif (e.kind != 6) then (bif (e.kind != 7) then (e.kind != 16) else false) else false)), (64, zB (e.kind == 3)), (7, .str s2)], [(3, [zI e.kind, .str e.id, zI e.sig, zI e.n])], M⟩) (by kernel_rfl) ?_ ?_)
            · skip
              skip
              refine zkm 0 (.str s2) ?_
              refine zk 1 rfl (PReader.fieldL rfl ⟨_, _, Tryd.underlying34, rfl, rfl, rfl, sizeOf_3⟩ (by decide) rfl) ?_
              refine zq [2] ⟨⟨_, rfl, ?_⟩, trivial⟩
              · skip
                refine zr (zlL (zI e.sig) Tryd.underlying3 sizeOf_3) ?_
                refine zN ?_
                refine zk 3 rfl (PReader.int rfl rfl rfl (r := .bool true) (fold_eq hbcb)) ?_
                refine zkm 4 (zB true) ?_
                refine zk 5 rfl (PReader.fieldL rfl ⟨_, _, Tryd.underlying34, rfl, rfl, rfl, sizeOf_3⟩ (by decide) rfl) ?_
                refine zkm 9 (.str s2) ?_
                refine zq [6] ⟨⟨_, rfl, ?_⟩, trivial⟩
                · skip
                  refine zr (zlL (zI e.n) Tryd.underlying3 sizeOf_3) ?_
                  refine zN ?_
                  refine zk 7 rfl (PReader.int rfl rfl rfl (r := .bool (e.n == 0)) rfl) ?_
                  refine zk 8 rfl (PReader.pick rfl (b := true) rfl (ok_const rfl) (ok_const rfl) (v := zB (e.n == 0)) rfl) ?_
                  refine zkm 10 (zB (e.n == 0)) ?_
                  exact SAny.done (by kernel_rfl) rfl
            refine AWp.ret ?_
            exact ⟨.inl rfl, _, ResOf.two 4 5 (.str s2) (zB (e.n == 0)) rfl rfl (.inl rfl) (.inl rfl) (by decide), ⟨rl_intro (by rw [Bool.eq_iff_iff, decide_eq_true_iff]; simp only [beq_iff_eq]; exact ⟨fun h => hl_e.2 ⟨(show 1 ≤ e.kind ∧ e.kind ≤ 16 ∧ 0 ≤ r ∧ r ≤ 1099511627776 by assumption), by assumption, by omega⟩, fun h => by obtain ⟨q1, q2, q3⟩ := hl_e.1 h; omega⟩) (fun h => by unfold lineE; rcases hs2 with ⟨a, b, rfl⟩ | ⟨a, rfl⟩ <;> first | (exfalso; omega) | (have c1 : flE e = [e.id] := fl_id (by omega); have c2 : Named e.kind := ⟨by omega, by omega, by omega⟩; simp [join_two, Lib.join_one, hs1, c1, c2])), rfl⟩⟩
          · skip
            have hbcb : (e.sig == 0) = false := beq_eq_false_iff_ne.2 hbc
            refine AWp.seq (AWp.anyR [132, 95, 55, 8, 21, 0, 1, 3, 4, 5, 6, 56, 64, 7] [3] (⟨[(132, zB (bif (e.kind == 9) then true else (bif (e.kind == 14) then true else (e.kind == 16)))), (95, zB (bif (e.kind == 3) then true else (bif (e.kind == 5) then true else (bif (e.kind == 6) then true else (e.kind == 7))))), (55, zB (bif (bif (e.kind != 6) then (bif (e.kind != 7) then (e.kind != 16) else false) else false) then (bif (!(wordB e.id)) then true else (bif (!(bif (e.kind != 6) then (bif (e.kind != 7) then (e.kind != 16) else false) else false)) then (!(e.id == [])) else false)) else (bif (!(bif (e.kind != 6) then (bif (e.kind != 7) then (e.kind != 16) else false) else false)) then (!(e.id == [])) else false))), (8, zB (bif (e.kind != 6) then (bif (e.kind != 7) then (e.kind != 16) else false) else false)), (21, zB (bif ((kwOf e.kind) == []) then true else (bif (decide (r < 0)) then true else (decide (r > 1099511627776))))), (0, zI r), (1, encE e), (3, .lptr 3 0), (4, .str s2), (5, zB false), (6, .str (kwOf e.kind)), (56, zB (bif (e.kind != 6) then (bif (e.kind != 7) then (e.kind != 16) else false) else false)), (64, zB (e.kind == 3)), (7, .str s2)], [(3, [zI e.kind, .str e.id, zI e.sig, zI e.n])], M⟩) (by kernel_rfl) ?_ ?_)
            · skip
              skip
              refine zkm 0 (.str s2) ?_
              refine zk 1 rfl (PReader.fieldL rfl ⟨_, _, Tryd.underlying34, rfl, rfl, rfl, sizeOf_3⟩ (by decide) rfl) ?_
              refine zq [2] ⟨⟨_, rfl, ?_⟩, trivial⟩
              · skip
                refine zr (zlL (zI e.sig) Tryd.underlying3 sizeOf_3) ?_
                refine zN ?_
                refine zk 3 rfl (PReader.int rfl rfl rfl (r := .bool false) (fold_eq hbcb)) ?_
                refine zkm 4 (zB false) ?_
                refine zkm 9 (.str s2) ?_
                refine zq [5] ⟨⟨_, rfl, ?_⟩, trivial⟩
                · skip
                  refine zs ?_
                  refine zN ?_
                  refine zq [6] ⟨⟨_, rfl, ?_⟩, trivial⟩
                  · skip
                    refine zs ?_
                    refine zN ?_
                    refine zq [7] ⟨⟨_, rfl, ?_⟩, trivial⟩
                    · skip
                      refine zs ?_
                      refine zN ?_
                      refine zk 8 rfl (PReader.pick rfl (b := false) rfl (ok_const rfl) (ok_const rfl) (v := zB false) rfl) ?_
                      refine zkm 10 (zB false) ?_
                      exact SAny.done (by kernel_rfl) rfl
            refine AWp.ret ?_
            exact ⟨.inl rfl, _, ResOf.two 4 5 (.str s2) (zB false) rfl rfl (.inl rfl) (.inl rfl) (by decide), ⟨rl_false (fun h => by obtain ⟨q1, q2, q3⟩ := hl_e.1 h; first | (exact absurd (by assumption) q2) | omega), rfl⟩⟩

end
section

open Go.RowKit

def allB (l : List (Int × Ev)) : Bool := l.all fun p => decide (HasLine p.1 p.2)
theorem allB_succ {l : List Stp} {i j : Nat} {g : Bool} (h : j < (l.getD i s0).evs.length) (hg : g = allB (part l i j)) : (bif g then decide (HasLine (l.getD i s0).rd ((l.getD i s0).evs.getD j e0)) else false) = allB (part l i (j + 1)) := by
  rw [part_succ h, hg]
  unfold allB
  rw [List.all_append]
  cases ((part l i j).all fun p => decide (HasLine p.1 p.2)) <;> simp
theorem want_succ {l : List Stp} {i j : Nat} {g : Bool} {W : List (List UInt8)} {x : List UInt8} (h : j < (l.getD i s0).evs.length) (hw : g = true → W = (part l i j).map tx) (hx : HasLine (l.getD i s0).rd ((l.getD i s0).evs.getD j e0) → x = lineE (l.getD i s0).rd ((l.getD i s0).evs.getD j e0)) :
    (bif g then decide (HasLine (l.getD i s0).rd ((l.getD i s0).evs.getD j e0)) else false) = true → W ++ [x] = (part l i (j + 1)).map tx := by
  intro hb
  cases g with
  | false => cases hb
  | true =>
    have hl : HasLine (l.getD i s0).rd ((l.getD i s0).evs.getD j e0) := of_decide_eq_true hb
    rw [part_succ h, List.map_append, ← hw rfl, hx hl]
    show W ++ [_] = W ++ [tx _]
    unfold tx
    rw [textE_yes hl]
theorem logall_w {l : List Stp} {g : Bool} {W : List (List UInt8)} (hg : g = allB (evsOf l)) (h : g = true) (hw : g = true → W = (evsOf l).map tx) : linesL l = W := by
  rw [hw h]
  unfold linesL
  rw [if_pos (show allOk l = true from hg.symm.trans h)]
theorem logall_yes {l : List Stp} {g : Bool} (hg : g = allB (evsOf l)) (h : g = true) : (bif linesX l == 0 then true else false) = true := by
  unfold linesX
  rw [if_pos (show allOk l = true from hg.symm.trans h)]; rfl
theorem logall_no {l : List Stp} {g : Bool} (hg : g = allB (evsOf l)) (h : g = false) : (bif linesX l == 1 then ((linesL l).length : Int) == 0 else false) = true := by
  have h1 : allOk l = false := hg.symm.trans h
  unfold linesX linesL
  rw [h1]; rfl

set_option maxRecDepth 20000 in
theorem LogAll_any (l : List Stp) (wn : ∀ x ∈ l, ∀ e ∈ x.evs, -9223372036854775808 ≤ e.n ∧ e.n ≤ 9223372036854775807) (hll : l.length ≤ 9223372036854775807) (hb : ∀ x ∈ l, x.evs.length ≤ 9223372036854775807) (M : Nat → Option (List AV)) : ACall Tryd.prog 9 [.list false 57 (l.map encS)] M (fun r M' => r = zB true ∧ M = M') := by
  refine ACall.of Tryd.func9 rfl (n := 103) rfl rfl rfl ?_
  refine zg ?_
  refine zM (zB false) ?_
  refine zN ?_
  refine AWp.seq ?_
  refine zg ?_
  refine zc [] Tryd.call21 (lawake_any M) ?_
  rintro _ _ ⟨rfl, rfl⟩
  refine zr (zn true) ?_
  refine zM (zB false) ?_
  refine zM (.list false 57 (l.map encS)) ?_
  refine zc [.list false 57 (l.map encS)] Tryd.call27 (few_any l hll hb M) ?_
  rintro _ _ ⟨⟨fb, rfl, hfb⟩, rfl⟩
  refine zr (zn fb) ?_
  refine zr (zp false (zB (!fb))) ?_
  refine zN ?_
  refine zC (b := !fb) rfl (fun h1 => ?_) (fun h1 => ?_)
  · skip
    have h1' : True := trivial
    clear h1
    refine zg ?_
    refine zc [] Tryd.call21 (lawake_any M) ?_
    rintro _ _ ⟨rfl, rfl⟩
    refine zM (zB true) ?_
    refine zN ?_
    refine AWp.ret ?_
    exact ⟨.inl rfl, _, ResOf.one 2 (zB true) rfl rfl, ⟨rfl, rfl⟩⟩
  · skip
    have h1' : FewP l := (hfb (bnot_f h1))
    clear h1
    refine AWp.skip ?_
    refine zg ?_
    refine AOps.nilList 9 trivial rfl (by decide) (.inl rfl) ?_
    refine zN ?_
    refine zg ?_
    refine zal [] zero_50 [zI 0, zI 0, zI 0, zI 0, zI 0, zI 0, zI 0, zI 0, zI 0, zI 0, zI 0, zI 0, zI 0, zI 0, zI 0, zI 0, zI 0] ?_
    refine zN ?_
    refine zg ?_
    refine zM (zB true) ?_
    refine zN ?_
    refine AWp.seq ?_
    refine zg ?_
    refine zM (zI 0) ?_
    refine zN ?_
    refine AWp.block ?_
    refine AWp.loopE [0, 3, 4, 5, 6] [4] (fun m s => ∃ (i : Nat) (W : List (List UInt8)) (g : Bool), m = l.length - i ∧ s = ⟨[(0, .list false 57 (l.map encS)), (3, .list true 9 (W.map AV.str)), (4, .lptr 4 0), (5, zB g), (6, zI (i : Int))], [(4, intsA (cntP (evsOf (l.take i))))], M⟩ ∧ (i ≤ l.length) ∧ (W.length = (evsOf (l.take i)).length) ∧ (g = allB (evsOf (l.take i))) ∧ (g = true → W = (evsOf (l.take i)).map tx)) ?_ ?_
    · exact ⟨_, 0, [], true, rfl, rfl, Nat.zero_le _, rfl, rfl, fun _ => rfl⟩
    · rintro _ _ ⟨i, W, g, rfl, rfl, hi, hWl, hg, hw⟩
      have hfw := (show FewP l by assumption)
      have hfl := hfw.1
      have hgo := few_good hfw wn
      have hle := few_len hfw
      have hte := evs_take_len l i
      refine AWp.seq ?_
      refine zg ?_
      refine zM (zI (i : Int)) ?_
      refine zM (.list false 57 (l.map encS)) ?_
      refine zr (zL (l.map encS) l.length Tryd.underlying48 (by simp)) ?_
      refine zr (zi (decide ((i : Int) < (l.length : Int)))) ?_
      refine zN ?_
      refine zC (b := decide ((i : Int) < (l.length : Int))) rfl (fun h2 => ?_) (fun h2 => ?_)
      · skip
        have h2' : i < l.length := (by have hh := of_decide_eq_true h2; omega)
        clear h2
        refine AWp.skip ?_
        refine AWp.seq ?_
        refine AWp.block ?_
        refine zg ?_
        refine zM (zI 0) ?_
        refine zN ?_
        refine AWp.block ?_
        refine AWp.loopE [0, 3, 4, 5, 6, 7] [4] (fun m s => ∃ (j : Nat) (W2 : List (List UInt8)) (g2 : Bool), m = (l.getD i s0).evs.length - j ∧ s = ⟨[(0, .list false 57 (l.map encS)), (3, .list true 9 (W2.map AV.str)), (4, .lptr 4 0), (5, zB g2), (6, zI (i : Int)), (7, zI (j : Int))], [(4, intsA (cntP (part l i j)))], M⟩ ∧ (j ≤ (l.getD i s0).evs.length) ∧ (W2.length = (part l i j).length) ∧ (g2 = allB (part l i j)) ∧ (g2 = true → W2 = (part l i j).map tx)) ?_ ?_
        · exact ⟨_, 0, W, g, rfl, (by rw [part_zero]; rfl), Nat.zero_le _, by rw [part_zero]; exact hWl, by rw [part_zero]; exact hg, by rw [part_zero]; exact hw⟩
        · rintro _ _ ⟨j, W2, g2, rfl, rfl, hj, hWl2, hg2, hw2⟩
          have hel := evs_len (l := l) (i := i) (by omega)
          have hpl := part_len (l := l) (i := i) (j := j) (by omega)
          have hci := (cntP_inv (part l i j)).2 ((l.getD i s0).evs.getD j e0).kind.toNat
          refine AWp.seq ?_
          refine zg ?_
          refine zM (zI (j : Int)) ?_
          refine zM (.list false 57 (l.map encS)) ?_
          refine zM (zI (i : Int)) ?_
          refine zr (zel i (encS (l.getD i s0)) Tryd.underlying48 sizeOf_57 (encS_at (by omega))) ?_
          refine zr (zfE Tryd.underlying57 sizeOf_51) ?_
          refine zr (zlE (.list false 34 ((l.getD i s0).evs.map encE)) Tryd.underlying51 sizeOf_51) ?_
          refine zr (zL ((l.getD i s0).evs.map encE) ((l.getD i s0).evs.length) Tryd.underlying51 (by simp)) ?_
          refine zr (zi (decide ((j : Int) < (((l.getD i s0).evs.length : Nat) : Int)))) ?_
          refine zN ?_
          refine zC (b := decide ((j : Int) < (((l.getD i s0).evs.length : Nat) : Int))) rfl (fun h3 => ?_) (fun h3 => ?_)
          · skip
            have h3' : j < ((l.getD i s0).evs.length) := (by have hh := of_decide_eq_true h3; omega)
            clear h3
            refine AWp.skip ?_
            refine AWp.seq ?_
            refine AWp.block ?_
            refine zg ?_
            refine zM (.list false 57 (l.map encS)) ?_
            refine zM (zI (i : Int)) ?_
            refine zr (zel i (encS (l.getD i s0)) Tryd.underlying48 sizeOf_57 (encS_at (by omega))) ?_
            refine zr (zfE Tryd.underlying57 sizeOf_51) ?_
            refine zr (zlE (.list false 34 ((l.getD i s0).evs.map encE)) Tryd.underlying51 sizeOf_51) ?_
            refine zM (zI (j : Int)) ?_
            refine zr (zel j (encE ((l.getD i s0).evs.getD j e0)) Tryd.underlying51 sizeOf_34 (encE_at (by omega))) ?_
            refine zr (zlE (encE ((l.getD i s0).evs.getD j e0)) Tryd.underlying34 sizeOf_34) ?_
            refine zal [] zero_34 [zI 0, .str [], zI 0, zI 0] ?_
            refine zst sizeOf_34 (encE ((l.getD i s0).evs.getD j e0)) ?_
            refine zN ?_
            refine AWp.seq (AWp.anyX [0, 3, 4, 5, 6, 7, 34, 8, 9, 10] [4, 8] (fun (x13 : List UInt8) => (⟨[(0, .list false 57 (l.map encS)), (3, .list true 9 (W2.map AV.str)), (4, .lptr 4 0), (5, zB g2), (6, zI (i : Int)), (7, zI (j : Int)), (34, zB (decide ((j : Int) < (((l.getD i s0).evs.length : Nat) : Int)))), (8, .lptr 8 0), (9, .str x13), (10, zB (decide (HasLine (l.getD i s0).rd ((l.getD i s0).evs.getD j e0))))], [(4, intsA (cntP (part l i j))), (8, [zI (((l.getD i s0).evs.getD j e0).kind), .str (((l.getD i s0).evs.getD j e0).id), zI (((l.getD i s0).evs.getD j e0).sig), zI (((l.getD i s0).evs.getD j e0).n)])], M⟩)) (fun (x13 : List UInt8) => HasLine (l.getD i s0).rd ((l.getD i s0).evs.getD j e0) → x13 = lineE (l.getD i s0).rd ((l.getD i s0).evs.getD j e0)) (by kernel_rfl) ?_ ?_)
            · skip
              skip
              refine SAny.share 6 #[true, true, true, true, true, true, true, false, false, false, false, false, false] (⟨[(0, .list false 57 (l.map encS)), (3, .list true 9 (W2.map AV.str)), (4, .lptr 4 0), (5, zB g2), (6, zI (i : Int)), (7, zI (j : Int)), (27, zI (j : Int)), (28, .list false 57 (l.map encS)), (29, zI (i : Int)), (30, .eptr (encS (l.getD i s0)) 0), (31, .eptr (encS (l.getD i s0)) 1), (32, .list false 34 ((l.getD i s0).evs.map encE)), (33, zI (((l.getD i s0).evs.length : Nat) : Int)), (34, zB (decide ((j : Int) < (((l.getD i s0).evs.length : Nat) : Int)))), (37, .list false 57 (l.map encS)), (38, zI (i : Int)), (39, .eptr (encS (l.getD i s0)) 0), (40, .eptr (encS (l.getD i s0)) 1), (41, .list false 34 ((l.getD i s0).evs.map encE)), (42, zI (j : Int)), (43, .eptr (encE ((l.getD i s0).evs.getD j e0)) 0), (44, encE ((l.getD i s0).evs.getD j e0)), (8, .lptr 8 0), (46, .list false 57 (l.map encS)), (47, zI (i : Int)), (48, .eptr (encS (l.getD i s0)) 0), (49, .eptr (encS (l.getD i s0)) 2), (50, .eptr (encS (l.getD i s0)) 2), (52, .agg [zI (((l.getD i s0).evs.getD j e0).kind), .str (((l.getD i s0).evs.getD j e0).id), zI (((l.getD i s0).evs.getD j e0).sig), zI (((l.getD i s0).evs.getD j e0).n)]), (51, zI ((l.getD i s0).rd))], [(4, intsA (cntP (part l i j))), (8, [zI (((l.getD i s0).evs.getD j e0).kind), .str (((l.getD i s0).evs.getD j e0).id), zI (((l.getD i s0).evs.getD j e0).sig), zI (((l.getD i s0).evs.getD j e0).n)])], M⟩) ?_ (fun sh0 => ?_)
              · skip
                refine zq [7] ⟨⟨_, rfl, ?_⟩, trivial⟩
                · skip
                  refine zc [zI ((l.getD i s0).rd), encE ((l.getD i s0).evs.getD j e0)] Tryd.call23 (rline_any (l.getD i s0).rd ((l.getD i s0).evs.getD j e0) (ev_at hgo (by omega) (by omega)).1 (ev_at hgo (by omega) (by omega)).2 M) ?_
                  rintro _ _ ⟨⟨x13, rfl, hx13⟩, rfl⟩
                  refine zN ?_
                  refine zkm 8 (.tuple [.str x13, zB (decide (HasLine (l.getD i s0).rd ((l.getD i s0).evs.getD j e0)))]) ?_
                  refine zk 9 rfl (PReader.extract (v := .str x13) rfl rfl rfl rfl) ?_
                  refine zk 10 rfl (PReader.extract (v := zB (decide (HasLine (l.getD i s0).rd ((l.getD i s0).evs.getD j e0)))) rfl rfl rfl rfl) ?_
                  refine zkm 11 (.str x13) ?_
                  refine zkm 12 (zB (decide (HasLine (l.getD i s0).rd ((l.getD i s0).evs.getD j e0)))) ?_
                  exact SAny.done (by kernel_rfl) ⟨_, hx13, rfl⟩
              refine zkm 0 (.list false 57 (l.map encS)) ?_
              refine zkm 1 (zI (i : Int)) ?_
              refine zk 2 rfl (PReader.elemAddr (m := i) rfl Tryd.underlying48 sizeOf_57 rfl rfl rfl (e := encS (l.getD i s0)) (encS_at (by omega))) ?_
              refine zk 3 rfl (PReader.fieldE rfl ⟨_, _, Tryd.underlying57, rfl, rfl, rfl, sizeOf_55⟩ (by decide) rfl) ?_
              refine zk 4 rfl (PReader.fieldE rfl ⟨_, _, Tryd.underlying55, rfl, rfl, rfl, sizeOf_3⟩ (by decide) rfl) ?_
              refine zq [5, 6] ⟨⟨_, rfl, ?_⟩, ⟨_, rfl, ?_⟩, trivial⟩
              · skip
                refine zr (zlE (zI ((l.getD i s0).rd)) Tryd.underlying3 sizeOf_3) ?_
                refine zN ?_
                refine zq [6] ⟨⟨_, rfl, ?_⟩, trivial⟩
                · skip
                  refine zr (zlL (.agg [zI (((l.getD i s0).evs.getD j e0).kind), .str (((l.getD i s0).evs.getD j e0).id), zI (((l.getD i s0).evs.getD j e0).sig), zI (((l.getD i s0).evs.getD j e0).n)]) Tryd.underlying34 sizeOf_34) ?_
                  refine zN ?_
                  exact SAny.same [0, 3, 4, 5, 6, 7, 27, 28, 29, 30, 31, 32, 33, 34, 37, 38, 39, 40, 41, 42, 43, 44, 8, 46, 47, 48, 49, 50, 52, 51] [4, 8] sh0 (by kernel_rfl) rfl
              · skip
                refine zr (zlL (.agg [zI (((l.getD i s0).evs.getD j e0).kind), .str (((l.getD i s0).evs.getD j e0).id), zI (((l.getD i s0).evs.getD j e0).sig), zI (((l.getD i s0).evs.getD j e0).n)]) Tryd.underlying34 sizeOf_34) ?_
                refine zN ?_
                refine zq [5] ⟨⟨_, rfl, ?_⟩, trivial⟩
                · skip
                  refine zr (zlE (zI ((l.getD i s0).rd)) Tryd.underlying3 sizeOf_3) ?_
                  refine zN ?_
                  exact SAny.same [0, 3, 4, 5, 6, 7, 27, 28, 29, 30, 31, 32, 33, 34, 37, 38, 39, 40, 41, 42, 43, 44, 8, 46, 47, 48, 49, 50, 52, 51] [4, 8] sh0 (by kernel_rfl) rfl
            intro x13 hx13
            refine zj 5 [(0, .list false 57 (l.map encS)), (3, .list true 9 (W2.map AV.str)), (4, .lptr 4 0), (6, zI (i : Int)), (7, zI (j : Int)), (34, zB (decide ((j : Int) < (((l.getD i s0).evs.length : Nat) : Int)))), (8, .lptr 8 0), (9, .str x13), (10, zB (decide (HasLine (l.getD i s0).rd ((l.getD i s0).evs.getD j e0))))] [(4, intsA (cntP (part l i j))), (8, [zI (((l.getD i s0).evs.getD j e0).kind), .str (((l.getD i s0).evs.getD j e0).id), zI (((l.getD i s0).evs.getD j e0).sig), zI (((l.getD i s0).evs.getD j e0).n)])] M (bif g2 then (decide (HasLine (l.getD i s0).rd ((l.getD i s0).evs.getD j e0))) else false) ?_ ?_
            · skip
              refine zM (zB g2) ?_
              refine zM (zB g2) ?_
              refine AOps.splitJ (t := 57) (b := g2) (x := (decide (HasLine (l.getD i s0).rd ((l.getD i s0).evs.getD j e0)))) (y := false) rfl (fun h4 => ?_) (fun h4 => ?_)
              · skip
                refine zM (zB (decide (HasLine (l.getD i s0).rd ((l.getD i s0).evs.getD j e0)))) ?_
                refine zr (zp true (zB (decide (HasLine (l.getD i s0).rd ((l.getD i s0).evs.getD j e0))))) ?_
                refine zM (zB (decide (HasLine (l.getD i s0).rd ((l.getD i s0).evs.getD j e0)))) ?_
                exact AOps.nil rfl
              · skip
                refine zs ?_
                refine zr (zp false (zB false)) ?_
                refine zM (zB false) ?_
                exact AOps.nil rfl
            refine zg ?_
            refine zT (v := .list true 9 (W2.map AV.str)) rfl ?_
            refine zM (.str x13) ?_
            refine zbS [] [.str x13] Tryd.underlying23 Tryd.i9 ?_
            refine zap (m1 := W2.length) (m2 := 1) 16 (W2.map AV.str) [.str x13] ((W2 ++ [x13]).map AV.str) Tryd.underlying23 Tryd.underlying23 Tryd.i9 (by simp) rfl (by simp) ?_
            refine zT (v := .list true 9 ((W2 ++ [x13]).map AV.str)) rfl ?_
            refine zN ?_
            refine zj 71 [(5, zB (bif g2 then (decide (HasLine (l.getD i s0).rd ((l.getD i s0).evs.getD j e0))) else false)), (0, .list false 57 (l.map encS)), (3, .list true 9 ((W2 ++ [x13]).map AV.str)), (4, .lptr 4 0), (6, zI (i : Int)), (7, zI (j : Int)), (34, zB (decide ((j : Int) < (((l.getD i s0).evs.length : Nat) : Int)))), (8, .lptr 8 0), (9, .str x13), (10, zB (decide (HasLine (l.getD i s0).rd ((l.getD i s0).evs.getD j e0))))] [(4, intsA (cntP (part l i j))), (8, [zI (((l.getD i s0).evs.getD j e0).kind), .str (((l.getD i s0).evs.getD j e0).id), zI (((l.getD i s0).evs.getD j e0).sig), zI (((l.getD i s0).evs.getD j e0).n)])] M (bif (decide (((l.getD i s0).evs.getD j e0).kind > 0)) then (decide (((l.getD i s0).evs.getD j e0).kind < 17)) else false) ?_ ?_
            · skip
              refine zr (zfL Tryd.underlying34 sizeOf_3) ?_
              refine zr (zlL (zI (((l.getD i s0).evs.getD j e0).kind)) Tryd.underlying3 sizeOf_3) ?_
              refine zr (zi (decide (((l.getD i s0).evs.getD j e0).kind > 0))) ?_
              refine zM (zB (decide (((l.getD i s0).evs.getD j e0).kind > 0))) ?_
              refine AOps.splitJ (t := 67) (b := decide (((l.getD i s0).evs.getD j e0).kind > 0)) (x := (decide (((l.getD i s0).evs.getD j e0).kind < 17))) (y := false) rfl (fun h5 => ?_) (fun h5 => ?_)
              · skip
                have h5' : (((l.getD i s0).evs.getD j e0).kind) > 0 := (by have hh := of_decide_eq_true h5; omega)
                clear h5
                refine zr (zfL Tryd.underlying34 sizeOf_3) ?_
                refine zr (zlL (zI (((l.getD i s0).evs.getD j e0).kind)) Tryd.underlying3 sizeOf_3) ?_
                refine zr (zi (decide (((l.getD i s0).evs.getD j e0).kind < 17))) ?_
                refine zr (zp true (zB (decide (((l.getD i s0).evs.getD j e0).kind < 17)))) ?_
                exact AOps.nil rfl
              · skip
                have h5' : ¬ ((((l.getD i s0).evs.getD j e0).kind) > 0) := (by have hh := of_decide_eq_false h5; omega)
                clear h5
                refine zs ?_
                refine zs ?_
                refine zs ?_
                refine zr (zp false (zB false)) ?_
                exact AOps.nil rfl
            have hz1 : (bif (decide (((l.getD i s0).evs.getD j e0).kind > 0)) then (decide (((l.getD i s0).evs.getD j e0).kind < 17)) else false) = decide (1 ≤ ((l.getD i s0).evs.getD j e0).kind ∧ ((l.getD i s0).evs.getD j e0).kind ≤ 16) := by rw [Bool.eq_iff_iff, decide_eq_true_iff]; simp only [Bool.cond_eq_ite]; (repeat' split) <;> simp_all <;> omega
            refine zC (b := bif (decide (((l.getD i s0).evs.getD j e0).kind > 0)) then (decide (((l.getD i s0).evs.getD j e0).kind < 17)) else false) rfl (fun h6 => ?_) (fun h6 => ?_)
            · skip
              have h6' : 1 ≤ ((l.getD i s0).evs.getD j e0).kind ∧ ((l.getD i s0).evs.getD j e0).kind ≤ 16 := (of_decide_eq_true (hz1.symm.trans h6))
              clear h6
              refine AWp.region ?_
              refine zr (zfL Tryd.underlying34 sizeOf_3) ?_
              refine zr (zlL (zI (((l.getD i s0).evs.getD j e0).kind)) Tryd.underlying3 sizeOf_3) ?_
              refine zr (Reader.indexL (m := ((((l.getD i s0).evs.getD j e0).kind).toNat)) rfl Tryd.underlying50 sizeOf_3 rfl rfl (by omega) (by omega)) ?_
              refine zr (Reader.loadL rfl Tryd.underlying3 sizeOf_3 rfl rfl (v := zI ((cntP (part l i j)).getD ((((l.getD i s0).evs.getD j e0).kind).toNat) 0)) (loaded_int (by omega) (by rw [(cntP_inv _).1]; omega)) rfl) ?_
              refine zr (zw (((cntP (part l i j)).getD ((((l.getD i s0).evs.getD j e0).kind).toNat) 0) + 1) (((cntP (part l i j)).getD ((((l.getD i s0).evs.getD j e0).kind).toNat) 0) + 1)) ?_
              refine zr (Reader.indexL (m := ((((l.getD i s0).evs.getD j e0).kind).toNat)) rfl Tryd.underlying50 sizeOf_3 rfl rfl (by omega) (by omega)) ?_
              refine AOps.storeLE (cells' := intsA (cntP (part l i (j + 1)))) trivial rfl rfl rfl rfl sizeOf_3 (.inl ⟨rfl, rfl⟩) rfl (v := zI (((cntP (part l i j)).getD ((((l.getD i s0).evs.getD j e0).kind).toNat) 0) + 1)) rfl (all_flat rfl) rfl (by rw [intsA_len, (cntP_inv _).1]; omega) ((splice_int (by omega) (by rw [(cntP_inv _).1]; omega)).trans (congrArg intsA (cnt_known (by omega) (by assumption)))) ?_
              refine zN ?_
              refine AWp.region ?_
              refine zM (zI (j : Int)) ?_
              refine zr (zw ((j : Int) + 1) ((j + 1 : Nat) : Int)) ?_
              refine zM (zI ((j + 1 : Nat) : Int)) ?_
              refine zN ?_
              exact ⟨_, by omega, j + 1, (W2 ++ [x13]), (bif g2 then decide (HasLine (l.getD i s0).rd ((l.getD i s0).evs.getD j e0)) else false), rfl, by first | rfl | (rw [cnt_not (by omega) (by assumption)]; rfl), by omega, by rw [part_succ (by omega), List.length_append, List.length_append, hWl2]; rfl, allB_succ (by omega) hg2, want_succ (by omega) hw2 hx13⟩
            · skip
              have h6' : ¬ (1 ≤ ((l.getD i s0).evs.getD j e0).kind ∧ ((l.getD i s0).evs.getD j e0).kind ≤ 16) := (of_decide_eq_false (hz1.symm.trans h6))
              clear h6
              refine AWp.skip ?_
              refine AWp.region ?_
              refine zM (zI (j : Int)) ?_
              refine zr (zw ((j : Int) + 1) ((j + 1 : Nat) : Int)) ?_
              refine zM (zI ((j + 1 : Nat) : Int)) ?_
              refine zN ?_
              exact ⟨_, by omega, j + 1, (W2 ++ [x13]), (bif g2 then decide (HasLine (l.getD i s0).rd ((l.getD i s0).evs.getD j e0)) else false), rfl, by first | rfl | (rw [cnt_not (by omega) (by assumption)]; rfl), by omega, by rw [part_succ (by omega), List.length_append, List.length_append, hWl2]; rfl, allB_succ (by omega) hg2, want_succ (by omega) hw2 hx13⟩
          · skip
            have h3' : ¬ (j < ((l.getD i s0).evs.length)) := (by have hh := of_decide_eq_false h3; omega)
            clear h3
            refine AWp.exit ?_
            have hpe : part l i j = evsOf (l.take (i + 1)) := part_end (by omega) (by omega)
            rw [hpe]
            refine AWp.region ?_
            refine zM (zI (i : Int)) ?_
            refine zr (zw ((i : Int) + 1) ((i + 1 : Nat) : Int)) ?_
            refine zM (zI ((i + 1 : Nat) : Int)) ?_
            refine zN ?_
            exact ⟨_, by omega, i + 1, W2, g2, rfl, rfl, by omega, by rw [← part_end (by omega) (by omega)]; exact hWl2, by rw [← part_end (by omega) (by omega)]; exact hg2, by rw [← part_end (by omega) (by omega)]; exact hw2⟩
      · skip
        have h2' : ¬ (i < l.length) := (by have hh := of_decide_eq_false h2; omega)
        clear h2
        refine AWp.exit ?_
        have hpe0 : l.take i = l := List.take_of_length_le (by omega)
        rw [hpe0] at hWl hg hw
        rw [hpe0]
        refine zg ?_
        refine zM (.list false 57 (l.map encS)) ?_
        refine zc [.list false 57 (l.map encS)] Tryd.call28 (lines_any l (few_good (show FewP l by assumption) wn) (few_gl (show FewP l by assumption)) (few_l (show FewP l by assumption)) M) ?_
        rintro _ _ ⟨rfl, rfl⟩
        refine zM (.tuple [.list false 9 ((linesL l).map AV.str), zI (linesX l)]) ?_
        refine zr (zx (.list false 9 ((linesL l).map AV.str))) ?_
        refine zr (zx (zI (linesX l))) ?_
        refine zM (.list false 9 ((linesL l).map AV.str)) ?_
        refine zM (zI (linesX l)) ?_
        refine zN ?_
        refine AWp.seq ?_
        refine AWp.seq (AWp.anyR [0, 3, 4, 5, 6, 24, 11, 12, 86] [4] (⟨[(0, .list false 57 (l.map encS)), (3, .list true 9 (W.map AV.str)), (4, .lptr 4 0), (5, zB g), (6, zI (i : Int)), (24, zB (decide ((i : Int) < (l.length : Int)))), (11, .list false 9 ((linesL l).map AV.str)), (12, zI (linesX l)), (86, zB false)], [(4, intsA (cntP (evsOf l)))], M⟩) (by kernel_rfl) ?_ ?_)
        · skip
          skip
          refine SAny.share 1 #[true, true, true, false] (⟨[(0, .list false 57 (l.map encS)), (3, .list true 9 (W.map AV.str)), (4, .lptr 4 0), (5, zB g), (6, zI (i : Int)), (21, zI (i : Int)), (22, .list false 57 (l.map encS)), (23, zI (l.length : Int)), (24, zB (decide ((i : Int) < (l.length : Int)))), (79, .list false 57 (l.map encS)), (80, .tuple [.list true 9 ((linesL l).map AV.str), zI (linesX l)]), (78, .tuple [.list false 9 ((linesL l).map AV.str), zI (linesX l)]), (81, .list false 9 ((linesL l).map AV.str)), (82, zI (linesX l)), (11, .list false 9 ((linesL l).map AV.str)), (12, zI (linesX l)), (83, .list false 57 (l.map encS)), (85, .agg (intsA (cntP (evsOf l)))), (84, .agg (intsA (cntP (evsOf l))))], [(4, intsA (cntP (evsOf l)))], M⟩) ?_ (fun sh0 => ?_)
          · skip
            refine zq [3] ⟨⟨_, rfl, ?_⟩, trivial⟩
            · skip
              obtain ⟨q0, q1, q2, q3, q4, q5, q6, q7, q8, q9, q10, q11, q12, q13, q14, q15, q16, hq⟩ := ints17 (cntP_inv _).1
              refine zr (Reader.eqAgg (cs := [zI q0, zI q1, zI q2, zI q3, zI q4, zI q5, zI q6, zI q7, zI q8, zI q9, zI q10, zI q11, zI q12, zI q13, zI q14, zI q15, zI q16]) (ds := [zI q0, zI q1, zI q2, zI q3, zI q4, zI q5, zI q6, zI q7, zI q8, zI q9, zI q10, zI q11, zI q12, zI q13, zI q14, zI q15, zI q16]) (us := [.int .i64 q0, .int .i64 q1, .int .i64 q2, .int .i64 q3, .int .i64 q4, .int .i64 q5, .int .i64 q6, .int .i64 q7, .int .i64 q8, .int .i64 q9, .int .i64 q10, .int .i64 q11, .int .i64 q12, .int .i64 q13, .int .i64 q14, .int .i64 q15, .int .i64 q16]) (vs := [.int .i64 q0, .int .i64 q1, .int .i64 q2, .int .i64 q3, .int .i64 q4, .int .i64 q5, .int .i64 q6, .int .i64 q7, .int .i64 q8, .int .i64 q9, .int .i64 q10, .int .i64 q11, .int .i64 q12, .int .i64 q13, .int .i64 q14, .int .i64 q15, .int .i64 q16]) (b := true) (r := false) 9 rfl (by exact congrArg (fun z => AV.agg (intsA z)) hq) (by exact congrArg (fun z => AV.agg (intsA z)) hq) ⟨_, rfl⟩ ⟨_, rfl⟩ Tryd.underlying50 rfl eqg_50 (by decide) rfl rfl ((eqV_50 q0 q0 q1 q1 q2 q2 q3 q3 q4 q4 q5 q5 q6 q6 q7 q7 q8 q8 q9 q9 q10 q10 q11 q11 q12 q12 q13 q13 q14 q14 q15 q15 q16 q16).trans (by simp)) (.inr ⟨rfl, rfl⟩)) ?_
              refine zN ?_
              exact SAny.done (by kernel_rfl) rfl
          refine zkm 0 (.list false 57 (l.map encS)) ?_
          refine zq [1, 2] ⟨⟨_, rfl, ?_⟩, ⟨_, rfl, ?_⟩, trivial⟩
          · skip
            refine zc [.list false 57 (l.map encS)] Tryd.call29 (count_any l (few_gl (show FewP l by assumption)) (few_l (show FewP l by assumption)) M) ?_
            rintro _ _ ⟨rfl, rfl⟩
            refine zN ?_
            refine zq [2] ⟨⟨_, rfl, ?_⟩, trivial⟩
            · skip
              refine zr (Reader.loadL rfl Tryd.underlying50 sizeOf_50 rfl rfl (v := .agg (intsA (cntP (evsOf l)))) (loaded_ints (cntP_inv _).1) rfl) ?_
              refine zN ?_
              exact SAny.same [0, 3, 4, 5, 6, 21, 22, 23, 24, 79, 80, 78, 81, 82, 11, 12, 83, 85, 84] [4] sh0 (by kernel_rfl) rfl
          · skip
            refine zr (Reader.loadL rfl Tryd.underlying50 sizeOf_50 rfl rfl (v := .agg (intsA (cntP (evsOf l)))) (loaded_ints (cntP_inv _).1) rfl) ?_
            refine zN ?_
            refine zq [1] ⟨⟨_, rfl, ?_⟩, trivial⟩
            · skip
              refine zc [.list false 57 (l.map encS)] Tryd.call29 (count_any l (few_gl (show FewP l by assumption)) (few_l (show FewP l by assumption)) M) ?_
              rintro _ _ ⟨rfl, rfl⟩
              refine zN ?_
              exact SAny.same [0, 3, 4, 5, 6, 21, 22, 23, 24, 79, 80, 78, 81, 82, 11, 12, 83, 85, 84] [4] sh0 (by kernel_rfl) rfl
        refine AWp.cond (b := false) rfl (fun hx => by cases hx) (fun hx => ?_)
        refine AWp.skip ?_
        refine AWp.seq ?_
        refine zg ?_
        refine zM (zB g) ?_
        refine zr (zn g) ?_
        refine zN ?_
        refine zC (b := !g) rfl (fun h7 => ?_) (fun h7 => ?_)
        · skip
          have h7' : g = false := (bnot_t h7)
          clear h7
          refine zj 2 [(0, .list false 57 (l.map encS)), (3, .list true 9 (W.map AV.str)), (4, .lptr 4 0), (5, zB g), (6, zI (i : Int)), (24, zB (decide ((i : Int) < (l.length : Int)))), (11, .list false 9 ((linesL l).map AV.str)), (12, zI (linesX l)), (86, zB false), (88, zB (!g))] [(4, intsA (cntP (evsOf l)))] M (bif ((linesX l) == 1) then ((((linesL l).length : Nat) : Int) == 0) else false) ?_ ?_
          · skip
            refine zM (zI (linesX l)) ?_
            refine zr (zi ((linesX l) == 1)) ?_
            refine zM (zB ((linesX l) == 1)) ?_
            refine AOps.splitJ (t := 91) (b := (linesX l) == 1) (x := ((((linesL l).length : Nat) : Int) == 0)) (y := false) rfl (fun h8 => ?_) (fun h8 => ?_)
            · skip
              have h8' : (linesX l) = 1 := (by have hh := eq_of_beq h8; omega)
              clear h8
              refine zM (.list false 9 ((linesL l).map AV.str)) ?_
              refine zr (zL ((linesL l).map AV.str) ((linesL l).length) Tryd.underlying23 (by simp)) ?_
              refine zr (zi ((((linesL l).length : Nat) : Int) == 0)) ?_
              refine zr (zp true (zB ((((linesL l).length : Nat) : Int) == 0))) ?_
              refine zM (zB ((((linesL l).length : Nat) : Int) == 0)) ?_
              exact AOps.nil rfl
            · skip
              have h8' : ¬ ((linesX l) = 1) := (by have hh := beq_eq_false_iff_ne.1 h8; omega)
              clear h8
              refine zs ?_
              refine zs ?_
              refine zs ?_
              refine zr (zp false (zB false)) ?_
              refine zM (zB false) ?_
              exact AOps.nil rfl
          refine AWp.ret ?_
          exact ⟨.inl rfl, _, ResOf.one 2 (zB (bif ((linesX l) == 1) then ((((linesL l).length : Nat) : Int) == 0) else false)) rfl rfl, ⟨congrArg (fun b => AV.lit (.bool b)) (logall_no hg (by assumption)), rfl⟩⟩
        · skip
          have h7' : g = true := (bnot_f h7)
          clear h7
          refine AWp.skip ?_
          refine zj 2 [(0, .list false 57 (l.map encS)), (3, .list true 9 (W.map AV.str)), (4, .lptr 4 0), (5, zB g), (6, zI (i : Int)), (24, zB (decide ((i : Int) < (l.length : Int)))), (11, .list false 9 ((linesL l).map AV.str)), (12, zI (linesX l)), (86, zB false), (88, zB (!g))] [(4, intsA (cntP (evsOf l)))] M (bif ((linesX l) == 0) then true else false) ?_ ?_
          · skip
            refine zM (zI (linesX l)) ?_
            refine zr (zi ((linesX l) == 0)) ?_
            refine zM (zB ((linesX l) == 0)) ?_
            refine AOps.splitJ (t := 98) (b := (linesX l) == 0) (x := true) (y := false) rfl (fun h9 => ?_) (fun h9 => ?_)
            · skip
              have h9' : (linesX l) = 0 := (by have hh := eq_of_beq h9; omega)
              clear h9
              refine zM (.list false 9 ((linesL l).map AV.str)) ?_
              refine zM (.list false 9 (W.map AV.str)) ?_
              refine zc [.list false 9 ((linesL l).map AV.str), .list false 9 (W.map AV.str)] Tryd.call30 (sameT_eq (logall_w hg (by assumption) hw) (Nat.le_trans (lines_len l) (few_gl (show FewP l by assumption))) M) ?_
              rintro _ _ ⟨rfl, rfl⟩
              refine zr (zp true (zB true)) ?_
              refine zM (zB true) ?_
              exact AOps.nil rfl
            · skip
              have h9' : ¬ ((linesX l) = 0) := (by have hh := beq_eq_false_iff_ne.1 h9; omega)
              clear h9
              refine zs ?_
              refine zs ?_
              refine zs ?_
              refine zr (zp false (zB false)) ?_
              refine zM (zB false) ?_
              exact AOps.nil rfl
          refine AWp.ret ?_
          exact ⟨.inl rfl, _, ResOf.one 2 (zB (bif ((linesX l) == 0) then true else false)) rfl rfl, ⟨congrArg (fun b => AV.lit (.bool b)) (logall_yes hg (by assumption)), rfl⟩⟩

end
end Go.Proofs.YtlpihekflkjkfaaDoor
