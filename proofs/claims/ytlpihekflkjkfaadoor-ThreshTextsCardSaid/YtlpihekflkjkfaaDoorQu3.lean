/- Walks over abstract values, printed by my program av.py. -/
import Derived.Test.YtlpihekflkjkfaaDoorQu2
namespace Go.Proofs.YtlpihekflkjkfaaDoor
open Go.RowKit

theorem unit_len {i : Nat} : (unitL.getD i u0).1.length ≤ 2 := by
  match i with
  | 0 | 1 | 2 | 3 | 4 | 5 | 6 | 7 => decide
  | i + 8 => exact Nat.zero_le _
theorem pr_t {n u : Nat} (h : (bif decide ((n : Int) > 0) then (((n % u : Nat) : Int) == 0) else false) = true) : n > 0 ∧ n % u = 0 := by
  by_cases h1 : (n : Int) > 0
  · rw [decide_eq_true h1, cond_true] at h
    have := eq_of_beq h
    omega
  · rw [decide_eq_false h1] at h; cases h
theorem pr_f {n u : Nat} (h : (bif decide ((n : Int) > 0) then (((n % u : Nat) : Int) == 0) else false) = false) : ¬ (n > 0 ∧ n % u = 0) := by
  rintro ⟨h1, h2⟩
  rw [decide_eq_true (show (n : Int) > 0 by omega), cond_true, h2] at h
  simp at h
theorem find_first {p : List UInt8 × Nat → Bool} {i : Nat} (hi : i < 8) (hno : ∀ j, j < i → p (unitL.getD j u0) = false) (he : p (unitL.getD i u0) = true) : unitL.find? p = some (unitL.getD i u0) := by
  have key : ∀ (l : List (List UInt8 × Nat)) (i : Nat), i < l.length → (∀ j, j < i → p (l.getD j u0) = false) → p (l.getD i u0) = true → l.find? p = some (l.getD i u0) := by
    intro l
    induction l with
    | nil => intro i h; simp at h
    | cons a r ih =>
      intro i h h1 h2
      cases i with
      | zero => simp at h2; simp [h2]
      | succ i =>
        have h0 := h1 0 (by omega)
        simp at h0
        have := ih i (by simpa using h) (fun j hj => by simpa using h1 (j + 1) (by omega)) (by simpa using h2)
        simp only [List.find?_cons, h0, List.getD_cons_succ]
        exact this
  exact key unitL i hi hno he
theorem find_none {p : List UInt8 × Nat → Bool} (hno : ∀ j, j < 8 → p (unitL.getD j u0) = false) : unitL.find? p = none := by
  rw [List.find?_eq_none]
  intro u hu
  rw [unitL_eq] at hu
  obtain ⟨j, hj, rfl⟩ := List.mem_map.1 hu
  rw [hno j (List.mem_range.1 hj)]; simp
theorem print_some {n i : Nat} (hi : i < 8) (hno : ∀ j, j < i → ¬ (n > 0 ∧ n % (unitL.getD j u0).2 = 0)) (h : n > 0 ∧ n % (unitL.getD i u0).2 = 0) : digs (n / (unitL.getD i u0).2) ++ (unitL.getD i u0).1 = printV n := by
  unfold printV
  rw [if_neg (by omega), find_first (p := fun u => n % u.2 == 0) hi (fun j hj => ?_) (by simpa using h.2)]
  have := hno j hj
  simp only [beq_eq_false_iff_ne]
  intro e
  exact this ⟨h.1, e⟩
theorem print_none {n i : Nat} (hno : ∀ j, j < i → ¬ (n > 0 ∧ n % (unitL.getD j u0).2 = 0)) (hi : 8 ≤ i) : digs n = printV n := by
  unfold printV
  by_cases h0 : n = 0
  · subst h0; rw [if_pos rfl, digs_small (by decide)]; rfl
  · rw [if_neg h0, find_none (p := fun u => n % u.2 == 0) (fun j hj => ?_)]
    have := hno j (by omega)
    simp only [beq_eq_false_iff_ne]
    intro e
    exact this ⟨by omega, e⟩
theorem nm_unit {j : Nat} : j < 8 → unitOf (namesL.getD j []) = (unitL.getD j u0).2 ∧ 1000 ≤ (unitL.getD j u0).2 ∧ (unitL.getD j u0).2 ≤ 1099511627776 := fun h => ⟨by rw [name_unit h]; exact unit_ofN h, unit_n h⟩
/-- The greatest unit from the k-th on that divides. -/
def bst (n k : Nat) : List UInt8 := match (unitL.drop k).find? (fun u => n % u.2 == 0) with | some u => u.1 | none => []
theorem bst_pos (n : Nat) (k : Nat) : 1 ≤ unitOf (bst n k) ∧ unitOf (bst n k) ≤ 1099511627776 := by
  unfold bst
  split
  · rename_i u hu
    have hm := List.mem_of_mem_drop (List.mem_of_find?_eq_some hu)
    have := unit_pos hm
    rw [unit_of hm]; omega
  · decide
theorem bst_len (n : Nat) (k : Nat) : (bst n k).length ≤ 2 := by
  unfold bst
  split
  · rename_i u hu
    have hm := List.mem_of_mem_drop (List.mem_of_find?_eq_some hu)
    simp only [unitL, List.mem_cons, List.mem_nil_iff, or_false] at hm
    rcases hm with rfl | rfl | rfl | rfl | rfl | rfl | rfl | rfl <;> decide
  · exact Nat.zero_le _
theorem drop_unit {k : Nat} (h : k < 8) : unitL.drop k = unitL.getD k u0 :: unitL.drop (k + 1) := by
  rw [List.drop_eq_getElem_cons (by rw [unitL_len]; exact h), List.getD_eq_getElem?_getD, List.getElem?_eq_getElem (by rw [unitL_len]; exact h)]; rfl
theorem bst_yes {n : Nat} {i : Int} (h0 : 0 ≤ i) (h7 : i ≤ 7) (h : n % unitOf (namesL.getD i.toNat []) = 0) : bst n (i - 1 + 1).toNat = namesL.getD i.toNat [] := by
  have e : (i - 1 + 1).toNat = i.toNat := by congr 1; omega
  rw [(nm_unit (j := i.toNat) (by omega)).1] at h
  have hh : (n % (unitL.getD i.toNat u0).2 == 0) = true := by rw [h]; rfl
  rw [e, bst, drop_unit (by omega), List.find?_cons, name_unit (by omega)]
  simp only [hh]
theorem bst_no {n : Nat} {i : Int} (h0 : 0 ≤ i) (h7 : i ≤ 7) (h : ¬ n % unitOf (namesL.getD i.toNat []) = 0) : bst n (i - 1 + 1).toNat = bst n (i + 1).toNat := by
  have e : (i - 1 + 1).toNat = i.toNat := by congr 1; omega
  have e2 : (i + 1).toNat = i.toNat + 1 := by omega
  rw [(nm_unit (j := i.toNat) (by omega)).1] at h
  have hh : (n % (unitL.getD i.toNat u0).2 == 0) = false := beq_eq_false_iff_ne.2 h
  rw [e, e2, bst, drop_unit (by omega), List.find?_cons, bst]
  simp only [hh]
theorem rprint_0 {n : Nat} (h : n ≤ 0) : [48] = printV n := by
  have : n = 0 := by omega
  subst this; rfl
theorem rprint_ok {n : Nat} {i : Int} (hn : ¬ n ≤ 0) (hi : (i + 1).toNat = 0) : digs (n / unitOf (bst n (i + 1).toNat)) ++ bst n (i + 1).toNat = printV n := by
  rw [hi]
  unfold printV bst
  rw [if_neg (by omega), List.drop_zero]
  cases hu : unitL.find? (fun u => n % u.2 == 0) with
  | some u => simp only [unit_of (List.mem_of_find?_eq_some hu)]
  | none => simp only [unitOf_nil, Nat.div_one, List.append_nil]

set_option maxRecDepth 20000 in
theorem Print_any (n : Int) (hn : n.toNat ≤ 9223372036854775807) (M : Nat → Option (List AV)) : ACall Tryd.prog 18 [.lit (.int .i64 n)] M (fun r M' => r = .str (printV n.toNat) ∧ M = M') := by
  refine ACall.of Tryd.func18 rfl (n := 33) rfl rfl rfl ?_
  refine AWp.seq (AWp.region ?_)
  refine AOps.read trivial rfl (by decide) (Reader.move (.inr rfl) (ok_const rfl) (v := .str []) rfl) ?_
  refine AOps.nil ?_
  refine AWp.seq (AWp.region ?_)
  refine AOps.read trivial rfl (by decide) (Reader.move (.inl rfl) (ok_const rfl) (v := .lit (.int .i64 n)) rfl) ?_
  refine AOps.read trivial rfl (by decide) (Reader.maxI rfl rfl rfl rfl rfl (m := (n.toNat : Int)) (by omega)) ?_
  refine AOps.read trivial rfl (by decide) (Reader.move (.inr rfl) (ok_const rfl) (v := .lit (.int .i64 (n.toNat : Int))) rfl) ?_
  refine AOps.nil ?_
  refine AWp.seq ?_
  refine AWp.seq (AWp.region ?_)
  refine AOps.call (args := []) trivial rfl (by decide) rfl rfl Tryd.call43 (args_ok rfl) rfl (by intro j x v hx hv; match j, hx, hv with  | _ + 0, hx, hv => cases hx) (units_any M) ?_
  rintro _ _ ⟨rfl, rfl⟩
  refine AOps.read trivial rfl (by decide) (Reader.len' (xs := unitL.map encU) rfl rfl rfl rfl Tryd.underlying80 rfl (m := 8) rfl) ?_
  refine AOps.read trivial rfl (by decide) (Reader.move (.inl rfl) (ok_const rfl) (v := .lit (.int .i64 0)) rfl) ?_
  refine AOps.nil ?_
  refine AWp.block ?_
  refine AWp.loopE [0, 7, 8, 9] [] (fun m s => ∃ (i : Nat), m = 8 - i ∧ s = ⟨[(0, .lit (.int .i64 (n.toNat : Int))), (7, .list true 83 (unitL.map encU)), (8, .lit (.int .i64 (8 : Int))), (9, .lit (.int .i64 (i : Int)))], [], M⟩ ∧ (i ≤ 8) ∧ (∀ j, j < i → ¬ (n.toNat > 0 ∧ n.toNat % (unitL.getD j u0).2 = 0))) ?_ ?_
  · exact ⟨_, 0, rfl, rfl, by omega, fun j hj => by omega⟩
  · rintro _ _ ⟨i, rfl, rfl, hi, hno⟩
    have hun := unit_n (i := i)
    have hul := unit_len (i := i)
    have hdl := digs_len20 (n.toNat / (unitL.getD i u0).2) (by have hq := Nat.div_le_self n.toNat (unitL.getD i u0).2; omega)
    refine AWp.seq (AWp.region ?_)
    refine AOps.read trivial rfl (by decide) (Reader.int rfl rfl rfl (r := .bool (decide ((i : Int) < (8 : Int)))) rfl) ?_
    refine AOps.nil ?_
    refine AWp.seq ?_
    refine AWp.cond (b := decide ((i : Int) < (8 : Int))) rfl (fun h1 => ?_) (fun h1 => ?_)
    · skip
      have h1' : i < 8 := (by have hh := of_decide_eq_true h1; omega)
      clear h1
      refine AWp.skip ?_
      refine AWp.seq ?_
      refine AWp.block ?_
      refine AWp.seq (AWp.region ?_)
      refine AOps.read trivial rfl (by decide) (Reader.elemAddr (m := i) rfl Tryd.underlying80 sizeOf_83 rfl rfl rfl (e := encU (unitL.getD i u0)) (unit_at (by omega))) ?_
      refine AOps.read trivial rfl (by decide) (Reader.loadE rfl Tryd.underlying83 sizeOf_83 rfl (v := encU (unitL.getD i u0)) rfl rfl) ?_
      refine AOps.alloc (Es := []) trivial rfl (by decide) rfl (noL rfl) rfl zero_83 rfl (cells := [.str [], .lit (.int .i64 0)]) rfl (all_scalar rfl) (all_flat rfl) ?_
      refine AOps.storeL trivial rfl rfl rfl rfl sizeOf_83 (.inl ⟨rfl, rfl⟩) rfl (v := encU (unitL.getD i u0)) rfl (all_flat rfl) rfl (Nat.le_of_ble_eq_true rfl) ?_
      refine AOps.nil ?_
      refine AWp.regionJ [21, 0, 7, 8, 9, 10, 4] [4] (fun z => ⟨(21, .lit (.bool z)) :: [(0, .lit (.int .i64 (n.toNat : Int))), (7, .list true 83 (unitL.map encU)), (8, .lit (.int .i64 (8 : Int))), (9, .lit (.int .i64 (i : Int))), (10, .lit (.bool (decide ((i : Int) < (8 : Int))))), (4, .lptr 4 0)], [(4, [.str ((unitL.getD i u0).1), .lit (.int .i64 (((unitL.getD i u0).2 : Nat) : Int))])], M⟩) (z := bif (decide ((n.toNat : Int) > 0)) then (((n.toNat % ((unitL.getD i u0).2) : Nat) : Int) == 0) else false) ?_ ?_
      · skip
        refine AOps.read trivial rfl (by decide) (Reader.move (.inl rfl) (ok_const rfl) (v := .lit (.int .i64 (n.toNat : Int))) rfl) ?_
        refine AOps.read trivial rfl (by decide) (Reader.int rfl rfl rfl (r := .bool (decide ((n.toNat : Int) > 0))) rfl) ?_
        refine AOps.read trivial rfl (by decide) (Reader.move (.inl rfl) (ok_const rfl) (v := .lit (.bool (decide ((n.toNat : Int) > 0)))) rfl) ?_
        refine AOps.splitJ (t := 15) (b := decide ((n.toNat : Int) > 0)) (x := (((n.toNat % ((unitL.getD i u0).2) : Nat) : Int) == 0)) (y := false) rfl (fun h2 => ?_) (fun h2 => ?_)
        · skip
          have h2' : n.toNat > 0 := (by have hh := of_decide_eq_true h2; omega)
          clear h2
          refine AOps.read ⟨15, rfl, rfl⟩ rfl (by decide) (Reader.move (.inl rfl) (ok_const rfl) (v := .lit (.int .i64 (n.toNat : Int))) rfl) ?_
          refine AOps.read ⟨15, rfl, rfl⟩ rfl (by decide) (Reader.fieldL rfl ⟨_, _, Tryd.underlying83, rfl, rfl, rfl, sizeOf_3⟩ (by decide) rfl) ?_
          refine AOps.read ⟨15, rfl, rfl⟩ rfl (by decide) (Reader.loadL rfl Tryd.underlying3 sizeOf_3 rfl rfl (v := .lit (.int .i64 (((unitL.getD i u0).2 : Nat) : Int))) rfl rfl) ?_
          refine AOps.read ⟨15, rfl, rfl⟩ rfl (by decide) (Reader.rem rfl rfl rfl (by omega) (c := ((n.toNat % ((unitL.getD i u0).2) : Nat) : Int)) (nat_rem _ _)) ?_
          refine AOps.read ⟨15, rfl, rfl⟩ rfl (by decide) (Reader.int rfl rfl rfl (r := .bool (((n.toNat % ((unitL.getD i u0).2) : Nat) : Int) == 0)) rfl) ?_
          refine AOps.read trivial rfl (by decide) (Reader.pick rfl (b := true) rfl (ok_const rfl) (ok_const rfl) (v := .lit (.bool (((n.toNat % ((unitL.getD i u0).2) : Nat) : Int) == 0))) rfl) ?_
          exact AOps.nil rfl
        · skip
          have h2' : ¬ (n.toNat > 0) := (by have hh := of_decide_eq_false h2; omega)
          clear h2
          refine AOps.skip ⟨2, true, 15, _, rfl, rfl, rfl, by simp⟩ rfl (by decide) ?_
          refine AOps.skip ⟨2, true, 15, _, rfl, rfl, rfl, by simp⟩ rfl (by decide) ?_
          refine AOps.skip ⟨2, true, 15, _, rfl, rfl, rfl, by simp⟩ rfl (by decide) ?_
          refine AOps.skip ⟨2, true, 15, _, rfl, rfl, rfl, by simp⟩ rfl (by decide) ?_
          refine AOps.skip ⟨2, true, 15, _, rfl, rfl, rfl, by simp⟩ rfl (by decide) ?_
          refine AOps.read trivial rfl (by decide) (Reader.pick rfl (b := false) rfl (ok_const rfl) (ok_const rfl) (v := .lit (.bool false)) rfl) ?_
          exact AOps.nil rfl
      refine AWp.cond (b := bif (decide ((n.toNat : Int) > 0)) then (((n.toNat % ((unitL.getD i u0).2) : Nat) : Int) == 0) else false) rfl (fun h3 => ?_) (fun h3 => ?_)
      · skip
        have h3' : n.toNat > 0 ∧ n.toNat % (unitL.getD i u0).2 = 0 := (pr_t h3)
        clear h3
        refine AWp.seq (AWp.drawnAll (by kernel_rfl) (by kernel_rfl) ?_)
        refine AOpsE.read trivial rfl (by decide) (Reader.move (.inl rfl) (ok_const rfl) (v := .lit (.int .i64 (n.toNat : Int))) rfl) ?_
        refine AOpsE.read trivial rfl (by decide) (Reader.fieldL rfl ⟨_, _, Tryd.underlying83, rfl, rfl, rfl, sizeOf_3⟩ (by decide) rfl) ?_
        refine AOpsE.read trivial rfl (by decide) (Reader.loadL rfl Tryd.underlying3 sizeOf_3 rfl rfl (v := .lit (.int .i64 (((unitL.getD i u0).2 : Nat) : Int))) rfl rfl) ?_
        refine AOpsE.read trivial rfl (by decide) (Reader.quo rfl rfl rfl (by omega) (c := ((n.toNat / ((unitL.getD i u0).2) : Nat) : Int)) (by rw [nat_quo]; exact IntWalk.i64_in _ (by have hq := Nat.div_le_self n.toNat ((unitL.getD i u0).2); generalize n.toNat / ((unitL.getD i u0).2) = q at hq ⊢; omega))) ?_
        refine AOpsE.call (args := [.lit (.int .i64 ((n.toNat / ((unitL.getD i u0).2) : Nat) : Int))]) (v := .str (digs (n.toNat / ((unitL.getD i u0).2)))) trivial rfl (by decide) rfl rfl Tryd.call44 (args_ok rfl) rfl (by intro j x v hx hv; match j, hx, hv with | 0, hx, hv => cases hx; cases hv; exact .inl ⟨rfl, rfl⟩ | _ + 1, hx, hv => cases hx) (itoa_any (n.toNat / ((unitL.getD i u0).2)) (by first | omega | (have hq := Nat.div_le_self n.toNat (unitL.getD i u0).2; omega)) noM) rfl ?_
        refine AOpsE.read trivial rfl (by decide) (Reader.fieldL rfl ⟨_, _, Tryd.underlying83, rfl, rfl, rfl, sizeOf_9⟩ (by decide) rfl) ?_
        refine AOpsE.read trivial rfl (by decide) (Reader.loadL rfl Tryd.underlying9 sizeOf_9 rfl rfl (v := .str ((unitL.getD i u0).1)) rfl rfl) ?_
        refine AOpsE.read trivial rfl (by decide) (Reader.cat rfl rfl rfl (by first | omega | (simp only [List.length_append, List.length_cons, List.length_nil]; omega) | (simp; omega)) (c := (digs (n.toNat / ((unitL.getD i u0).2))) ++ ((unitL.getD i u0).1)) rfl) ?_
        refine AOpsE.read trivial rfl (by decide) (Reader.move (.inr rfl) (ok_const rfl) (v := .str ((digs (n.toNat / ((unitL.getD i u0).2))) ++ ((unitL.getD i u0).1))) rfl) ?_
        refine AOpsE.nil ?_
        refine AWp.ret ?_
        exact ⟨.inl rfl, _, ResOf.one 2 (.str ((digs (n.toNat / ((unitL.getD i u0).2))) ++ ((unitL.getD i u0).1))) rfl rfl, ⟨congrArg AV.str (print_some (by omega) hno (by assumption)), rfl⟩⟩
      · skip
        have h3' : ¬ (n.toNat > 0 ∧ n.toNat % (unitL.getD i u0).2 = 0) := (pr_f h3)
        clear h3
        refine AWp.skip ?_
        refine AWp.region ?_
        refine AOps.read trivial rfl (by decide) (Reader.sum rfl rfl rfl (m := (i : Int) + 1) (c := ((i + 1 : Nat) : Int)) rfl (by first | exact IntWalk.i64_in _ (by omega) | exact IntWalk.i64_in _ (by constructor <;> omega) | (simp only [];omega))) ?_
        refine AOps.read trivial rfl (by decide) (Reader.move (.inl rfl) (ok_const rfl) (v := .lit (.int .i64 ((i + 1 : Nat) : Int))) rfl) ?_
        refine AOps.nil ?_
        exact ⟨_, by omega, i + 1, rfl, rfl, by omega, nx_0 hno (by assumption)⟩
    · skip
      have h1' : ¬ (i < 8) := (by have hh := of_decide_eq_false h1; omega)
      clear h1
      refine AWp.exit ?_
      refine AWp.seq (AWp.region ?_)
      refine AOps.read trivial rfl (by decide) (Reader.move (.inl rfl) (ok_const rfl) (v := .lit (.int .i64 (n.toNat : Int))) rfl) ?_
      refine AOps.call (args := [.lit (.int .i64 (n.toNat : Int))]) trivial rfl (by decide) rfl rfl Tryd.call44 (args_ok rfl) rfl (by intro j x v hx hv; match j, hx, hv with | 0, hx, hv => cases hx; cases hv; exact .inl ⟨rfl, rfl⟩ | _ + 1, hx, hv => cases hx) (itoa_any n.toNat (by first | omega | (have hq := Nat.div_le_self n.toNat (unitL.getD i u0).2; omega)) M) ?_
      rintro _ _ ⟨rfl, rfl⟩
      refine AOps.read trivial rfl (by decide) (Reader.move (.inr rfl) (ok_const rfl) (v := .str (digs n.toNat)) rfl) ?_
      refine AOps.nil ?_
      refine AWp.ret ?_
      exact ⟨.inl rfl, _, ResOf.one 2 (.str (digs n.toNat)) rfl rfl, ⟨congrArg AV.str (print_none hno (by omega)), rfl⟩⟩

set_option maxRecDepth 20000 in
theorem rPrint_any (n : Nat) (hn : n ≤ 9223372036854775807) (M : Nat → Option (List AV)) : ACall Tryd.prog 69 [.lit (.int .i64 (n : Int))] M (fun r M' => r = .str (printV n) ∧ M = M') := by
  refine ACall.of Tryd.func69 rfl (n := 32) rfl rfl rfl ?_
  refine AWp.seq (AWp.region ?_)
  refine AOps.read trivial rfl (by decide) (Reader.move (.inr rfl) (ok_const rfl) (v := .str []) rfl) ?_
  refine AOps.nil ?_
  refine AWp.seq ?_
  refine AWp.seq (AWp.region ?_)
  refine AOps.read trivial rfl (by decide) (Reader.move (.inl rfl) (ok_const rfl) (v := .lit (.int .i64 (n : Int))) rfl) ?_
  refine AOps.read trivial rfl (by decide) (Reader.int rfl rfl rfl (r := .bool (decide ((n : Int) ≤ 0))) rfl) ?_
  refine AOps.nil ?_
  refine AWp.cond (b := decide ((n : Int) ≤ 0)) rfl (fun h1 => ?_) (fun h1 => ?_)
  · skip
    have h1' : n ≤ 0 := (by have hh := of_decide_eq_true h1; omega)
    clear h1
    refine AWp.seq (AWp.region ?_)
    refine AOps.read trivial rfl (by decide) (Reader.move (.inr rfl) (ok_const rfl) (v := .str [48]) rfl) ?_
    refine AOps.nil ?_
    refine AWp.ret ?_
    exact ⟨.inl rfl, _, ResOf.one 2 (.str [48]) rfl rfl, ⟨congrArg AV.str (rprint_0 (by omega)), rfl⟩⟩
  · skip
    have h1' : ¬ (n ≤ 0) := (by have hh := of_decide_eq_false h1; omega)
    clear h1
    refine AWp.skip ?_
    refine AWp.seq (AWp.region ?_)
    refine AOps.read trivial rfl (by decide) (Reader.move (.inr rfl) (ok_const rfl) (v := .str []) rfl) ?_
    refine AOps.nil ?_
    refine AWp.seq (AWp.region ?_)
    refine AOps.call (args := []) trivial rfl (by decide) rfl rfl Tryd.call92 (args_ok rfl) rfl (by intro j x v hx hv; match j, hx, hv with  | _ + 0, hx, hv => cases hx) (names_any M) ?_
    rintro _ _ ⟨rfl, rfl⟩
    refine AOps.steal trivial rfl (by decide) (by decide) (.inr rfl) (v := .list true 9 (namesL.map AV.str)) rfl ?_
    refine AOps.nil ?_
    refine AWp.seq ?_
    refine AWp.seq (AWp.region ?_)
    refine AOps.read trivial rfl (by decide) (Reader.move (.inr rfl) (ok_const rfl) (v := .lit (.int .i64 7)) rfl) ?_
    refine AOps.nil ?_
    refine AWp.block ?_
    refine AWp.loopE [0, 3, 4, 5] [] (fun m s => ∃ (i : Int), m = (i + 1).toNat ∧ s = ⟨[(0, .lit (.int .i64 (n : Int))), (3, .str (bst n (i + 1).toNat)), (4, .list true 9 (namesL.map AV.str)), (5, .lit (.int .i64 i))], [], M⟩ ∧ (-1 ≤ i) ∧ (i ≤ 7) ∧ (¬ n ≤ 0)) ?_ ?_
    · exact ⟨_, 7, rfl, rfl, by omega, by omega, by assumption⟩
    · rintro _ _ ⟨i, rfl, rfl, hi1, hi7, hn0⟩
      have hun := nm_unit (j := i.toNat)
      have hb0 := bst_pos n (i + 1).toNat
      have hb2 := bst_len n (i + 1).toNat
      have hdl := digs_len20 (n / unitOf (bst n (i + 1).toNat)) (Nat.le_trans (Nat.div_le_self _ _) hn)
      refine AWp.seq ?_
      refine AWp.seq (AWp.region ?_)
      refine AOps.read trivial rfl (by decide) (Reader.move (.inl rfl) (ok_const rfl) (v := .lit (.int .i64 i)) rfl) ?_
      refine AOps.read trivial rfl (by decide) (Reader.int rfl rfl rfl (r := .bool (decide (i ≥ 0))) rfl) ?_
      refine AOps.nil ?_
      refine AWp.cond (b := decide (i ≥ 0)) rfl (fun h2 => ?_) (fun h2 => ?_)
      · skip
        have h2' : i ≥ 0 := (by have hh := of_decide_eq_true h2; omega)
        clear h2
        refine AWp.skip ?_
        refine AWp.seq ?_
        refine AWp.block ?_
        refine AWp.seq (AWp.region ?_)
        refine AOps.read trivial rfl (by decide) (Reader.move (.inl rfl) (ok_const rfl) (v := .lit (.int .i64 (n : Int))) rfl) ?_
        refine AOps.read trivial rfl (by decide) (Reader.move (.inl rfl) (ok_const rfl) (v := .list false 9 (namesL.map AV.str)) rfl) ?_
        refine AOps.read trivial rfl (by decide) (Reader.move (.inl rfl) (ok_const rfl) (v := .lit (.int .i64 i)) rfl) ?_
        refine AOps.read trivial rfl (by decide) (Reader.elemAddr (m := i.toNat) rfl Tryd.underlying23 sizeOf_9 rfl rfl (by omega) (e := .str (namesL.getD i.toNat [])) (name_at (by omega))) ?_
        refine AOps.read trivial rfl (by decide) (Reader.loadE rfl Tryd.underlying9 sizeOf_9 rfl (v := .str (namesL.getD i.toNat [])) rfl rfl) ?_
        refine AOps.call (args := [.str (namesL.getD i.toNat [])]) trivial rfl (by decide) rfl rfl Tryd.call91 (args_ok rfl) rfl (by intro j x v hx hv; match j, hx, hv with | 0, hx, hv => cases hx; cases hv; exact .inl ⟨rfl, rfl⟩ | _ + 1, hx, hv => cases hx) (rUnit_any (namesL.getD i.toNat []) M) ?_
        rintro _ _ ⟨rfl, rfl⟩
        refine AOps.read trivial rfl (by decide) (Reader.rem rfl rfl rfl (by omega) (c := ((n % (unitOf (namesL.getD i.toNat [])) : Nat) : Int)) (nat_rem _ _)) ?_
        refine AOps.read trivial rfl (by decide) (Reader.int rfl rfl rfl (r := .bool (((n % (unitOf (namesL.getD i.toNat [])) : Nat) : Int) == 0)) rfl) ?_
        refine AOps.nil ?_
        refine AWp.cond (b := ((n % (unitOf (namesL.getD i.toNat [])) : Nat) : Int) == 0) rfl (fun h3 => ?_) (fun h3 => ?_)
        · skip
          have h3' : (n % (unitOf (namesL.getD i.toNat []))) = 0 := (by have hh := eq_of_beq h3; omega)
          clear h3
          refine AWp.region ?_
          refine AOps.read trivial rfl (by decide) (Reader.move (.inl rfl) (ok_const rfl) (v := .list false 9 (namesL.map AV.str)) rfl) ?_
          refine AOps.read trivial rfl (by decide) (Reader.move (.inl rfl) (ok_const rfl) (v := .lit (.int .i64 i)) rfl) ?_
          refine AOps.read trivial rfl (by decide) (Reader.elemAddr (m := i.toNat) rfl Tryd.underlying23 sizeOf_9 rfl rfl (by omega) (e := .str (namesL.getD i.toNat [])) (name_at (by omega))) ?_
          refine AOps.read trivial rfl (by decide) (Reader.loadE rfl Tryd.underlying9 sizeOf_9 rfl (v := .str (namesL.getD i.toNat [])) rfl rfl) ?_
          refine AOps.read trivial rfl (by decide) (Reader.move (.inr rfl) (ok_const rfl) (v := .str (namesL.getD i.toNat [])) rfl) ?_
          refine AOps.nil ?_
          refine AWp.region ?_
          refine AOps.read trivial rfl (by decide) (Reader.move (.inl rfl) (ok_const rfl) (v := .lit (.int .i64 i)) rfl) ?_
          refine AOps.read trivial rfl (by decide) (Reader.sum rfl rfl rfl (m := i - 1) (c := i - 1) rfl (by first | exact IntWalk.i64_in _ (by omega) | exact IntWalk.i64_in _ (by constructor <;> omega) | (simp only [];omega))) ?_
          refine AOps.read trivial rfl (by decide) (Reader.move (.inr rfl) (ok_const rfl) (v := .lit (.int .i64 (i - 1))) rfl) ?_
          refine AOps.nil ?_
          first | exact ⟨_, by omega, i - 1, rfl, (by rw [bst_yes (i := i) (by omega) (by omega) (by assumption)]; rfl), by omega, by omega, hn0⟩ | exact ⟨_, by omega, i - 1, rfl, (by rw [bst_no (i := i) (by omega) (by omega) (by assumption)]; rfl), by omega, by omega, hn0⟩
        · skip
          have h3' : ¬ ((n % (unitOf (namesL.getD i.toNat []))) = 0) := (by have hh := beq_eq_false_iff_ne.1 h3; omega)
          clear h3
          refine AWp.skip ?_
          refine AWp.region ?_
          refine AOps.read trivial rfl (by decide) (Reader.move (.inl rfl) (ok_const rfl) (v := .lit (.int .i64 i)) rfl) ?_
          refine AOps.read trivial rfl (by decide) (Reader.sum rfl rfl rfl (m := i - 1) (c := i - 1) rfl (by first | exact IntWalk.i64_in _ (by omega) | exact IntWalk.i64_in _ (by constructor <;> omega) | (simp only [];omega))) ?_
          refine AOps.read trivial rfl (by decide) (Reader.move (.inr rfl) (ok_const rfl) (v := .lit (.int .i64 (i - 1))) rfl) ?_
          refine AOps.nil ?_
          first | exact ⟨_, by omega, i - 1, rfl, (by rw [bst_yes (i := i) (by omega) (by omega) (by assumption)]; rfl), by omega, by omega, hn0⟩ | exact ⟨_, by omega, i - 1, rfl, (by rw [bst_no (i := i) (by omega) (by omega) (by assumption)]; rfl), by omega, by omega, hn0⟩
      · skip
        have h2' : ¬ (i ≥ 0) := (by have hh := of_decide_eq_false h2; omega)
        clear h2
        refine AWp.exit ?_
        refine AWp.seq (AWp.region ?_)
        refine AOps.read trivial rfl (by decide) (Reader.move (.inl rfl) (ok_const rfl) (v := .lit (.int .i64 (n : Int))) rfl) ?_
        refine AOps.read trivial rfl (by decide) (Reader.move (.inl rfl) (ok_const rfl) (v := .str (bst n (i + 1).toNat)) rfl) ?_
        refine AOps.call (args := [.str (bst n (i + 1).toNat)]) trivial rfl (by decide) rfl rfl Tryd.call91 (args_ok rfl) rfl (by intro j x v hx hv; match j, hx, hv with | 0, hx, hv => cases hx; cases hv; exact .inl ⟨rfl, rfl⟩ | _ + 1, hx, hv => cases hx) (rUnit_any (bst n (i + 1).toNat) M) ?_
        rintro _ _ ⟨rfl, rfl⟩
        refine AOps.read trivial rfl (by decide) (Reader.quo rfl rfl rfl (by omega) (c := ((n / (unitOf (bst n (i + 1).toNat)) : Nat) : Int)) (by rw [nat_quo]; exact IntWalk.i64_in _ (by have hq := Nat.div_le_self n (unitOf (bst n (i + 1).toNat)); generalize n / (unitOf (bst n (i + 1).toNat)) = q at hq ⊢; omega))) ?_
        refine AOps.call (args := [.lit (.int .i64 ((n / (unitOf (bst n (i + 1).toNat)) : Nat) : Int))]) trivial rfl (by decide) rfl rfl Tryd.call19 (args_ok rfl) rfl (by intro j x v hx hv; match j, hx, hv with | 0, hx, hv => cases hx; cases hv; exact .inl ⟨rfl, rfl⟩ | _ + 1, hx, hv => cases hx) (Digits_any (n / (unitOf (bst n (i + 1).toNat))) (Nat.le_trans (Nat.div_le_self _ _) hn) M) ?_
        rintro _ _ ⟨rfl, rfl⟩
        refine AOps.read trivial rfl (by decide) (Reader.move (.inl rfl) (ok_const rfl) (v := .str (bst n (i + 1).toNat)) rfl) ?_
        refine AOps.read trivial rfl (by decide) (Reader.cat rfl rfl rfl (by first | omega | (simp only [List.length_append, List.length_cons, List.length_nil]; omega) | (simp; omega)) (c := (digs (n / (unitOf (bst n (i + 1).toNat)))) ++ (bst n (i + 1).toNat)) rfl) ?_
        refine AOps.read trivial rfl (by decide) (Reader.move (.inr rfl) (ok_const rfl) (v := .str ((digs (n / (unitOf (bst n (i + 1).toNat)))) ++ (bst n (i + 1).toNat))) rfl) ?_
        refine AOps.nil ?_
        refine AWp.ret ?_
        exact ⟨.inl rfl, _, ResOf.one 2 (.str ((digs (n / (unitOf (bst n (i + 1).toNat)))) ++ (bst n (i + 1).toNat))) rfl rfl, ⟨congrArg AV.str (rprint_ok (by assumption) (by omega)), rfl⟩⟩

end Go.Proofs.YtlpihekflkjkfaaDoor
