/- Walks over abstract values, printed by my program av.py. -/
import Derived.Test.YtlpihekflkjkfaaDoorLg13
namespace Go.Proofs.YtlpihekflkjkfaaDoor
open Go.RowKit

theorem evs_parts (l : List Stp) (k : Nat) : evsOf l = evsOf (l.take k) ++ evsOf (l.drop k) := by
  conv => lhs; rw [← List.take_append_drop k l]
  unfold evsOf
  rw [List.flatMap_append]
theorem take_good {l : List Stp} (k : Nat) (h : GoodS l) : GoodS (l.take k) := fun x hx => h x (List.mem_of_mem_take hx)
theorem drop_good {l : List Stp} (k : Nat) (h : GoodS l) : GoodS (l.drop k) := fun x hx => h x (List.mem_of_mem_drop hx)
theorem take_gl {l : List Stp} (k : Nat) (h : FewP l) : (evsOf (l.take k)).length ≤ 4294967280 := by
  have := few_len h
  rw [evs_parts l k, List.length_append] at this
  omega
theorem drop_gl {l : List Stp} (k : Nat) (h : FewP l) : (evsOf (l.drop k)).length ≤ 4294967280 := by
  have := few_len h
  rw [evs_parts l k, List.length_append] at this
  omega
theorem take_l {l : List Stp} (k : Nat) (h : FewP l) : (l.take k).length ≤ 4294967280 := by have := h.1; rw [List.length_take]; omega
theorem drop_l {l : List Stp} (k : Nat) (h : FewP l) : (l.drop k).length ≤ 4294967280 := by have := h.1; rw [List.length_drop]; omega
theorem bump_get {c : List Int} (hc : c.length = 17) (e : Ev) (i : Nat) : (bump c e).getD i 0 = c.getD i 0 + (bump z17 e).getD i 0 := by
  have hz : ∀ j, z17.getD j 0 = 0 := by
    intro j
    show (List.replicate 17 (0 : Int)).getD j 0 = 0
    rw [List.getD_eq_getElem?_getD, List.getElem?_replicate]; split <;> rfl
  unfold bump
  split
  · rename_i hk
    simp only [hz, List.getD_eq_getElem?_getD, List.getElem?_set]
    by_cases h : e.kind.toNat = i
    · subst h
      rw [if_pos rfl, if_pos rfl, if_pos (by omega), if_pos (show e.kind.toNat < z17.length by show _ < 17; omega)]
      simp
    · rw [if_neg h, if_neg h]
      have := hz i
      rw [List.getD_eq_getElem?_getD] at this
      rw [this]; simp
  · rw [hz]; omega
theorem fold_get : ∀ (r : List (Int × Ev)) (c : List Int), c.length = 17 → ∀ i, (r.foldl (fun c p => bump c p.2) c).getD i 0 = c.getD i 0 + (cntP r).getD i 0
  | [], c, hc, i => by
    have : (cntP []).getD i 0 = 0 := by
      show (List.replicate 17 (0 : Int)).getD i 0 = 0
      rw [List.getD_eq_getElem?_getD, List.getElem?_replicate]; split <;> rfl
    rw [this]; simp
  | p :: r, c, hc, i => by
    have h1 := fold_get r (bump c p.2) (by rw [bump_len]; exact hc) i
    have h2 := fold_get r (bump z17 p.2) (by rw [bump_len]; rfl) i
    have h3 := bump_get hc p.2 i
    show (r.foldl (fun c p => bump c p.2) (bump c p.2)).getD i 0 = c.getD i 0 + (r.foldl (fun c p => bump c p.2) (bump z17 p.2)).getD i 0
    rw [h1, h2, h3]; omega
theorem cnt_parts (l : List Stp) (k i : Nat) : (cntP (evsOf l)).getD i 0 = (cntP (evsOf (l.take k))).getD i 0 + (cntP (evsOf (l.drop k))).getD i 0 := by
  rw [evs_parts l k]
  have : cntP (evsOf (l.take k) ++ evsOf (l.drop k)) = (evsOf (l.drop k)).foldl (fun c p => bump c p.2) (cntP (evsOf (l.take k))) := by simp [cntP, List.foldl_append]
  rw [this]
  exact fold_get _ _ (cntP_inv _).1 i
theorem ok_parts (l : List Stp) (k : Nat) : allOk l = (allOk (l.take k) && allOk (l.drop k)) := by
  unfold allOk
  rw [evs_parts l k, List.all_append]
theorem lx_0 {l : List Stp} : linesX l = 0 ↔ allOk l = true := by
  unfold linesX
  cases allOk l <;> simp
theorem lparts_x {l : List Stp} {k : Nat} (h1 : linesX (l.take k) = 0) (h2 : linesX (l.drop k) = 0) : allOk l = true := by
  rw [ok_parts l k, lx_0.1 h1, lx_0.1 h2]; rfl
theorem lparts_w {l : List Stp} {k : Nat} (h1 : linesX (l.take k) = 0) (h2 : linesX (l.drop k) = 0) : linesL l = ([] ++ linesL (l.take k)) ++ linesL (l.drop k) := by
  unfold linesL
  rw [if_pos (lparts_x h1 h2), if_pos (lx_0.1 h1), if_pos (lx_0.1 h2), evs_parts l k, List.map_append]; rfl
theorem lx_n1 {a b : Int} (h : ¬ (a ≠ 0 ∨ b ≠ 0)) : a = 0 := by omega
theorem lx_n2 {a b : Int} (h : ¬ (a ≠ 0 ∨ b ≠ 0)) : b = 0 := by omega
theorem lparts_yes {l : List Stp} {k : Nat} (h1 : linesX (l.take k) = 0) (h2 : linesX (l.drop k) = 0) : (bif linesX l == 0 then true else false) = true := by
  rw [lx_0.2 (lparts_x h1 h2)]; rfl
theorem lparts_no {l : List Stp} {k : Nat} (h : linesX (l.take k) ≠ 0 ∨ linesX (l.drop k) ≠ 0) : (bif linesX l == 1 then ((linesL l).length : Int) == 0 else false) = true := by
  have h1 : allOk l = false := by
    rw [ok_parts l k]
    cases e1 : allOk (l.take k) with
    | false => rfl
    | true =>
      cases e2 : allOk (l.drop k) with
      | false => rfl
      | true => rcases h with h | h <;> first | exact absurd (lx_0.2 e1) h | exact absurd (lx_0.2 e2) h
  unfold linesX linesL
  rw [h1]; rfl

set_option maxRecDepth 20000 in
theorem LogParts_any (l : List Stp) (n : Nat) (hn : n ≤ 255) (wn : ∀ x ∈ l, ∀ e ∈ x.evs, -9223372036854775808 ≤ e.n ∧ e.n ≤ 9223372036854775807) (hll : l.length ≤ 9223372036854775807) (hb : ∀ x ∈ l, x.evs.length ≤ 9223372036854775807) (M : Nat → Option (List AV)) : ACall Tryd.prog 10 [.list false 57 (l.map encS), .lit (.int .u8 (n : Int))] M (fun r M' => r = .lit (.bool true) ∧ M = M') := by
  have hK : n % (l.length + 1) ≤ l.length := by have := Nat.mod_lt n (show 0 < l.length + 1 by omega); omega
  have hy1 := lines_len (l.take (n % (l.length + 1)))
  have hy2 := lines_len (l.drop (n % (l.length + 1)))
  refine ACall.of Tryd.func10 rfl (n := 98) rfl rfl rfl ?_
  refine AWp.seq (AWp.region ?_)
  refine AOps.read trivial rfl (by decide) (Reader.move (.inr rfl) (ok_const rfl) (v := .lit (.bool false)) rfl) ?_
  refine AOps.nil ?_
  refine AWp.seq ?_
  refine AWp.seq (AWp.region ?_)
  refine AOps.call (args := []) trivial rfl (by decide) rfl rfl Tryd.call21 (args_ok rfl) rfl (by intro j x v hx hv; match j, hx, hv with  | _ + 0, hx, hv => cases hx) (lawake_any M) ?_
  rintro _ _ ⟨rfl, rfl⟩
  refine AOps.read trivial rfl (by decide) (Reader.not (b := true) rfl rfl) ?_
  refine AOps.read trivial rfl (by decide) (Reader.move (.inl rfl) (ok_const rfl) (v := .lit (.bool false)) rfl) ?_
  refine AOps.read ⟨18, rfl, rfl⟩ rfl (by decide) (Reader.move (.inl rfl) (ok_const rfl) (v := .list false 57 (l.map encS)) rfl) ?_
  refine AOps.call (args := [.list false 57 (l.map encS)]) ⟨18, rfl, rfl⟩ rfl (by decide) rfl rfl Tryd.call27 (args_ok rfl) rfl (by intro j x v hx hv; match j, hx, hv with | 0, hx, hv => cases hx; cases hv; exact .inl ⟨rfl, rfl⟩ | _ + 1, hx, hv => cases hx) (few_any l hll hb M) ?_
  rintro _ _ ⟨⟨fb, rfl, hfb⟩, rfl⟩
  refine AOps.read ⟨18, rfl, rfl⟩ rfl (by decide) (Reader.not (b := fb) rfl rfl) ?_
  refine AOps.read trivial rfl (by decide) (Reader.pick rfl (b := false) rfl (ok_const rfl) (ok_const rfl) (v := .lit (.bool (!fb))) rfl) ?_
  refine AOps.nil ?_
  refine AWp.cond (b := !fb) rfl (fun h1 => ?_) (fun h1 => ?_)
  · skip
    have h1' : True := trivial
    clear h1
    refine AWp.seq (AWp.region ?_)
    refine AOps.call (args := []) trivial rfl (by decide) rfl rfl Tryd.call21 (args_ok rfl) rfl (by intro j x v hx hv; match j, hx, hv with  | _ + 0, hx, hv => cases hx) (lawake_any M) ?_
    rintro _ _ ⟨rfl, rfl⟩
    refine AOps.read trivial rfl (by decide) (Reader.move (.inr rfl) (ok_const rfl) (v := .lit (.bool true)) rfl) ?_
    refine AOps.nil ?_
    refine AWp.ret ?_
    exact ⟨.inl rfl, _, ResOf.one 4 (.lit (.bool true)) rfl rfl, ⟨rfl, rfl⟩⟩
  · skip
    have h1' : FewP l := (hfb (bnot_f h1))
    clear h1
    have hfl := h1'.1
    refine AWp.skip ?_
    refine AWp.seq (AWp.region ?_)
    refine AOps.read trivial rfl (by decide) (Reader.move (.inl rfl) (ok_const rfl) (v := .lit (.int .u8 (n : Int))) rfl) ?_
    refine AOps.read trivial rfl (by decide) (Reader.conv rfl Tryd.underlying5 Tryd.underlying3 (by simp) rfl (c := (n : Int)) (by first | exact IntWalk.i64_in _ (by omega) | exact IntWalk.i64_in _ (by constructor <;> omega) | (simp only [];omega))) ?_
    refine AOps.read trivial rfl (by decide) (Reader.move (.inl rfl) (ok_const rfl) (v := .list false 57 (l.map encS)) rfl) ?_
    refine AOps.read trivial rfl (by decide) (Reader.len' (xs := l.map encS) rfl rfl rfl rfl Tryd.underlying48 rfl (m := l.length) (by simp)) ?_
    refine AOps.read trivial rfl (by decide) (Reader.sum rfl rfl rfl (m := (l.length : Int) + 1) (c := ((l.length + 1 : Nat) : Int)) rfl (by first | exact IntWalk.i64_in _ (by omega) | exact IntWalk.i64_in _ (by constructor <;> omega) | (simp only [];omega))) ?_
    refine AOps.read trivial rfl (by decide) (Reader.rem rfl rfl rfl (by omega) (c := ((n % (l.length + 1) : Nat) : Int)) (nat_rem _ _)) ?_
    refine AOps.read trivial rfl (by decide) (Reader.move (.inr rfl) (ok_const rfl) (v := .lit (.int .i64 ((n % (l.length + 1) : Nat) : Int))) rfl) ?_
    refine AOps.nil ?_
    refine AWp.seq (AWp.region ?_)
    refine AOps.read trivial rfl (by decide) (Reader.move (.inl rfl) (ok_const rfl) (v := .list false 57 (l.map encS)) rfl) ?_
    refine AOps.read trivial rfl (by decide) (Reader.move (.inl rfl) (ok_const rfl) (v := .lit (.int .i64 ((n % (l.length + 1) : Nat) : Int))) rfl) ?_
    refine AOps.read trivial rfl (by decide) (Reader.piece (xs := (l.map encS)) (i := 0) (j := n % (l.length + 1)) rfl Tryd.underlying48 sizeOf_57 rfl rfl ⟨_, _, rfl, rfl⟩ (by omega) (by rw [List.length_map]; omega) (ys := ((l.take (n % (l.length + 1))).map encS)) (by rw [List.drop_zero, List.map_take])) ?_
    refine AOps.call (args := [.list false 57 ((l.take (n % (l.length + 1))).map encS)]) trivial rfl (by decide) rfl rfl Tryd.call28 (args_ok rfl) rfl (by intro j x v hx hv; match j, hx, hv with | 0, hx, hv => cases hx; cases hv; exact .inl ⟨rfl, rfl⟩ | _ + 1, hx, hv => cases hx) (lines_any (l.take (n % (l.length + 1))) (take_good (n % (l.length + 1)) (few_good (show FewP l by assumption) wn)) (take_gl (n % (l.length + 1)) (show FewP l by assumption)) (take_l (n % (l.length + 1)) (show FewP l by assumption)) M) ?_
    rintro _ _ ⟨rfl, rfl⟩
    refine AOps.read trivial rfl (by decide) (Reader.move (.inl rfl) (ok_const rfl) (v := .tuple [.list false 9 ((linesL (l.take (n % (l.length + 1)))).map AV.str), .lit (.int .i64 (linesX (l.take (n % (l.length + 1)))))]) rfl) ?_
    refine AOps.read trivial rfl (by decide) (Reader.extract (v := .list false 9 ((linesL (l.take (n % (l.length + 1)))).map AV.str)) rfl rfl rfl rfl) ?_
    refine AOps.read trivial rfl (by decide) (Reader.extract (v := .lit (.int .i64 (linesX (l.take (n % (l.length + 1)))))) rfl rfl rfl rfl) ?_
    refine AOps.read trivial rfl (by decide) (Reader.move (.inr rfl) (ok_const rfl) (v := .list false 9 ((linesL (l.take (n % (l.length + 1)))).map AV.str)) rfl) ?_
    refine AOps.read trivial rfl (by decide) (Reader.move (.inr rfl) (ok_const rfl) (v := .lit (.int .i64 (linesX (l.take (n % (l.length + 1)))))) rfl) ?_
    refine AOps.nil ?_
    refine AWp.seq (AWp.region ?_)
    refine AOps.read trivial rfl (by decide) (Reader.move (.inl rfl) (ok_const rfl) (v := .list false 57 (l.map encS)) rfl) ?_
    refine AOps.read trivial rfl (by decide) (Reader.move (.inl rfl) (ok_const rfl) (v := .lit (.int .i64 ((n % (l.length + 1) : Nat) : Int))) rfl) ?_
    refine AOps.read trivial rfl (by decide) (Reader.piece (xs := (l.map encS)) (i := n % (l.length + 1)) (j := l.length) rfl Tryd.underlying48 sizeOf_57 rfl ⟨_, _, rfl, rfl⟩ (by rw [List.length_map]; rfl) (by omega) (by rw [List.length_map]; omega) (ys := ((l.drop (n % (l.length + 1))).map encS)) (by rw [List.take_of_length_le (by simp), List.map_drop])) ?_
    refine AOps.call (args := [.list false 57 ((l.drop (n % (l.length + 1))).map encS)]) trivial rfl (by decide) rfl rfl Tryd.call28 (args_ok rfl) rfl (by intro j x v hx hv; match j, hx, hv with | 0, hx, hv => cases hx; cases hv; exact .inl ⟨rfl, rfl⟩ | _ + 1, hx, hv => cases hx) (lines_any (l.drop (n % (l.length + 1))) (drop_good (n % (l.length + 1)) (few_good (show FewP l by assumption) wn)) (drop_gl (n % (l.length + 1)) (show FewP l by assumption)) (drop_l (n % (l.length + 1)) (show FewP l by assumption)) M) ?_
    rintro _ _ ⟨rfl, rfl⟩
    refine AOps.read trivial rfl (by decide) (Reader.move (.inl rfl) (ok_const rfl) (v := .tuple [.list false 9 ((linesL (l.drop (n % (l.length + 1)))).map AV.str), .lit (.int .i64 (linesX (l.drop (n % (l.length + 1)))))]) rfl) ?_
    refine AOps.read trivial rfl (by decide) (Reader.extract (v := .list false 9 ((linesL (l.drop (n % (l.length + 1)))).map AV.str)) rfl rfl rfl rfl) ?_
    refine AOps.read trivial rfl (by decide) (Reader.extract (v := .lit (.int .i64 (linesX (l.drop (n % (l.length + 1)))))) rfl rfl rfl rfl) ?_
    refine AOps.read trivial rfl (by decide) (Reader.move (.inr rfl) (ok_const rfl) (v := .list false 9 ((linesL (l.drop (n % (l.length + 1)))).map AV.str)) rfl) ?_
    refine AOps.read trivial rfl (by decide) (Reader.move (.inr rfl) (ok_const rfl) (v := .lit (.int .i64 (linesX (l.drop (n % (l.length + 1)))))) rfl) ?_
    refine AOps.nil ?_
    refine AWp.seq (AWp.region ?_)
    refine AOps.read trivial rfl (by decide) (Reader.move (.inl rfl) (ok_const rfl) (v := .list false 57 (l.map encS)) rfl) ?_
    refine AOps.call (args := [.list false 57 (l.map encS)]) trivial rfl (by decide) rfl rfl Tryd.call28 (args_ok rfl) rfl (by intro j x v hx hv; match j, hx, hv with | 0, hx, hv => cases hx; cases hv; exact .inl ⟨rfl, rfl⟩ | _ + 1, hx, hv => cases hx) (lines_any l (few_good (show FewP l by assumption) wn) (few_gl (show FewP l by assumption)) (few_l (show FewP l by assumption)) M) ?_
    rintro _ _ ⟨rfl, rfl⟩
    refine AOps.read trivial rfl (by decide) (Reader.move (.inl rfl) (ok_const rfl) (v := .tuple [.list false 9 ((linesL l).map AV.str), .lit (.int .i64 (linesX l))]) rfl) ?_
    refine AOps.read trivial rfl (by decide) (Reader.extract (v := .list false 9 ((linesL l).map AV.str)) rfl rfl rfl rfl) ?_
    refine AOps.read trivial rfl (by decide) (Reader.extract (v := .lit (.int .i64 (linesX l))) rfl rfl rfl rfl) ?_
    refine AOps.read trivial rfl (by decide) (Reader.move (.inr rfl) (ok_const rfl) (v := .list false 9 ((linesL l).map AV.str)) rfl) ?_
    refine AOps.read trivial rfl (by decide) (Reader.move (.inr rfl) (ok_const rfl) (v := .lit (.int .i64 (linesX l))) rfl) ?_
    refine AOps.nil ?_
    refine AWp.seq (AWp.region ?_)
    refine AOps.read trivial rfl (by decide) (Reader.move (.inl rfl) (ok_const rfl) (v := .list false 57 (l.map encS)) rfl) ?_
    refine AOps.read trivial rfl (by decide) (Reader.move (.inl rfl) (ok_const rfl) (v := .lit (.int .i64 ((n % (l.length + 1) : Nat) : Int))) rfl) ?_
    refine AOps.read trivial rfl (by decide) (Reader.piece (xs := (l.map encS)) (i := 0) (j := n % (l.length + 1)) rfl Tryd.underlying48 sizeOf_57 rfl rfl ⟨_, _, rfl, rfl⟩ (by omega) (by rw [List.length_map]; omega) (ys := ((l.take (n % (l.length + 1))).map encS)) (by rw [List.drop_zero, List.map_take])) ?_
    refine AOps.call (args := [.list false 57 ((l.take (n % (l.length + 1))).map encS)]) trivial rfl (by decide) rfl rfl Tryd.call29 (args_ok rfl) rfl (by intro j x v hx hv; match j, hx, hv with | 0, hx, hv => cases hx; cases hv; exact .inl ⟨rfl, rfl⟩ | _ + 1, hx, hv => cases hx) (count_any (l.take (n % (l.length + 1))) (take_gl (n % (l.length + 1)) (show FewP l by assumption)) (take_l (n % (l.length + 1)) (show FewP l by assumption)) M) ?_
    rintro _ _ ⟨rfl, rfl⟩
    refine AOps.alloc (Es := []) trivial rfl (by decide) rfl (noL rfl) rfl zero_50 rfl (cells := [.lit (.int .i64 0), .lit (.int .i64 0), .lit (.int .i64 0), .lit (.int .i64 0), .lit (.int .i64 0), .lit (.int .i64 0), .lit (.int .i64 0), .lit (.int .i64 0), .lit (.int .i64 0), .lit (.int .i64 0), .lit (.int .i64 0), .lit (.int .i64 0), .lit (.int .i64 0), .lit (.int .i64 0), .lit (.int .i64 0), .lit (.int .i64 0), .lit (.int .i64 0)]) rfl (all_scalar rfl) (all_flat rfl) ?_
    refine AOps.storeLE (cells' := intsA (cntP (evsOf (l.take (n % (l.length + 1)))))) trivial rfl rfl rfl rfl sizeOf_50 (.inl ⟨rfl, rfl⟩) rfl (v := .agg (intsA (cntP (evsOf (l.take (n % (l.length + 1))))))) (ints_part _) (ints_flat _) (by rw [show AV.cells (.agg (intsA (cntP (evsOf (l.take (n % (l.length + 1))))))) = intsA (cntP (evsOf (l.take (n % (l.length + 1))))) from rfl, intsA_len, (cntP_inv _).1]) (Nat.le_refl _) (splice_ints (by rw [(cntP_inv _).1]; rfl)) ?_
    refine AOps.nil ?_
    refine AWp.seq (AWp.region ?_)
    refine AOps.read trivial rfl (by decide) (Reader.move (.inl rfl) (ok_const rfl) (v := .list false 57 (l.map encS)) rfl) ?_
    refine AOps.read trivial rfl (by decide) (Reader.move (.inl rfl) (ok_const rfl) (v := .lit (.int .i64 ((n % (l.length + 1) : Nat) : Int))) rfl) ?_
    refine AOps.read trivial rfl (by decide) (Reader.piece (xs := (l.map encS)) (i := n % (l.length + 1)) (j := l.length) rfl Tryd.underlying48 sizeOf_57 rfl ⟨_, _, rfl, rfl⟩ (by rw [List.length_map]; rfl) (by omega) (by rw [List.length_map]; omega) (ys := ((l.drop (n % (l.length + 1))).map encS)) (by rw [List.take_of_length_le (by simp), List.map_drop])) ?_
    refine AOps.call (args := [.list false 57 ((l.drop (n % (l.length + 1))).map encS)]) trivial rfl (by decide) rfl rfl Tryd.call29 (args_ok rfl) rfl (by intro j x v hx hv; match j, hx, hv with | 0, hx, hv => cases hx; cases hv; exact .inl ⟨rfl, rfl⟩ | _ + 1, hx, hv => cases hx) (count_any (l.drop (n % (l.length + 1))) (drop_gl (n % (l.length + 1)) (show FewP l by assumption)) (drop_l (n % (l.length + 1)) (show FewP l by assumption)) M) ?_
    rintro _ _ ⟨rfl, rfl⟩
    refine AOps.alloc (Es := []) trivial rfl (by decide) rfl (noL rfl) rfl zero_50 rfl (cells := [.lit (.int .i64 0), .lit (.int .i64 0), .lit (.int .i64 0), .lit (.int .i64 0), .lit (.int .i64 0), .lit (.int .i64 0), .lit (.int .i64 0), .lit (.int .i64 0), .lit (.int .i64 0), .lit (.int .i64 0), .lit (.int .i64 0), .lit (.int .i64 0), .lit (.int .i64 0), .lit (.int .i64 0), .lit (.int .i64 0), .lit (.int .i64 0), .lit (.int .i64 0)]) rfl (all_scalar rfl) (all_flat rfl) ?_
    refine AOps.storeLE (cells' := intsA (cntP (evsOf (l.drop (n % (l.length + 1)))))) trivial rfl rfl rfl rfl sizeOf_50 (.inl ⟨rfl, rfl⟩) rfl (v := .agg (intsA (cntP (evsOf (l.drop (n % (l.length + 1))))))) (ints_part _) (ints_flat _) (by rw [show AV.cells (.agg (intsA (cntP (evsOf (l.drop (n % (l.length + 1))))))) = intsA (cntP (evsOf (l.drop (n % (l.length + 1))))) from rfl, intsA_len, (cntP_inv _).1]) (Nat.le_refl _) (splice_ints (by rw [(cntP_inv _).1]; rfl)) ?_
    refine AOps.nil ?_
    refine AWp.seq (AWp.region ?_)
    refine AOps.read trivial rfl (by decide) (Reader.move (.inl rfl) (ok_const rfl) (v := .list false 57 (l.map encS)) rfl) ?_
    refine AOps.call (args := [.list false 57 (l.map encS)]) trivial rfl (by decide) rfl rfl Tryd.call29 (args_ok rfl) rfl (by intro j x v hx hv; match j, hx, hv with | 0, hx, hv => cases hx; cases hv; exact .inl ⟨rfl, rfl⟩ | _ + 1, hx, hv => cases hx) (count_any l (few_gl (show FewP l by assumption)) (few_l (show FewP l by assumption)) M) ?_
    rintro _ _ ⟨rfl, rfl⟩
    refine AOps.alloc (Es := []) trivial rfl (by decide) rfl (noL rfl) rfl zero_50 rfl (cells := [.lit (.int .i64 0), .lit (.int .i64 0), .lit (.int .i64 0), .lit (.int .i64 0), .lit (.int .i64 0), .lit (.int .i64 0), .lit (.int .i64 0), .lit (.int .i64 0), .lit (.int .i64 0), .lit (.int .i64 0), .lit (.int .i64 0), .lit (.int .i64 0), .lit (.int .i64 0), .lit (.int .i64 0), .lit (.int .i64 0), .lit (.int .i64 0), .lit (.int .i64 0)]) rfl (all_scalar rfl) (all_flat rfl) ?_
    refine AOps.storeLE (cells' := intsA (cntP (evsOf l))) trivial rfl rfl rfl rfl sizeOf_50 (.inl ⟨rfl, rfl⟩) rfl (v := .agg (intsA (cntP (evsOf l)))) (ints_part _) (ints_flat _) (by rw [show AV.cells (.agg (intsA (cntP (evsOf l)))) = intsA (cntP (evsOf l)) from rfl, intsA_len, (cntP_inv _).1]) (Nat.le_refl _) (splice_ints (by rw [(cntP_inv _).1]; rfl)) ?_
    refine AOps.nil ?_
    refine AWp.seq ?_
    refine AWp.seq (AWp.region ?_)
    refine AOps.read trivial rfl (by decide) (Reader.move (.inr rfl) (ok_const rfl) (v := .lit (.int .i64 0)) rfl) ?_
    refine AOps.nil ?_
    refine AWp.block ?_
    refine AWp.loopE [0, 6, 7, 8, 9, 10, 11, 12, 13, 14, 15] [12, 13, 14] (fun m s => ∃ (u : Nat), m = 17 - u ∧ s = ⟨[(0, .list false 57 (l.map encS)), (6, .list false 9 ((linesL (l.take (n % (l.length + 1)))).map AV.str)), (7, .lit (.int .i64 (linesX (l.take (n % (l.length + 1)))))), (8, .list false 9 ((linesL (l.drop (n % (l.length + 1)))).map AV.str)), (9, .lit (.int .i64 (linesX (l.drop (n % (l.length + 1)))))), (10, .list false 9 ((linesL l).map AV.str)), (11, .lit (.int .i64 (linesX l))), (12, .lptr 12 0), (13, .lptr 13 0), (14, .lptr 14 0), (15, .lit (.int .i64 (u : Int)))], [(12, intsA (cntP (evsOf (l.take (n % (l.length + 1)))))), (13, intsA (cntP (evsOf (l.drop (n % (l.length + 1)))))), (14, intsA (cntP (evsOf l)))], M⟩ ∧ (u ≤ 17)) ?_ ?_
    · exact ⟨_, 0, rfl, rfl, Nat.zero_le _⟩
    · rintro _ _ ⟨u, rfl, rfl, hu⟩
      have hi1 := (cntP_inv (evsOf (l.take (n % (l.length + 1))))).2 u
      have hi2 := (cntP_inv (evsOf (l.drop (n % (l.length + 1))))).2 u
      have hadd := cnt_parts l (n % (l.length + 1)) u
      have hq1 := take_gl (n % (l.length + 1)) (show FewP l by assumption)
      have hq2 := drop_gl (n % (l.length + 1)) (show FewP l by assumption)
      refine AWp.seq ?_
      refine AWp.seq (AWp.region ?_)
      refine AOps.read trivial rfl (by decide) (Reader.move (.inl rfl) (ok_const rfl) (v := .lit (.int .i64 (u : Int))) rfl) ?_
      refine AOps.read trivial rfl (by decide) (Reader.int rfl rfl rfl (r := .bool (decide ((u : Int) < 17))) rfl) ?_
      refine AOps.nil ?_
      refine AWp.cond (b := decide ((u : Int) < 17)) rfl (fun h2 => ?_) (fun h2 => ?_)
      · skip
        have h2' : u < 17 := (by have hh := of_decide_eq_true h2; omega)
        clear h2
        refine AWp.skip ?_
        refine AWp.seq ?_
        refine AWp.block ?_
        refine AWp.seq (AWp.anyR [0, 6, 7, 8, 9, 10, 11, 12, 13, 14, 15, 60, 73] [12, 13, 14] (⟨[(0, .list false 57 (l.map encS)), (6, .list false 9 ((linesL (l.take (n % (l.length + 1)))).map AV.str)), (7, .lit (.int .i64 (linesX (l.take (n % (l.length + 1)))))), (8, .list false 9 ((linesL (l.drop (n % (l.length + 1)))).map AV.str)), (9, .lit (.int .i64 (linesX (l.drop (n % (l.length + 1)))))), (10, .list false 9 ((linesL l).map AV.str)), (11, .lit (.int .i64 (linesX l))), (12, .lptr 12 0), (13, .lptr 13 0), (14, .lptr 14 0), (15, .lit (.int .i64 (u : Int))), (60, .lit (.bool (decide ((u : Int) < 17)))), (73, .lit (.bool (((cntP (evsOf l)).getD u 0) != (((cntP (evsOf (l.take (n % (l.length + 1))))).getD u 0) + ((cntP (evsOf (l.drop (n % (l.length + 1))))).getD u 0)))))], [(12, intsA (cntP (evsOf (l.take (n % (l.length + 1)))))), (13, intsA (cntP (evsOf (l.drop (n % (l.length + 1)))))), (14, intsA (cntP (evsOf l)))], M⟩) (by kernel_rfl) ?_ ?_)
        · skip
          skip
          refine SAny.share 2 #[true, true, false, true, true, true, true, true, true, true, false] (⟨[(0, .list false 57 (l.map encS)), (6, .list false 9 ((linesL (l.take (n % (l.length + 1)))).map AV.str)), (7, .lit (.int .i64 (linesX (l.take (n % (l.length + 1)))))), (8, .list false 9 ((linesL (l.drop (n % (l.length + 1)))).map AV.str)), (9, .lit (.int .i64 (linesX (l.drop (n % (l.length + 1)))))), (10, .list false 9 ((linesL l).map AV.str)), (11, .lit (.int .i64 (linesX l))), (12, .lptr 12 0), (13, .lptr 13 0), (14, .lptr 14 0), (15, .lit (.int .i64 (u : Int))), (59, .lit (.int .i64 (u : Int))), (60, .lit (.bool (decide ((u : Int) < 17)))), (63, .lit (.int .i64 (u : Int))), (64, .lptr 14 (0 + u * 1)), (66, .lit (.int .i64 (u : Int))), (67, .lptr 12 (0 + u * 1)), (69, .lit (.int .i64 (u : Int))), (70, .lptr 13 (0 + u * 1)), (71, .lit (.int .i64 ((cntP (evsOf (l.drop (n % (l.length + 1))))).getD u 0))), (68, .lit (.int .i64 ((cntP (evsOf (l.take (n % (l.length + 1))))).getD u 0))), (72, .lit (.int .i64 (((cntP (evsOf (l.take (n % (l.length + 1))))).getD u 0) + ((cntP (evsOf (l.drop (n % (l.length + 1))))).getD u 0))))], [(12, intsA (cntP (evsOf (l.take (n % (l.length + 1)))))), (13, intsA (cntP (evsOf (l.drop (n % (l.length + 1)))))), (14, intsA (cntP (evsOf l)))], M⟩) ?_ (fun n0 => ?_)
          · skip
            refine SAny.step [2] (by kernel_rfl) (by decide) ?_
            intro iq hq; simp only [List.mem_cons, List.mem_nil_iff, or_false] at hq
            rcases hq with rfl
            · refine ⟨_, rfl, ?_⟩
              refine AOps.read trivial rfl (by decide) (Reader.loadL rfl Tryd.underlying3 sizeOf_3 rfl rfl (v := .lit (.int .i64 ((cntP (evsOf l)).getD u 0))) (loaded_int (by omega) (by rw [(cntP_inv _).1]; omega)) rfl) ?_
              refine AOps.nil ?_
              refine SAny.take 10 rfl (by kernel_rfl) (by kernel_rfl) (by kernel_rfl) trivial rfl (by decide) (PReader.int rfl rfl rfl (r := .bool (((cntP (evsOf l)).getD u 0) != (((cntP (evsOf (l.take (n % (l.length + 1))))).getD u 0) + ((cntP (evsOf (l.drop (n % (l.length + 1))))).getD u 0)))) rfl) ?_
              exact SAny.done (by kernel_rfl) rfl
          refine SAny.share 3 #[true, true, true, true, true, false, true, true, true, false, false] (⟨[(0, .list false 57 (l.map encS)), (6, .list false 9 ((linesL (l.take (n % (l.length + 1)))).map AV.str)), (7, .lit (.int .i64 (linesX (l.take (n % (l.length + 1)))))), (8, .list false 9 ((linesL (l.drop (n % (l.length + 1)))).map AV.str)), (9, .lit (.int .i64 (linesX (l.drop (n % (l.length + 1)))))), (10, .list false 9 ((linesL l).map AV.str)), (11, .lit (.int .i64 (linesX l))), (12, .lptr 12 0), (13, .lptr 13 0), (14, .lptr 14 0), (15, .lit (.int .i64 (u : Int))), (59, .lit (.int .i64 (u : Int))), (60, .lit (.bool (decide ((u : Int) < 17)))), (63, .lit (.int .i64 (u : Int))), (64, .lptr 14 (0 + u * 1)), (66, .lit (.int .i64 (u : Int))), (67, .lptr 12 (0 + u * 1)), (69, .lit (.int .i64 (u : Int))), (70, .lptr 13 (0 + u * 1)), (71, .lit (.int .i64 ((cntP (evsOf (l.drop (n % (l.length + 1))))).getD u 0))), (65, .lit (.int .i64 ((cntP (evsOf l)).getD u 0)))], [(12, intsA (cntP (evsOf (l.take (n % (l.length + 1)))))), (13, intsA (cntP (evsOf (l.drop (n % (l.length + 1)))))), (14, intsA (cntP (evsOf l)))], M⟩) ?_ (fun n1 => ?_)
          · skip
            refine SAny.step [5] (by kernel_rfl) (by decide) ?_
            intro iq hq; simp only [List.mem_cons, List.mem_nil_iff, or_false] at hq
            rcases hq with rfl
            · refine ⟨_, rfl, ?_⟩
              refine AOps.read trivial rfl (by decide) (Reader.loadL rfl Tryd.underlying3 sizeOf_3 rfl rfl (v := .lit (.int .i64 ((cntP (evsOf (l.take (n % (l.length + 1))))).getD u 0))) (loaded_int (by omega) (by rw [(cntP_inv _).1]; omega)) rfl) ?_
              refine AOps.nil ?_
              refine SAny.take 9 rfl (by kernel_rfl) (by kernel_rfl) (by kernel_rfl) trivial rfl (by decide) (PReader.sum rfl rfl rfl (m := ((cntP (evsOf (l.take (n % (l.length + 1))))).getD u 0) + ((cntP (evsOf (l.drop (n % (l.length + 1))))).getD u 0)) (c := ((cntP (evsOf (l.take (n % (l.length + 1))))).getD u 0) + ((cntP (evsOf (l.drop (n % (l.length + 1))))).getD u 0)) rfl (by first | exact IntWalk.i64_in _ (by omega) | exact IntWalk.i64_in _ (by constructor <;> omega) | (simp only [];omega))) ?_
              refine SAny.take 10 rfl (by kernel_rfl) (by kernel_rfl) (by kernel_rfl) trivial rfl (by decide) (PReader.int rfl rfl rfl (r := .bool (((cntP (evsOf l)).getD u 0) != (((cntP (evsOf (l.take (n % (l.length + 1))))).getD u 0) + ((cntP (evsOf (l.drop (n % (l.length + 1))))).getD u 0)))) rfl) ?_
              exact SAny.done (by kernel_rfl) rfl
          refine SAny.share 3 #[true, true, true, true, true, true, true, true, false, false, false] (⟨[(0, .list false 57 (l.map encS)), (6, .list false 9 ((linesL (l.take (n % (l.length + 1)))).map AV.str)), (7, .lit (.int .i64 (linesX (l.take (n % (l.length + 1)))))), (8, .list false 9 ((linesL (l.drop (n % (l.length + 1)))).map AV.str)), (9, .lit (.int .i64 (linesX (l.drop (n % (l.length + 1)))))), (10, .list false 9 ((linesL l).map AV.str)), (11, .lit (.int .i64 (linesX l))), (12, .lptr 12 0), (13, .lptr 13 0), (14, .lptr 14 0), (15, .lit (.int .i64 (u : Int))), (59, .lit (.int .i64 (u : Int))), (60, .lit (.bool (decide ((u : Int) < 17)))), (63, .lit (.int .i64 (u : Int))), (64, .lptr 14 (0 + u * 1)), (66, .lit (.int .i64 (u : Int))), (67, .lptr 12 (0 + u * 1)), (69, .lit (.int .i64 (u : Int))), (70, .lptr 13 (0 + u * 1)), (68, .lit (.int .i64 ((cntP (evsOf (l.take (n % (l.length + 1))))).getD u 0))), (65, .lit (.int .i64 ((cntP (evsOf l)).getD u 0)))], [(12, intsA (cntP (evsOf (l.take (n % (l.length + 1)))))), (13, intsA (cntP (evsOf (l.drop (n % (l.length + 1)))))), (14, intsA (cntP (evsOf l)))], M⟩) ?_ (fun n2 => ?_)
          · skip
            refine SAny.step [8] (by kernel_rfl) (by decide) ?_
            intro iq hq; simp only [List.mem_cons, List.mem_nil_iff, or_false] at hq
            rcases hq with rfl
            · refine ⟨_, rfl, ?_⟩
              refine AOps.read trivial rfl (by decide) (Reader.loadL rfl Tryd.underlying3 sizeOf_3 rfl rfl (v := .lit (.int .i64 ((cntP (evsOf (l.drop (n % (l.length + 1))))).getD u 0))) (loaded_int (by omega) (by rw [(cntP_inv _).1]; omega)) rfl) ?_
              refine AOps.nil ?_
              refine SAny.take 9 rfl (by kernel_rfl) (by kernel_rfl) (by kernel_rfl) trivial rfl (by decide) (PReader.sum rfl rfl rfl (m := ((cntP (evsOf (l.take (n % (l.length + 1))))).getD u 0) + ((cntP (evsOf (l.drop (n % (l.length + 1))))).getD u 0)) (c := ((cntP (evsOf (l.take (n % (l.length + 1))))).getD u 0) + ((cntP (evsOf (l.drop (n % (l.length + 1))))).getD u 0)) rfl (by first | exact IntWalk.i64_in _ (by omega) | exact IntWalk.i64_in _ (by constructor <;> omega) | (simp only [];omega))) ?_
              refine SAny.take 10 rfl (by kernel_rfl) (by kernel_rfl) (by kernel_rfl) trivial rfl (by decide) (PReader.int rfl rfl rfl (r := .bool (((cntP (evsOf l)).getD u 0) != (((cntP (evsOf (l.take (n % (l.length + 1))))).getD u 0) + ((cntP (evsOf (l.drop (n % (l.length + 1))))).getD u 0)))) rfl) ?_
              exact SAny.done (by kernel_rfl) rfl
          refine SAny.take 0 rfl (by kernel_rfl) (by kernel_rfl) (by kernel_rfl) trivial rfl (by decide) (PReader.move (.inl rfl) (ok_const rfl) (v := .lit (.int .i64 (u : Int))) rfl) ?_
          refine SAny.take 1 rfl (by kernel_rfl) (by kernel_rfl) (by kernel_rfl) trivial rfl (by decide) (PReader.indexL (m := u) rfl Tryd.underlying50 sizeOf_3 rfl rfl rfl (by omega)) ?_
          refine SAny.take 3 rfl (by kernel_rfl) (by kernel_rfl) (by kernel_rfl) trivial rfl (by decide) (PReader.move (.inl rfl) (ok_const rfl) (v := .lit (.int .i64 (u : Int))) rfl) ?_
          refine SAny.take 4 rfl (by kernel_rfl) (by kernel_rfl) (by kernel_rfl) trivial rfl (by decide) (PReader.indexL (m := u) rfl Tryd.underlying50 sizeOf_3 rfl rfl rfl (by omega)) ?_
          refine SAny.take 6 rfl (by kernel_rfl) (by kernel_rfl) (by kernel_rfl) trivial rfl (by decide) (PReader.move (.inl rfl) (ok_const rfl) (v := .lit (.int .i64 (u : Int))) rfl) ?_
          refine SAny.take 7 rfl (by kernel_rfl) (by kernel_rfl) (by kernel_rfl) trivial rfl (by decide) (PReader.indexL (m := u) rfl Tryd.underlying50 sizeOf_3 rfl rfl rfl (by omega)) ?_
          refine SAny.step [2, 5, 8] (by kernel_rfl) (by decide) ?_
          intro iq hq; simp only [List.mem_cons, List.mem_nil_iff, or_false] at hq
          rcases hq with rfl | rfl | rfl
          · refine ⟨_, rfl, ?_⟩
            refine AOps.read trivial rfl (by decide) (Reader.loadL rfl Tryd.underlying3 sizeOf_3 rfl rfl (v := .lit (.int .i64 ((cntP (evsOf l)).getD u 0))) (loaded_int (by omega) (by rw [(cntP_inv _).1]; omega)) rfl) ?_
            refine AOps.nil ?_
            refine SAny.step [5, 8] (by kernel_rfl) (by decide) ?_
            intro iq hq; simp only [List.mem_cons, List.mem_nil_iff, or_false] at hq
            rcases hq with rfl | rfl
            · refine ⟨_, rfl, ?_⟩
              refine AOps.read trivial rfl (by decide) (Reader.loadL rfl Tryd.underlying3 sizeOf_3 rfl rfl (v := .lit (.int .i64 ((cntP (evsOf (l.take (n % (l.length + 1))))).getD u 0))) (loaded_int (by omega) (by rw [(cntP_inv _).1]; omega)) rfl) ?_
              refine AOps.nil ?_
              exact SAny.same [0, 6, 7, 8, 9, 10, 11, 12, 13, 14, 15, 59, 60, 63, 64, 66, 67, 69, 70, 68, 65] [12, 13, 14] n2 (by kernel_rfl) rfl
            · refine ⟨_, rfl, ?_⟩
              refine AOps.read trivial rfl (by decide) (Reader.loadL rfl Tryd.underlying3 sizeOf_3 rfl rfl (v := .lit (.int .i64 ((cntP (evsOf (l.drop (n % (l.length + 1))))).getD u 0))) (loaded_int (by omega) (by rw [(cntP_inv _).1]; omega)) rfl) ?_
              refine AOps.nil ?_
              exact SAny.same [0, 6, 7, 8, 9, 10, 11, 12, 13, 14, 15, 59, 60, 63, 64, 66, 67, 69, 70, 71, 65] [12, 13, 14] n1 (by kernel_rfl) rfl
          · refine ⟨_, rfl, ?_⟩
            refine AOps.read trivial rfl (by decide) (Reader.loadL rfl Tryd.underlying3 sizeOf_3 rfl rfl (v := .lit (.int .i64 ((cntP (evsOf (l.take (n % (l.length + 1))))).getD u 0))) (loaded_int (by omega) (by rw [(cntP_inv _).1]; omega)) rfl) ?_
            refine AOps.nil ?_
            refine SAny.step [2, 8] (by kernel_rfl) (by decide) ?_
            intro iq hq; simp only [List.mem_cons, List.mem_nil_iff, or_false] at hq
            rcases hq with rfl | rfl
            · refine ⟨_, rfl, ?_⟩
              refine AOps.read trivial rfl (by decide) (Reader.loadL rfl Tryd.underlying3 sizeOf_3 rfl rfl (v := .lit (.int .i64 ((cntP (evsOf l)).getD u 0))) (loaded_int (by omega) (by rw [(cntP_inv _).1]; omega)) rfl) ?_
              refine AOps.nil ?_
              exact SAny.same [0, 6, 7, 8, 9, 10, 11, 12, 13, 14, 15, 59, 60, 63, 64, 66, 67, 69, 70, 68, 65] [12, 13, 14] n2 (by kernel_rfl) rfl
            · refine ⟨_, rfl, ?_⟩
              refine AOps.read trivial rfl (by decide) (Reader.loadL rfl Tryd.underlying3 sizeOf_3 rfl rfl (v := .lit (.int .i64 ((cntP (evsOf (l.drop (n % (l.length + 1))))).getD u 0))) (loaded_int (by omega) (by rw [(cntP_inv _).1]; omega)) rfl) ?_
              refine AOps.nil ?_
              refine SAny.take 9 rfl (by kernel_rfl) (by kernel_rfl) (by kernel_rfl) trivial rfl (by decide) (PReader.sum rfl rfl rfl (m := ((cntP (evsOf (l.take (n % (l.length + 1))))).getD u 0) + ((cntP (evsOf (l.drop (n % (l.length + 1))))).getD u 0)) (c := ((cntP (evsOf (l.take (n % (l.length + 1))))).getD u 0) + ((cntP (evsOf (l.drop (n % (l.length + 1))))).getD u 0)) rfl (by first | exact IntWalk.i64_in _ (by omega) | exact IntWalk.i64_in _ (by constructor <;> omega) | (simp only [];omega))) ?_
              exact SAny.same [0, 6, 7, 8, 9, 10, 11, 12, 13, 14, 15, 59, 60, 63, 64, 66, 67, 69, 70, 71, 68, 72] [12, 13, 14] n0 (by kernel_rfl) rfl
          · refine ⟨_, rfl, ?_⟩
            refine AOps.read trivial rfl (by decide) (Reader.loadL rfl Tryd.underlying3 sizeOf_3 rfl rfl (v := .lit (.int .i64 ((cntP (evsOf (l.drop (n % (l.length + 1))))).getD u 0))) (loaded_int (by omega) (by rw [(cntP_inv _).1]; omega)) rfl) ?_
            refine AOps.nil ?_
            refine SAny.step [2, 5] (by kernel_rfl) (by decide) ?_
            intro iq hq; simp only [List.mem_cons, List.mem_nil_iff, or_false] at hq
            rcases hq with rfl | rfl
            · refine ⟨_, rfl, ?_⟩
              refine AOps.read trivial rfl (by decide) (Reader.loadL rfl Tryd.underlying3 sizeOf_3 rfl rfl (v := .lit (.int .i64 ((cntP (evsOf l)).getD u 0))) (loaded_int (by omega) (by rw [(cntP_inv _).1]; omega)) rfl) ?_
              refine AOps.nil ?_
              exact SAny.same [0, 6, 7, 8, 9, 10, 11, 12, 13, 14, 15, 59, 60, 63, 64, 66, 67, 69, 70, 71, 65] [12, 13, 14] n1 (by kernel_rfl) rfl
            · refine ⟨_, rfl, ?_⟩
              refine AOps.read trivial rfl (by decide) (Reader.loadL rfl Tryd.underlying3 sizeOf_3 rfl rfl (v := .lit (.int .i64 ((cntP (evsOf (l.take (n % (l.length + 1))))).getD u 0))) (loaded_int (by omega) (by rw [(cntP_inv _).1]; omega)) rfl) ?_
              refine AOps.nil ?_
              refine SAny.take 9 rfl (by kernel_rfl) (by kernel_rfl) (by kernel_rfl) trivial rfl (by decide) (PReader.sum rfl rfl rfl (m := ((cntP (evsOf (l.take (n % (l.length + 1))))).getD u 0) + ((cntP (evsOf (l.drop (n % (l.length + 1))))).getD u 0)) (c := ((cntP (evsOf (l.take (n % (l.length + 1))))).getD u 0) + ((cntP (evsOf (l.drop (n % (l.length + 1))))).getD u 0)) rfl (by first | exact IntWalk.i64_in _ (by omega) | exact IntWalk.i64_in _ (by constructor <;> omega) | (simp only [];omega))) ?_
              exact SAny.same [0, 6, 7, 8, 9, 10, 11, 12, 13, 14, 15, 59, 60, 63, 64, 66, 67, 69, 70, 71, 68, 72] [12, 13, 14] n0 (by kernel_rfl) rfl
        refine AWp.cond (b := ((cntP (evsOf l)).getD u 0) != (((cntP (evsOf (l.take (n % (l.length + 1))))).getD u 0) + ((cntP (evsOf (l.drop (n % (l.length + 1))))).getD u 0))) rfl (fun h3 => ?_) (fun h3 => ?_)
        · skip
          have h3' : ((cntP (evsOf l)).getD u 0) ≠ (((cntP (evsOf (l.take (n % (l.length + 1))))).getD u 0) + ((cntP (evsOf (l.drop (n % (l.length + 1))))).getD u 0)) := (by have hh := bne_iff_ne.1 h3; omega)
          clear h3
          exfalso; omega
        · skip
          have h3' : ¬ (((cntP (evsOf l)).getD u 0) ≠ (((cntP (evsOf (l.take (n % (l.length + 1))))).getD u 0) + ((cntP (evsOf (l.drop (n % (l.length + 1))))).getD u 0))) := (by have hh := bne_eq_false_iff_eq.1 h3; omega)
          clear h3
          refine AWp.skip ?_
          refine AWp.region ?_
          refine AOps.read trivial rfl (by decide) (Reader.move (.inl rfl) (ok_const rfl) (v := .lit (.int .i64 (u : Int))) rfl) ?_
          refine AOps.read trivial rfl (by decide) (Reader.sum rfl rfl rfl (m := (u : Int) + 1) (c := ((u + 1 : Nat) : Int)) rfl (by first | exact IntWalk.i64_in _ (by omega) | exact IntWalk.i64_in _ (by constructor <;> omega) | (simp only [];omega))) ?_
          refine AOps.read trivial rfl (by decide) (Reader.move (.inr rfl) (ok_const rfl) (v := .lit (.int .i64 ((u + 1 : Nat) : Int))) rfl) ?_
          refine AOps.nil ?_
          exact ⟨_, by omega, u + 1, rfl, rfl, by omega⟩
      · skip
        have h2' : ¬ (u < 17) := (by have hh := of_decide_eq_false h2; omega)
        clear h2
        refine AWp.exit ?_
        refine AWp.seq ?_
        refine AWp.regionJ [79, 0, 6, 7, 8, 9, 10, 11, 12, 13, 14, 15, 60] [12, 13, 14] (fun z => ⟨(79, .lit (.bool z)) :: [(0, .list false 57 (l.map encS)), (6, .list false 9 ((linesL (l.take (n % (l.length + 1)))).map AV.str)), (7, .lit (.int .i64 (linesX (l.take (n % (l.length + 1)))))), (8, .list false 9 ((linesL (l.drop (n % (l.length + 1)))).map AV.str)), (9, .lit (.int .i64 (linesX (l.drop (n % (l.length + 1)))))), (10, .list false 9 ((linesL l).map AV.str)), (11, .lit (.int .i64 (linesX l))), (12, .lptr 12 0), (13, .lptr 13 0), (14, .lptr 14 0), (15, .lit (.int .i64 (u : Int))), (60, .lit (.bool (decide ((u : Int) < 17))))], [(12, intsA (cntP (evsOf (l.take (n % (l.length + 1)))))), (13, intsA (cntP (evsOf (l.drop (n % (l.length + 1)))))), (14, intsA (cntP (evsOf l)))], M⟩) (z := bif ((linesX (l.take (n % (l.length + 1)))) != 0) then true else ((linesX (l.drop (n % (l.length + 1)))) != 0)) ?_ ?_
        · skip
          refine AOps.read trivial rfl (by decide) (Reader.move (.inl rfl) (ok_const rfl) (v := .lit (.int .i64 (linesX (l.take (n % (l.length + 1)))))) rfl) ?_
          refine AOps.read trivial rfl (by decide) (Reader.int rfl rfl rfl (r := .bool ((linesX (l.take (n % (l.length + 1)))) != 0)) rfl) ?_
          refine AOps.read trivial rfl (by decide) (Reader.move (.inl rfl) (ok_const rfl) (v := .lit (.bool ((linesX (l.take (n % (l.length + 1)))) != 0))) rfl) ?_
          refine AOps.splitJ (t := 76) (b := (linesX (l.take (n % (l.length + 1)))) != 0) (x := true) (y := ((linesX (l.drop (n % (l.length + 1)))) != 0)) rfl (fun h4 => ?_) (fun h4 => ?_)
          · skip
            have h4' : (linesX (l.take (n % (l.length + 1)))) ≠ 0 := (by have hh := bne_iff_ne.1 h4; omega)
            clear h4
            refine AOps.skip ⟨2, false, 76, _, rfl, rfl, rfl, by simp⟩ rfl (by decide) ?_
            refine AOps.skip ⟨2, false, 76, _, rfl, rfl, rfl, by simp⟩ rfl (by decide) ?_
            refine AOps.read trivial rfl (by decide) (Reader.pick rfl (b := true) rfl (ok_const rfl) (ok_const rfl) (v := .lit (.bool true)) rfl) ?_
            exact AOps.nil rfl
          · skip
            have h4' : ¬ ((linesX (l.take (n % (l.length + 1)))) ≠ 0) := (by have hh := bne_eq_false_iff_eq.1 h4; omega)
            clear h4
            refine AOps.read ⟨76, rfl, rfl⟩ rfl (by decide) (Reader.move (.inl rfl) (ok_const rfl) (v := .lit (.int .i64 (linesX (l.drop (n % (l.length + 1)))))) rfl) ?_
            refine AOps.read ⟨76, rfl, rfl⟩ rfl (by decide) (Reader.int rfl rfl rfl (r := .bool ((linesX (l.drop (n % (l.length + 1)))) != 0)) rfl) ?_
            refine AOps.read trivial rfl (by decide) (Reader.pick rfl (b := false) rfl (ok_const rfl) (ok_const rfl) (v := .lit (.bool ((linesX (l.drop (n % (l.length + 1)))) != 0))) rfl) ?_
            exact AOps.nil rfl
        have hz1 : (bif ((linesX (l.take (n % (l.length + 1)))) != 0) then true else ((linesX (l.drop (n % (l.length + 1)))) != 0)) = decide (linesX (l.take (n % (l.length + 1))) ≠ 0 ∨ linesX (l.drop (n % (l.length + 1))) ≠ 0) := by rw [Bool.eq_iff_iff, decide_eq_true_iff]; simp only [Bool.cond_eq_ite]; (repeat' split) <;> simp_all <;> omega
        refine AWp.cond (b := bif ((linesX (l.take (n % (l.length + 1)))) != 0) then true else ((linesX (l.drop (n % (l.length + 1)))) != 0)) rfl (fun h5 => ?_) (fun h5 => ?_)
        · skip
          have h5' : linesX (l.take (n % (l.length + 1))) ≠ 0 ∨ linesX (l.drop (n % (l.length + 1))) ≠ 0 := (of_decide_eq_true (hz1.symm.trans h5))
          clear h5
          refine AWp.regionJ [4, 79, 0, 6, 7, 8, 9, 10, 11, 12, 13, 14, 15, 60] [12, 13, 14] (fun z => ⟨(4, .lit (.bool z)) :: [(79, .lit (.bool (bif ((linesX (l.take (n % (l.length + 1)))) != 0) then true else ((linesX (l.drop (n % (l.length + 1)))) != 0)))), (0, .list false 57 (l.map encS)), (6, .list false 9 ((linesL (l.take (n % (l.length + 1)))).map AV.str)), (7, .lit (.int .i64 (linesX (l.take (n % (l.length + 1)))))), (8, .list false 9 ((linesL (l.drop (n % (l.length + 1)))).map AV.str)), (9, .lit (.int .i64 (linesX (l.drop (n % (l.length + 1)))))), (10, .list false 9 ((linesL l).map AV.str)), (11, .lit (.int .i64 (linesX l))), (12, .lptr 12 0), (13, .lptr 13 0), (14, .lptr 14 0), (15, .lit (.int .i64 (u : Int))), (60, .lit (.bool (decide ((u : Int) < 17))))], [(12, intsA (cntP (evsOf (l.take (n % (l.length + 1)))))), (13, intsA (cntP (evsOf (l.drop (n % (l.length + 1)))))), (14, intsA (cntP (evsOf l)))], M⟩) (z := bif ((linesX l) == 1) then ((((linesL l).length : Nat) : Int) == 0) else false) ?_ ?_
          · skip
            refine AOps.read trivial rfl (by decide) (Reader.move (.inl rfl) (ok_const rfl) (v := .lit (.int .i64 (linesX l))) rfl) ?_
            refine AOps.read trivial rfl (by decide) (Reader.int rfl rfl rfl (r := .bool ((linesX l) == 1)) rfl) ?_
            refine AOps.read trivial rfl (by decide) (Reader.move (.inl rfl) (ok_const rfl) (v := .lit (.bool ((linesX l) == 1))) rfl) ?_
            refine AOps.splitJ (t := 82) (b := (linesX l) == 1) (x := ((((linesL l).length : Nat) : Int) == 0)) (y := false) rfl (fun h6 => ?_) (fun h6 => ?_)
            · skip
              have h6' : (linesX l) = 1 := (by have hh := eq_of_beq h6; omega)
              clear h6
              refine AOps.read ⟨82, rfl, rfl⟩ rfl (by decide) (Reader.move (.inl rfl) (ok_const rfl) (v := .list false 9 ((linesL l).map AV.str)) rfl) ?_
              refine AOps.read ⟨82, rfl, rfl⟩ rfl (by decide) (Reader.len' (xs := (linesL l).map AV.str) rfl rfl rfl rfl Tryd.underlying23 rfl (m := (linesL l).length) (by simp)) ?_
              refine AOps.read ⟨82, rfl, rfl⟩ rfl (by decide) (Reader.int rfl rfl rfl (r := .bool ((((linesL l).length : Nat) : Int) == 0)) rfl) ?_
              refine AOps.read trivial rfl (by decide) (Reader.pick rfl (b := true) rfl (ok_const rfl) (ok_const rfl) (v := .lit (.bool ((((linesL l).length : Nat) : Int) == 0))) rfl) ?_
              refine AOps.read trivial rfl (by decide) (Reader.move (.inr rfl) (ok_const rfl) (v := .lit (.bool ((((linesL l).length : Nat) : Int) == 0))) rfl) ?_
              exact AOps.nil rfl
            · skip
              have h6' : ¬ ((linesX l) = 1) := (by have hh := beq_eq_false_iff_ne.1 h6; omega)
              clear h6
              refine AOps.skip ⟨2, true, 82, _, rfl, rfl, rfl, by simp⟩ rfl (by decide) ?_
              refine AOps.skip ⟨2, true, 82, _, rfl, rfl, rfl, by simp⟩ rfl (by decide) ?_
              refine AOps.skip ⟨2, true, 82, _, rfl, rfl, rfl, by simp⟩ rfl (by decide) ?_
              refine AOps.read trivial rfl (by decide) (Reader.pick rfl (b := false) rfl (ok_const rfl) (ok_const rfl) (v := .lit (.bool false)) rfl) ?_
              refine AOps.read trivial rfl (by decide) (Reader.move (.inr rfl) (ok_const rfl) (v := .lit (.bool false)) rfl) ?_
              exact AOps.nil rfl
          refine AWp.ret ?_
          exact ⟨.inl rfl, _, ResOf.one 4 (.lit (.bool (bif ((linesX l) == 1) then ((((linesL l).length : Nat) : Int) == 0) else false))) rfl rfl, ⟨congrArg (fun b => AV.lit (.bool b)) (lparts_no (by assumption)), rfl⟩⟩
        · skip
          have h5' : ¬ (linesX (l.take (n % (l.length + 1))) ≠ 0 ∨ linesX (l.drop (n % (l.length + 1))) ≠ 0) := (of_decide_eq_false (hz1.symm.trans h5))
          clear h5
          refine AWp.skip ?_
          refine AWp.regionJ [4, 79, 0, 6, 7, 8, 9, 10, 11, 12, 13, 14, 15, 60] [12, 13, 14] (fun z => ⟨(4, .lit (.bool z)) :: [(79, .lit (.bool (bif ((linesX (l.take (n % (l.length + 1)))) != 0) then true else ((linesX (l.drop (n % (l.length + 1)))) != 0)))), (0, .list false 57 (l.map encS)), (6, .list false 9 ((linesL (l.take (n % (l.length + 1)))).map AV.str)), (7, .lit (.int .i64 (linesX (l.take (n % (l.length + 1)))))), (8, .list false 9 ((linesL (l.drop (n % (l.length + 1)))).map AV.str)), (9, .lit (.int .i64 (linesX (l.drop (n % (l.length + 1)))))), (10, .list false 9 ((linesL l).map AV.str)), (11, .lit (.int .i64 (linesX l))), (12, .lptr 12 0), (13, .lptr 13 0), (14, .lptr 14 0), (15, .lit (.int .i64 (u : Int))), (60, .lit (.bool (decide ((u : Int) < 17))))], [(12, intsA (cntP (evsOf (l.take (n % (l.length + 1)))))), (13, intsA (cntP (evsOf (l.drop (n % (l.length + 1)))))), (14, intsA (cntP (evsOf l)))], M⟩) (z := bif ((linesX l) == 0) then true else false) ?_ ?_
          · skip
            refine AOps.read trivial rfl (by decide) (Reader.move (.inl rfl) (ok_const rfl) (v := .lit (.int .i64 (linesX l))) rfl) ?_
            refine AOps.read trivial rfl (by decide) (Reader.int rfl rfl rfl (r := .bool ((linesX l) == 0)) rfl) ?_
            refine AOps.read trivial rfl (by decide) (Reader.move (.inl rfl) (ok_const rfl) (v := .lit (.bool ((linesX l) == 0))) rfl) ?_
            refine AOps.splitJ (t := 89) (b := (linesX l) == 0) (x := true) (y := false) rfl (fun h7 => ?_) (fun h7 => ?_)
            · skip
              have h7' : (linesX l) = 0 := (by have hh := eq_of_beq h7; omega)
              clear h7
              refine AOps.read ⟨89, rfl, rfl⟩ rfl (by decide) (Reader.move (.inl rfl) (ok_const rfl) (v := .list false 9 ((linesL l).map AV.str)) rfl) ?_
              refine AOps.buildEmpty ⟨89, rfl, rfl⟩ rfl (by decide) rfl rfl Tryd.underlying23 sizeOf_9 ?_
              refine AOps.read ⟨89, rfl, rfl⟩ rfl (by decide) (Reader.move (.inl rfl) (ok_const rfl) (v := .list false 9 ((linesL (l.take (n % (l.length + 1)))).map AV.str)) rfl) ?_
              refine AOps.appL (bytes := 16) ⟨89, rfl, rfl⟩ rfl (by decide) (by decide) rfl rfl rfl rfl Tryd.underlying23 Tryd.underlying23 Tryd.i9 rfl rfl rfl rfl (xs := []) (ys := ((linesL (l.take (n % (l.length + 1)))).map AV.str)) (zs := (([] ++ (linesL (l.take (n % (l.length + 1))))).map AV.str)) rfl rfl (m1 := 0) (m2 := ((linesL (l.take (n % (l.length + 1)))).length)) rfl (by simp) (by first | omega | (unfold maxLen; omega)) (by omega) (by simp) ?_
              refine AOps.read ⟨89, rfl, rfl⟩ rfl (by decide) (Reader.move (.inl rfl) (ok_const rfl) (v := .list false 9 ((linesL (l.drop (n % (l.length + 1)))).map AV.str)) rfl) ?_
              refine AOps.appL (bytes := 16) ⟨89, rfl, rfl⟩ rfl (by decide) (by decide) rfl rfl rfl rfl Tryd.underlying23 Tryd.underlying23 Tryd.i9 rfl rfl rfl rfl (xs := (([] ++ (linesL (l.take (n % (l.length + 1))))).map AV.str)) (ys := ((linesL (l.drop (n % (l.length + 1)))).map AV.str)) (zs := ((([] ++ (linesL (l.take (n % (l.length + 1))))) ++ (linesL (l.drop (n % (l.length + 1))))).map AV.str)) rfl rfl (m1 := (0 + (linesL (l.take (n % (l.length + 1)))).length)) (m2 := ((linesL (l.drop (n % (l.length + 1)))).length)) (by simp) (by simp) (by first | omega | (unfold maxLen; omega)) (by omega) (by simp) ?_
              refine AOps.call (args := [.list false 9 ((linesL l).map AV.str), .list false 9 ((([] ++ (linesL (l.take (n % (l.length + 1))))) ++ (linesL (l.drop (n % (l.length + 1))))).map AV.str)]) ⟨89, rfl, rfl⟩ rfl (by decide) rfl rfl Tryd.call30 (args_ok rfl) rfl (by intro j x v hx hv; match j, hx, hv with | 0, hx, hv => cases hx; cases hv; exact .inl ⟨rfl, rfl⟩ | 1, hx, hv => cases hx; cases hv; exact .inl ⟨rfl, rfl⟩ | _ + 2, hx, hv => cases hx) (sameT_eq (lparts_w (k := (n % (l.length + 1))) (lx_n1 (by assumption)) (lx_n2 (by assumption))) (Nat.le_trans (lines_len l) (few_gl (show FewP l by assumption))) M) ?_
              rintro _ _ ⟨rfl, rfl⟩
              refine AOps.read trivial rfl (by decide) (Reader.pick rfl (b := true) rfl (ok_const rfl) (ok_const rfl) (v := .lit (.bool true)) rfl) ?_
              refine AOps.read trivial rfl (by decide) (Reader.move (.inr rfl) (ok_const rfl) (v := .lit (.bool true)) rfl) ?_
              exact AOps.nil rfl
            · skip
              have h7' : ¬ ((linesX l) = 0) := (by have hh := beq_eq_false_iff_ne.1 h7; omega)
              clear h7
              refine AOps.skip ⟨2, true, 89, _, rfl, rfl, rfl, by simp⟩ rfl (by decide) ?_
              refine AOps.skip ⟨2, true, 89, _, rfl, rfl, rfl, by simp⟩ rfl (by decide) ?_
              refine AOps.skip ⟨2, true, 89, _, rfl, rfl, rfl, by simp⟩ rfl (by decide) ?_
              refine AOps.skip ⟨2, true, 89, _, rfl, rfl, rfl, by simp⟩ rfl (by decide) ?_
              refine AOps.skip ⟨2, true, 89, _, rfl, rfl, rfl, by simp⟩ rfl (by decide) ?_
              refine AOps.skip ⟨2, true, 89, _, rfl, rfl, rfl, by simp⟩ rfl (by decide) ?_
              refine AOps.skip ⟨2, true, 89, _, rfl, rfl, rfl, by simp⟩ rfl (by decide) ?_
              refine AOps.read trivial rfl (by decide) (Reader.pick rfl (b := false) rfl (ok_const rfl) (ok_const rfl) (v := .lit (.bool false)) rfl) ?_
              refine AOps.read trivial rfl (by decide) (Reader.move (.inr rfl) (ok_const rfl) (v := .lit (.bool false)) rfl) ?_
              exact AOps.nil rfl
          refine AWp.ret ?_
          exact ⟨.inl rfl, _, ResOf.one 4 (.lit (.bool (bif ((linesX l) == 0) then true else false))) rfl rfl, ⟨congrArg (fun b => AV.lit (.bool b)) (lparts_yes (lx_n1 (by assumption)) (lx_n2 (by assumption))), rfl⟩⟩

end Go.Proofs.YtlpihekflkjkfaaDoor
