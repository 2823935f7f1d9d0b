/- Walks over abstract values, printed by my program av.py. -/
import Derived.Test.YtlpihekflkjkfaaDoorLg4
import Derived.Test.YtlpihekflkjkfaaDoorAvZ
namespace Go.Proofs.YtlpihekflkjkfaaDoor
open Go.RowKit

structure Stp where
  er : Int
  evs : List Ev
  rd : Int
  pods : List AV
  o0 : Bool
  o1 : Bool
  o2 : Bool
def encS (x : Stp) : AV := .agg [.lit (.int .i64 x.er), .list false 34 (x.evs.map encE), .lit (.int .i64 x.rd), .list false 199 x.pods, .lit (.bool x.o0), .lit (.bool x.o1), .lit (.bool x.o2)]
def s0 : Stp := ⟨0, [], 0, [], false, false, false⟩
theorem encS_at {l : List Stp} {i : Nat} (h : i < l.length) : (l.map encS)[i]? = some (encS (l.getD i s0)) := by
  rw [List.getElem?_map, List.getD_eq_getElem?_getD, List.getElem?_eq_getElem h]; rfl
theorem encE_at {l : List Ev} {i : Nat} (h : i < l.length) : (l.map encE)[i]? = some (encE (l.getD i e0)) := by
  rw [List.getElem?_map, List.getD_eq_getElem?_getD, List.getElem?_eq_getElem h]; rfl
/-- All events, each with its round. -/
def evsOf (l : List Stp) : List (Int × Ev) := l.flatMap fun x => x.evs.map fun e => (x.rd, e)
/-- Those of the first steps, and of the next one its first. -/
def part (l : List Stp) (i j : Nat) : List (Int × Ev) := evsOf (l.take i) ++ ((l.getD i s0).evs.take j).map fun e => ((l.getD i s0).rd, e)
theorem part_zero (l : List Stp) (i : Nat) : part l i 0 = evsOf (l.take i) := by simp [part]
theorem part_succ {l : List Stp} {i j : Nat} (h : j < (l.getD i s0).evs.length) : part l i (j + 1) = part l i j ++ [((l.getD i s0).rd, (l.getD i s0).evs.getD j e0)] := by
  unfold part
  rw [List.take_succ_eq_append_getElem h, List.map_append, List.getD_eq_getElem?_getD (l := (l.getD i s0).evs), List.getElem?_eq_getElem h]
  simp
theorem take_stp {l : List Stp} {i : Nat} (h : i < l.length) : l.take (i + 1) = l.take i ++ [l.getD i s0] := by
  rw [List.take_succ_eq_append_getElem h, List.getD_eq_getElem?_getD, List.getElem?_eq_getElem h]; rfl
theorem part_end {l : List Stp} {i j : Nat} (hi : i < l.length) (hj : ¬ j < (l.getD i s0).evs.length) : part l i j = evsOf (l.take (i + 1)) := by
  unfold part
  rw [show (l.getD i s0).evs.take j = (l.getD i s0).evs from List.take_of_length_le (by omega), take_stp hi]
  simp [evsOf]
theorem part_pre {l : List Stp} {i j : Nat} (hi : i < l.length) : ∃ r, evsOf l = part l i j ++ r := by
  refine ⟨((l.getD i s0).evs.drop j).map (fun e => ((l.getD i s0).rd, e)) ++ evsOf (l.drop (i + 1)), ?_⟩
  have e : l = l.take i ++ (l.getD i s0 :: l.drop (i + 1)) := by
    rw [List.getD_eq_getElem?_getD, List.getElem?_eq_getElem hi]
    show l = l.take i ++ (l[i] :: l.drop (i + 1))
    rw [← List.drop_eq_getElem_cons hi, List.take_append_drop]
  unfold part
  conv => lhs; rw [e]
  have h2 : ((l.getD i s0).evs.map fun e => ((l.getD i s0).rd, e)) = ((l.getD i s0).evs.take j).map (fun e => ((l.getD i s0).rd, e)) ++ ((l.getD i s0).evs.drop j).map (fun e => ((l.getD i s0).rd, e)) := by
    rw [← List.map_append, List.take_append_drop]
  unfold evsOf
  rw [List.flatMap_append, List.flatMap_cons, h2]
  simp only [List.append_assoc]
theorem part_len {l : List Stp} {i j : Nat} (hi : i < l.length) : (part l i j).length ≤ (evsOf l).length := by
  obtain ⟨r, e⟩ := part_pre (j := j) hi
  rw [e, List.length_append]; omega
theorem evs_take_len (l : List Stp) (i : Nat) : (evsOf (l.take i)).length ≤ (evsOf l).length := by
  conv => rhs; rw [← List.take_append_drop i l]
  unfold evsOf
  rw [List.flatMap_append, List.length_append]; omega
theorem evs_len {l : List Stp} {i : Nat} (hi : i < l.length) : (l.getD i s0).evs.length ≤ (evsOf l).length := by
  obtain ⟨r, e⟩ := part_pre (j := (l.getD i s0).evs.length) hi
  rw [e, List.length_append]
  unfold part
  rw [List.length_append, List.length_map, List.take_length]; omega
/-- What is asked of all events. -/
def GoodS (l : List Stp) : Prop := ∀ x ∈ l, ∀ e ∈ x.evs, e.id.length ≤ 4294967280 ∧ (-9223372036854775808 ≤ e.n ∧ e.n ≤ 9223372036854775807)
theorem ev_at {l : List Stp} {i j : Nat} (h : GoodS l) (hi : i < l.length) (hj : j < (l.getD i s0).evs.length) : ((l.getD i s0).evs.getD j e0).id.length ≤ 4294967280 ∧ (-9223372036854775808 ≤ ((l.getD i s0).evs.getD j e0).n ∧ ((l.getD i s0).evs.getD j e0).n ≤ 9223372036854775807) := by
  refine h (l.getD i s0) ?_ _ ?_
  · rw [List.getD_eq_getElem?_getD, List.getElem?_eq_getElem hi]; exact List.getElem_mem hi
  · rw [List.getD_eq_getElem?_getD (l := (l.getD i s0).evs), List.getElem?_eq_getElem hj]; exact List.getElem_mem hj
def tx (p : Int × Ev) : List UInt8 := textE p.1 p.2
def allOk (l : List Stp) : Bool := (evsOf l).all fun p => decide (HasLine p.1 p.2)
def linesL (l : List Stp) : List (List UInt8) := if allOk l then (evsOf l).map tx else []
def linesX (l : List Stp) : Int := if allOk l then 0 else 1
theorem errE_zero {r : Int} {e : Ev} (h : ¬ errE r e ≠ 0) : HasLine r e := by
  unfold errE at h
  by_cases hh : HasLine r e
  · exact hh
  · rw [if_neg hh] at h; exact absurd (by decide) h
theorem errE_one {r : Int} {e : Ev} (h : errE r e ≠ 0) : errE r e = 1 ∧ ¬ HasLine r e := by
  unfold errE at h ⊢
  by_cases hh : HasLine r e
  · rw [if_pos hh] at h; exact absurd rfl h
  · exact ⟨if_neg hh, hh⟩
theorem all_succ {l : List Stp} {i j : Nat} (h : j < (l.getD i s0).evs.length) (ha : ∀ p ∈ part l i j, HasLine p.1 p.2) (hh : HasLine (l.getD i s0).rd ((l.getD i s0).evs.getD j e0)) : ∀ p ∈ part l i (j + 1), HasLine p.1 p.2 := by
  rw [part_succ h]
  intro p hp
  rcases List.mem_append.1 hp with hp | hp
  · exact ha p hp
  · rw [List.mem_singleton.1 hp]; exact hh
theorem lines_bad {l : List Stp} {i j : Nat} (hi : i < l.length) (h : j < (l.getD i s0).evs.length) (hh : errE (l.getD i s0).rd ((l.getD i s0).evs.getD j e0) ≠ 0) : linesL l = [] ∧ linesX l = errE (l.getD i s0).rd ((l.getD i s0).evs.getD j e0) := by
  obtain ⟨h1, h2⟩ := errE_one hh
  have : allOk l = false := by
    unfold allOk
    rw [List.all_eq_false]
    refine ⟨((l.getD i s0).rd, (l.getD i s0).evs.getD j e0), ?_, by simpa using h2⟩
    obtain ⟨r, e⟩ := part_pre (j := j + 1) hi
    rw [e, part_succ h]; simp
  unfold linesL linesX
  rw [this, h1]; exact ⟨rfl, rfl⟩
theorem lines_ok {l : List Stp} {i : Nat} (hi : i ≤ l.length ∧ ¬ i < l.length) (ha : ∀ p ∈ evsOf (l.take i), HasLine p.1 p.2) : linesL l = (evsOf (l.take i)).map tx ∧ linesX l = 0 := by
  rw [List.take_of_length_le (by omega)] at ha ⊢
  have : allOk l = true := by
    unfold allOk
    rw [List.all_eq_true]
    intro p hp
    exact decide_eq_true (ha p hp)
  unfold linesL linesX
  rw [this]; exact ⟨rfl, rfl⟩
/-- One more of a kind. -/
def bump (c : List Int) (e : Ev) : List Int := if 1 ≤ e.kind ∧ e.kind ≤ 16 then c.set e.kind.toNat (c.getD e.kind.toNat 0 + 1) else c
def z17 : List Int := List.replicate 17 0
def cntP (l : List (Int × Ev)) : List Int := l.foldl (fun c p => bump c p.2) z17
theorem bump_len (c : List Int) (e : Ev) : (bump c e).length = c.length := by unfold bump; split <;> simp
theorem cntP_snoc (l : List (Int × Ev)) (p : Int × Ev) : cntP (l ++ [p]) = bump (cntP l) p.2 := by simp [cntP]
theorem cntP_inv (l : List (Int × Ev)) : (cntP l).length = 17 ∧ ∀ i, 0 ≤ (cntP l).getD i 0 ∧ (cntP l).getD i 0 ≤ (l.length : Int) := by
  induction hn : l.length generalizing l with
  | zero =>
    rw [List.length_eq_zero_iff.1 hn]
    refine ⟨rfl, fun i => ?_⟩
    have : (cntP []).getD i 0 = 0 := by
      show (List.replicate 17 (0 : Int)).getD i 0 = 0
      rw [List.getD_eq_getElem?_getD, List.getElem?_replicate]; split <;> rfl
    rw [this]; omega
  | succ k ih =>
    have hne : l ≠ [] := by intro e; rw [e] at hn; cases hn
    have hl := List.dropLast_concat_getLast hne
    obtain ⟨h1, h2⟩ := ih l.dropLast (by rw [List.length_dropLast, hn]; rfl)
    rw [← hl, cntP_snoc]
    refine ⟨by rw [bump_len]; exact h1, fun i => ?_⟩
    unfold bump
    split
    · rename_i hk
      rw [List.getD_eq_getElem?_getD, List.getElem?_set]
      split
      · have h3 := h2 (l.getLast hne).2.kind.toNat
        split
        · simp only [Option.getD_some]; omega
        · simp only [Option.getD_none]; omega
      · have := h2 i
        rw [List.getD_eq_getElem?_getD] at this
        omega
    · have := h2 i; omega
theorem cnt_known {l : List Stp} {i j : Nat} (h : j < (l.getD i s0).evs.length) (hk : 1 ≤ ((l.getD i s0).evs.getD j e0).kind ∧ ((l.getD i s0).evs.getD j e0).kind ≤ 16) :
    (cntP (part l i j)).set ((l.getD i s0).evs.getD j e0).kind.toNat ((cntP (part l i j)).getD ((l.getD i s0).evs.getD j e0).kind.toNat 0 + 1) = cntP (part l i (j + 1)) := by
  rw [part_succ h, cntP_snoc]; unfold bump; rw [if_pos hk]
theorem cnt_not {l : List Stp} {i j : Nat} (h : j < (l.getD i s0).evs.length) (hk : ¬ (1 ≤ ((l.getD i s0).evs.getD j e0).kind ∧ ((l.getD i s0).evs.getD j e0).kind ≤ 16)) : cntP (part l i (j + 1)) = cntP (part l i j) := by
  rw [part_succ h, cntP_snoc]; unfold bump; rw [if_neg hk]

set_option maxRecDepth 20000 in
theorem lines_any (l : List Stp) (hgo : GoodS l) (hle : (evsOf l).length ≤ 4294967280) (hll : l.length ≤ 4294967280) (M : Nat → Option (List AV)) : ACall Tryd.prog 28 [.list false 57 (l.map encS)] M (fun r M' => r = .tuple [.list true 9 ((linesL l).map AV.str), zI (linesX l)] ∧ M = M') := by
  refine ACall.of Tryd.func28 rfl (n := 42) rfl rfl rfl ?_
  refine zg ?_
  refine AOps.nilList 9 trivial rfl (by decide) (.inl rfl) ?_
  refine zM (zI 0) ?_
  refine zN ?_
  refine zg ?_
  refine AOps.nilList 9 trivial rfl (by decide) (.inl rfl) ?_
  refine zN ?_
  refine AWp.seq ?_
  refine zg ?_
  refine zM (.list false 57 (l.map encS)) ?_
  refine zr (zL (l.map encS) l.length Tryd.underlying48 (by simp)) ?_
  refine zM (zI 0) ?_
  refine zN ?_
  refine AWp.block ?_
  refine AWp.loopE [0, 11, 12, 13, 4] [] (fun m s => ∃ (i : Nat), m = l.length - i ∧ s = ⟨[(0, .list false 57 (l.map encS)), (11, .list false 57 (l.map encS)), (12, zI (l.length : Int)), (13, zI (i : Int)), (4, .list true 9 (((evsOf (l.take i)).map tx).map AV.str))], [], M⟩ ∧ (i ≤ l.length) ∧ (∀ p ∈ evsOf (l.take i), HasLine p.1 p.2)) ?_ ?_
  · exact ⟨_, 0, rfl, rfl, Nat.zero_le _, fun p hp => by cases hp⟩
  · rintro _ _ ⟨i, rfl, rfl, hi, hall⟩
    have hte := evs_take_len l i
    refine zg ?_
    refine zr (zi (decide ((i : Int) < (l.length : Int)))) ?_
    refine zN ?_
    refine AWp.seq ?_
    refine zC (b := decide ((i : Int) < (l.length : Int))) rfl (fun h1 => ?_) (fun h1 => ?_)
    · skip
      have h1' : i < l.length := (by have hh := of_decide_eq_true h1; omega)
      clear h1
      refine AWp.skip ?_
      refine AWp.seq ?_
      refine AWp.block ?_
      refine zg ?_
      refine zr (zel i (encS (l.getD i s0)) Tryd.underlying48 sizeOf_57 (encS_at (by omega))) ?_
      refine zr (zlE (encS (l.getD i s0)) Tryd.underlying57 sizeOf_57) ?_
      refine zal [34, 199] zero_57 [zI 0, .list false 34 [], zI 0, .list false 199 [], zB false, zB false, zB false] ?_
      refine zst sizeOf_57 (encS (l.getD i s0)) ?_
      refine zN ?_
      refine zg ?_
      refine zr (zfL Tryd.underlying57 sizeOf_51) ?_
      refine zr (zlL (.list false 34 ((l.getD i s0).evs.map encE)) Tryd.underlying51 sizeOf_51) ?_
      refine zr (zL ((l.getD i s0).evs.map encE) ((l.getD i s0).evs.length) Tryd.underlying51 (by simp)) ?_
      refine zM (zI 0) ?_
      refine zN ?_
      refine AWp.block ?_
      refine AWp.loopE [0, 11, 12, 13, 4, 6, 18, 19, 20] [6] (fun m s => ∃ (j : Nat), m = (l.getD i s0).evs.length - j ∧ s = ⟨[(0, .list false 57 (l.map encS)), (11, .list false 57 (l.map encS)), (12, zI (l.length : Int)), (13, zI (i : Int)), (4, .list true 9 (((part l i j).map tx).map AV.str)), (6, .lptr 6 0), (18, .list false 34 ((l.getD i s0).evs.map encE)), (19, zI (((l.getD i s0).evs.length : Nat) : Int)), (20, zI (j : Int))], [(6, [zI ((l.getD i s0).er), .list false 34 ((l.getD i s0).evs.map encE), zI ((l.getD i s0).rd), .list false 199 ((l.getD i s0).pods), zB ((l.getD i s0).o0), zB ((l.getD i s0).o1), zB ((l.getD i s0).o2)])], M⟩ ∧ (j ≤ (l.getD i s0).evs.length) ∧ (∀ p ∈ part l i j, HasLine p.1 p.2)) ?_ ?_
      · exact ⟨_, 0, rfl, (by rw [part_zero]; rfl), Nat.zero_le _, by rw [part_zero]; exact hall⟩
      · rintro _ _ ⟨j, rfl, rfl, hj, hall2⟩
        have hel := evs_len (l := l) (i := i) (by omega)
        have hpl := part_len (l := l) (i := i) (j := j) (by omega)
        have hpm : ((part l i j).map tx).length = (part l i j).length := List.length_map ..
        refine zg ?_
        refine zr (zi (decide ((j : Int) < (((l.getD i s0).evs.length : Nat) : Int)))) ?_
        refine zN ?_
        refine AWp.seq ?_
        refine zC (b := decide ((j : Int) < (((l.getD i s0).evs.length : Nat) : Int))) rfl (fun h2 => ?_) (fun h2 => ?_)
        · skip
          have h2' : j < ((l.getD i s0).evs.length) := (by have hh := of_decide_eq_true h2; omega)
          clear h2
          refine AWp.skip ?_
          refine AWp.seq ?_
          refine AWp.block ?_
          refine zg ?_
          refine zr (zel j (encE ((l.getD i s0).evs.getD j e0)) Tryd.underlying51 sizeOf_34 (encE_at (by omega))) ?_
          refine zr (zlE (encE ((l.getD i s0).evs.getD j e0)) Tryd.underlying34 sizeOf_34) ?_
          refine zal [] zero_34 [zI 0, .str [], zI 0, zI 0] ?_
          refine zst sizeOf_34 (encE ((l.getD i s0).evs.getD j e0)) ?_
          refine zN ?_
          refine zg ?_
          refine zr (zfL Tryd.underlying57 sizeOf_55) ?_
          refine zr (zfL Tryd.underlying55 sizeOf_3) ?_
          refine zr (zlL (zI ((l.getD i s0).rd)) Tryd.underlying3 sizeOf_3) ?_
          refine zr (zlL (.agg [zI (((l.getD i s0).evs.getD j e0).kind), .str (((l.getD i s0).evs.getD j e0).id), zI (((l.getD i s0).evs.getD j e0).sig), zI (((l.getD i s0).evs.getD j e0).n)]) Tryd.underlying34 sizeOf_34) ?_
          refine zc [zI ((l.getD i s0).rd), encE ((l.getD i s0).evs.getD j e0)] Tryd.call22 (lline_any ((l.getD i s0).rd) ((l.getD i s0).evs.getD j e0) (ev_at hgo (by omega) (by omega)).1 (ev_at hgo (by omega) (by omega)).2 M) ?_
          rintro _ _ ⟨rfl, rfl⟩
          refine zM (.tuple [.str (textE ((l.getD i s0).rd) ((l.getD i s0).evs.getD j e0)), zI (errE ((l.getD i s0).rd) ((l.getD i s0).evs.getD j e0))]) ?_
          refine zr (zx (.str (textE ((l.getD i s0).rd) ((l.getD i s0).evs.getD j e0)))) ?_
          refine zr (zx (zI (errE ((l.getD i s0).rd) ((l.getD i s0).evs.getD j e0)))) ?_
          refine zM (.str (textE ((l.getD i s0).rd) ((l.getD i s0).evs.getD j e0))) ?_
          refine zM (zI (errE ((l.getD i s0).rd) ((l.getD i s0).evs.getD j e0))) ?_
          refine zN ?_
          refine AWp.seq ?_
          refine zg ?_
          refine zM (zI (errE ((l.getD i s0).rd) ((l.getD i s0).evs.getD j e0))) ?_
          refine zr (zi ((errE ((l.getD i s0).rd) ((l.getD i s0).evs.getD j e0)) != 0)) ?_
          refine zN ?_
          refine zC (b := (errE ((l.getD i s0).rd) ((l.getD i s0).evs.getD j e0)) != 0) rfl (fun h3 => ?_) (fun h3 => ?_)
          · skip
            have h3' : (errE ((l.getD i s0).rd) ((l.getD i s0).evs.getD j e0)) ≠ 0 := (by have hh := bne_iff_ne.1 h3; omega)
            clear h3
            refine zg ?_
            refine zM (zI (errE ((l.getD i s0).rd) ((l.getD i s0).evs.getD j e0))) ?_
            refine AOps.nilList 9 trivial rfl (by decide) (.inl rfl) ?_
            refine zM (zI (errE ((l.getD i s0).rd) ((l.getD i s0).evs.getD j e0))) ?_
            refine zN ?_
            refine AWp.ret ?_
            exact ⟨.inl rfl, _, ResOf.two 2 3 (.list true 9 []) (zI (errE ((l.getD i s0).rd) ((l.getD i s0).evs.getD j e0))) rfl rfl (.inr ⟨_, _, rfl⟩) (.inl rfl) (by decide), ⟨by rw [(lines_bad (by omega) (by omega) (by assumption)).1, (lines_bad (by omega) (by omega) (by assumption)).2]; rfl, rfl⟩⟩
          · skip
            have h3' : ¬ ((errE ((l.getD i s0).rd) ((l.getD i s0).evs.getD j e0)) ≠ 0) := (by have hh := bne_eq_false_iff_eq.1 h3; omega)
            clear h3
            refine AWp.skip ?_
            refine AWp.region ?_
            refine zT (v := .list true 9 (((part l i j).map tx).map AV.str)) rfl ?_
            refine zM (.str (textE ((l.getD i s0).rd) ((l.getD i s0).evs.getD j e0))) ?_
            refine zbS [] [.str (textE ((l.getD i s0).rd) ((l.getD i s0).evs.getD j e0))] Tryd.underlying23 Tryd.i9 ?_
            refine zap (m1 := (((part l i j).map tx).length)) (m2 := 1) 16 (((part l i j).map tx).map AV.str) [.str (textE ((l.getD i s0).rd) ((l.getD i s0).evs.getD j e0))] (((part l i (j + 1)).map tx).map AV.str) Tryd.underlying23 Tryd.underlying23 Tryd.i9 (by simp) rfl (by rw [part_succ (by omega)]; simp [tx]) ?_
            refine zT (v := .list true 9 (((part l i (j + 1)).map tx).map AV.str)) rfl ?_
            refine zN ?_
            refine AWp.region ?_
            refine zr (zw ((j : Int) + 1) ((j + 1 : Nat) : Int)) ?_
            refine zM (zI ((j + 1 : Nat) : Int)) ?_
            refine zN ?_
            exact ⟨_, by omega, j + 1, rfl, rfl, by omega, all_succ (by omega) hall2 (errE_zero (by assumption))⟩
        · skip
          have h2' : ¬ (j < ((l.getD i s0).evs.length)) := (by have hh := of_decide_eq_false h2; omega)
          clear h2
          refine AWp.exit ?_
          have hpe : part l i j = evsOf (l.take (i + 1)) := part_end (by omega) (by omega)
          rw [hpe]
          refine AWp.region ?_
          refine zr (zw ((i : Int) + 1) ((i + 1 : Nat) : Int)) ?_
          refine zM (zI ((i + 1 : Nat) : Int)) ?_
          refine zN ?_
          exact ⟨_, by omega, i + 1, rfl, rfl, by omega, by rw [← part_end (by omega) (by omega)]; exact hall2⟩
    · skip
      have h1' : ¬ (i < l.length) := (by have hh := of_decide_eq_false h1; omega)
      clear h1
      refine AWp.exit ?_
      refine zg ?_
      refine zT (v := .list true 9 (((evsOf (l.take i)).map tx).map AV.str)) rfl ?_
      refine zT (v := .list true 9 (((evsOf (l.take i)).map tx).map AV.str)) rfl ?_
      refine zM (zI 0) ?_
      refine zN ?_
      refine AWp.ret ?_
      exact ⟨.inl rfl, _, ResOf.two 2 3 (.list true 9 (((evsOf (l.take i)).map tx).map AV.str)) (zI 0) rfl rfl (.inr ⟨_, _, rfl⟩) (.inl rfl) (by decide), ⟨by rw [(lines_ok (by omega) hall).1, (lines_ok (by omega) hall).2], rfl⟩⟩

set_option maxRecDepth 20000 in
theorem count_any (l : List Stp) (hle : (evsOf l).length ≤ 4294967280) (hll : l.length ≤ 4294967280) (M : Nat → Option (List AV)) : ACall Tryd.prog 29 [.list false 57 (l.map encS)] M (fun r M' => r = .agg (intsA (cntP (evsOf l))) ∧ M = M') := by
  refine ACall.of Tryd.func29 rfl (n := 33) rfl rfl rfl ?_
  refine zg ?_
  refine zal [] zero_50 [zI 0, zI 0, zI 0, zI 0, zI 0, zI 0, zI 0, zI 0, zI 0, zI 0, zI 0, zI 0, zI 0, zI 0, zI 0, zI 0, zI 0] ?_
  refine zN ?_
  refine zg ?_
  refine zal [] zero_50 [zI 0, zI 0, zI 0, zI 0, zI 0, zI 0, zI 0, zI 0, zI 0, zI 0, zI 0, zI 0, zI 0, zI 0, zI 0, zI 0, zI 0] ?_
  refine zN ?_
  refine AWp.seq ?_
  refine zg ?_
  refine zM (.list false 57 (l.map encS)) ?_
  refine zr (zL (l.map encS) l.length Tryd.underlying48 (by simp)) ?_
  refine zM (zI 0) ?_
  refine zN ?_
  refine AWp.block ?_
  refine AWp.loopE [0, 2, 3, 8, 9, 10] [2, 3] (fun m s => ∃ (i : Nat), m = l.length - i ∧ s = ⟨[(0, .list false 57 (l.map encS)), (2, .lptr 2 0), (3, .lptr 3 0), (8, .list false 57 (l.map encS)), (9, zI (l.length : Int)), (10, zI (i : Int))], [(2, [zI 0, zI 0, zI 0, zI 0, zI 0, zI 0, zI 0, zI 0, zI 0, zI 0, zI 0, zI 0, zI 0, zI 0, zI 0, zI 0, zI 0]), (3, intsA (cntP (evsOf (l.take i))))], M⟩ ∧ (i ≤ l.length)) ?_ ?_
  · exact ⟨_, 0, rfl, rfl, Nat.zero_le _⟩
  · rintro _ _ ⟨i, rfl, rfl, hi⟩
    have hte := evs_take_len l i
    refine zg ?_
    refine zr (zi (decide ((i : Int) < (l.length : Int)))) ?_
    refine zN ?_
    refine AWp.seq ?_
    refine zC (b := decide ((i : Int) < (l.length : Int))) rfl (fun h1 => ?_) (fun h1 => ?_)
    · skip
      have h1' : i < l.length := (by have hh := of_decide_eq_true h1; omega)
      clear h1
      refine AWp.skip ?_
      refine AWp.seq ?_
      refine AWp.block ?_
      refine zg ?_
      refine zr (zel i (encS (l.getD i s0)) Tryd.underlying48 sizeOf_57 (encS_at (by omega))) ?_
      refine zr (zlE (encS (l.getD i s0)) Tryd.underlying57 sizeOf_57) ?_
      refine zal [34, 199] zero_57 [zI 0, .list false 34 [], zI 0, .list false 199 [], zB false, zB false, zB false] ?_
      refine zst sizeOf_57 (encS (l.getD i s0)) ?_
      refine zN ?_
      refine zg ?_
      refine zr (zfL Tryd.underlying57 sizeOf_51) ?_
      refine zr (zlL (.list false 34 ((l.getD i s0).evs.map encE)) Tryd.underlying51 sizeOf_51) ?_
      refine zr (zL ((l.getD i s0).evs.map encE) ((l.getD i s0).evs.length) Tryd.underlying51 (by simp)) ?_
      refine zM (zI 0) ?_
      refine zN ?_
      refine AWp.block ?_
      refine AWp.loopE [0, 2, 3, 8, 9, 10, 5, 15, 16, 17] [2, 3, 5] (fun m s => ∃ (j : Nat), m = (l.getD i s0).evs.length - j ∧ s = ⟨[(0, .list false 57 (l.map encS)), (2, .lptr 2 0), (3, .lptr 3 0), (8, .list false 57 (l.map encS)), (9, zI (l.length : Int)), (10, zI (i : Int)), (5, .lptr 5 0), (15, .list false 34 ((l.getD i s0).evs.map encE)), (16, zI (((l.getD i s0).evs.length : Nat) : Int)), (17, zI (j : Int))], [(2, [zI 0, zI 0, zI 0, zI 0, zI 0, zI 0, zI 0, zI 0, zI 0, zI 0, zI 0, zI 0, zI 0, zI 0, zI 0, zI 0, zI 0]), (3, intsA (cntP (part l i j))), (5, [zI ((l.getD i s0).er), .list false 34 ((l.getD i s0).evs.map encE), zI ((l.getD i s0).rd), .list false 199 ((l.getD i s0).pods), zB ((l.getD i s0).o0), zB ((l.getD i s0).o1), zB ((l.getD i s0).o2)])], M⟩ ∧ (j ≤ (l.getD i s0).evs.length)) ?_ ?_
      · exact ⟨_, 0, rfl, (by rw [part_zero]; rfl), Nat.zero_le _⟩
      · rintro _ _ ⟨j, rfl, rfl, hj⟩
        have hel := evs_len (l := l) (i := i) (by omega)
        have hpl := part_len (l := l) (i := i) (j := j) (by omega)
        have hci := (cntP_inv (part l i j)).2 ((l.getD i s0).evs.getD j e0).kind.toNat
        refine zg ?_
        refine zr (zi (decide ((j : Int) < (((l.getD i s0).evs.length : Nat) : Int)))) ?_
        refine zN ?_
        refine AWp.seq ?_
        refine zC (b := decide ((j : Int) < (((l.getD i s0).evs.length : Nat) : Int))) rfl (fun h2 => ?_) (fun h2 => ?_)
        · skip
          have h2' : j < ((l.getD i s0).evs.length) := (by have hh := of_decide_eq_true h2; omega)
          clear h2
          refine AWp.skip ?_
          refine AWp.seq ?_
          refine AWp.block ?_
          refine zg ?_
          refine zr (zel j (encE ((l.getD i s0).evs.getD j e0)) Tryd.underlying51 sizeOf_34 (encE_at (by omega))) ?_
          refine zr (zlE (encE ((l.getD i s0).evs.getD j e0)) Tryd.underlying34 sizeOf_34) ?_
          refine zal [] zero_34 [zI 0, .str [], zI 0, zI 0] ?_
          refine zst sizeOf_34 (encE ((l.getD i s0).evs.getD j e0)) ?_
          refine zN ?_
          refine zg ?_
          refine zr (zfL Tryd.underlying34 sizeOf_3) ?_
          refine zr (zlL (zI (((l.getD i s0).evs.getD j e0).kind)) Tryd.underlying3 sizeOf_3) ?_
          refine zc [zI (((l.getD i s0).evs.getD j e0).kind)] Tryd.call60 (known_any (((l.getD i s0).evs.getD j e0).kind) M) ?_
          rintro _ _ ⟨rfl, rfl⟩
          refine zN ?_
          refine zC (b := decide (KnownP (((l.getD i s0).evs.getD j e0).kind))) rfl (fun h3 => ?_) (fun h3 => ?_)
          · skip
            have h3' : 1 ≤ ((l.getD i s0).evs.getD j e0).kind ∧ ((l.getD i s0).evs.getD j e0).kind ≤ 16 := (of_decide_eq_true h3)
            clear h3
            refine AWp.region ?_
            refine zr (zfL Tryd.underlying34 sizeOf_3) ?_
            refine zr (zlL (zI (((l.getD i s0).evs.getD j e0).kind)) Tryd.underlying3 sizeOf_3) ?_
            refine zr (Reader.indexL (m := ((((l.getD i s0).evs.getD j e0).kind).toNat)) rfl Tryd.underlying50 sizeOf_3 rfl rfl (by omega) (by omega)) ?_
            refine zr (Reader.loadL rfl Tryd.underlying3 sizeOf_3 rfl rfl (v := zI ((cntP (part l i j)).getD ((((l.getD i s0).evs.getD j e0).kind).toNat) 0)) (loaded_int (by omega) (by rw [(cntP_inv _).1]; omega)) rfl) ?_
            refine zr (zw (((cntP (part l i j)).getD ((((l.getD i s0).evs.getD j e0).kind).toNat) 0) + 1) (((cntP (part l i j)).getD ((((l.getD i s0).evs.getD j e0).kind).toNat) 0) + 1)) ?_
            refine zr (Reader.indexL (m := ((((l.getD i s0).evs.getD j e0).kind).toNat)) rfl Tryd.underlying50 sizeOf_3 rfl rfl (by omega) (by omega)) ?_
            refine AOps.storeLE (cells' := intsA (cntP (part l i (j + 1)))) trivial rfl rfl rfl rfl sizeOf_3 (.inl ⟨rfl, rfl⟩) rfl (v := zI (((cntP (part l i j)).getD ((((l.getD i s0).evs.getD j e0).kind).toNat) 0) + 1)) rfl (all_flat rfl) rfl (by rw [intsA_len, (cntP_inv _).1]; omega) ((splice_int (by omega) (by rw [(cntP_inv _).1]; omega)).trans (congrArg intsA (cnt_known (by omega) (by assumption)))) ?_
            refine zN ?_
            refine AWp.region ?_
            refine zr (zw ((j : Int) + 1) ((j + 1 : Nat) : Int)) ?_
            refine zM (zI ((j + 1 : Nat) : Int)) ?_
            refine zN ?_
            exact ⟨_, by omega, j + 1, rfl, by first | rfl | (rw [cnt_not (by omega) (by assumption)]; rfl), by omega⟩
          · skip
            have h3' : ¬ (1 ≤ ((l.getD i s0).evs.getD j e0).kind ∧ ((l.getD i s0).evs.getD j e0).kind ≤ 16) := (of_decide_eq_false h3)
            clear h3
            refine AWp.skip ?_
            refine AWp.region ?_
            refine zr (zw ((j : Int) + 1) ((j + 1 : Nat) : Int)) ?_
            refine zM (zI ((j + 1 : Nat) : Int)) ?_
            refine zN ?_
            exact ⟨_, by omega, j + 1, rfl, by first | rfl | (rw [cnt_not (by omega) (by assumption)]; rfl), by omega⟩
        · skip
          have h2' : ¬ (j < ((l.getD i s0).evs.length)) := (by have hh := of_decide_eq_false h2; omega)
          clear h2
          refine AWp.exit ?_
          have hpe : part l i j = evsOf (l.take (i + 1)) := part_end (by omega) (by omega)
          rw [hpe]
          refine AWp.region ?_
          refine zr (zw ((i : Int) + 1) ((i + 1 : Nat) : Int)) ?_
          refine zM (zI ((i + 1 : Nat) : Int)) ?_
          refine zN ?_
          exact ⟨_, by omega, i + 1, rfl, rfl, by omega⟩
    · skip
      have h1' : ¬ (i < l.length) := (by have hh := of_decide_eq_false h1; omega)
      clear h1
      refine AWp.exit ?_
      refine zg ?_
      refine zr (Reader.loadL rfl Tryd.underlying50 sizeOf_50 rfl rfl (v := .agg (intsA (cntP (evsOf (l.take i))))) (loaded_ints (cntP_inv _).1) rfl) ?_
      refine AOps.storeLE (cells' := intsA (cntP (evsOf (l.take i)))) trivial rfl rfl rfl rfl sizeOf_50 (.inl ⟨rfl, rfl⟩) rfl (v := .agg (intsA (cntP (evsOf (l.take i))))) (ints_part _) (ints_flat _) (by rw [show AV.cells (.agg (intsA (cntP (evsOf (l.take i))))) = intsA (cntP (evsOf (l.take i))) from rfl, intsA_len, (cntP_inv _).1]) (Nat.le_refl _) (splice_ints (by rw [(cntP_inv _).1]; rfl)) ?_
      refine zN ?_
      refine AWp.ret ?_
      exact ⟨.inl rfl, _, ResOf.cell 2 2 0 17 50 _ _ (.agg (intsA (cntP (evsOf (l.take i))))) rfl rfl Tryd.underlying50 sizeOf_50 (loaded_ints (cntP_inv _).1) rfl, ⟨by rw [List.take_of_length_le (by omega)], rfl⟩⟩

end Go.Proofs.YtlpihekflkjkfaaDoor
