/- Steps, their events' lines and how many there are of each kind, plainly: no program in sight. -/
import Derived.Test.YtlpihekflkjkfaaDoorLgP
import Derived.Test.YtlpihekflkjkfaaDoorAvArr
namespace Go.Proofs.YtlpihekflkjkfaaDoor
open Go.RowKit

structure Stp where
  er : Int
  evs : List Ev
  rd : Int
  pods : List AV
  o0 : Bool
  o1 : Bool
  o2 : Bool
def encS (x : Stp) : AV := .agg [.lit (.int .i64 x.er), .list false 34 (x.evs.map encE), .lit (.int .i64 x.rd), .list false 199 x.pods, .lit (.bool x.o0), .lit (.bool x.o1), .lit (.bool x.o2)]
def s0 : Stp := ⟨0, [], 0, [], false, false, false⟩
theorem encS_at {l : List Stp} {i : Nat} (h : i < l.length) : (l.map encS)[i]? = some (encS (l.getD i s0)) := by
  rw [List.getElem?_map, List.getD_eq_getElem?_getD, List.getElem?_eq_getElem h]; rfl
theorem encE_at {l : List Ev} {i : Nat} (h : i < l.length) : (l.map encE)[i]? = some (encE (l.getD i e0)) := by
  rw [List.getElem?_map, List.getD_eq_getElem?_getD, List.getElem?_eq_getElem h]; rfl
/-- All events, each with its round. -/
def evsOf (l : List Stp) : List (Int × Ev) := l.flatMap fun x => x.evs.map fun e => (x.rd, e)
/-- Those of the first steps, and of the next one its first. -/
def part (l : List Stp) (i j : Nat) : List (Int × Ev) := evsOf (l.take i) ++ ((l.getD i s0).evs.take j).map fun e => ((l.getD i s0).rd, e)
theorem part_zero (l : List Stp) (i : Nat) : part l i 0 = evsOf (l.take i) := by simp [part]
theorem part_succ {l : List Stp} {i j : Nat} (h : j < (l.getD i s0).evs.length) : part l i (j + 1) = part l i j ++ [((l.getD i s0).rd, (l.getD i s0).evs.getD j e0)] := by
  unfold part
  rw [List.take_succ_eq_append_getElem h, List.map_append, List.getD_eq_getElem?_getD (l := (l.getD i s0).evs), List.getElem?_eq_getElem h]
  simp
theorem take_stp {l : List Stp} {i : Nat} (h : i < l.length) : l.take (i + 1) = l.take i ++ [l.getD i s0] := by
  rw [List.take_succ_eq_append_getElem h, List.getD_eq_getElem?_getD, List.getElem?_eq_getElem h]; rfl
theorem part_end {l : List Stp} {i j : Nat} (hi : i < l.length) (hj : ¬ j < (l.getD i s0).evs.length) : part l i j = evsOf (l.take (i + 1)) := by
  unfold part
  rw [show (l.getD i s0).evs.take j = (l.getD i s0).evs from List.take_of_length_le (by omega), take_stp hi]
  simp [evsOf]
theorem part_pre {l : List Stp} {i j : Nat} (hi : i < l.length) : ∃ r, evsOf l = part l i j ++ r := by
  refine ⟨((l.getD i s0).evs.drop j).map (fun e => ((l.getD i s0).rd, e)) ++ evsOf (l.drop (i + 1)), ?_⟩
  have e : l = l.take i ++ (l.getD i s0 :: l.drop (i + 1)) := by
    rw [List.getD_eq_getElem?_getD, List.getElem?_eq_getElem hi]
    show l = l.take i ++ (l[i] :: l.drop (i + 1))
    rw [← List.drop_eq_getElem_cons hi, List.take_append_drop]
  unfold part
  conv => lhs; rw [e]
  have h2 : ((l.getD i s0).evs.map fun e => ((l.getD i s0).rd, e)) = ((l.getD i s0).evs.take j).map (fun e => ((l.getD i s0).rd, e)) ++ ((l.getD i s0).evs.drop j).map (fun e => ((l.getD i s0).rd, e)) := by
    rw [← List.map_append, List.take_append_drop]
  unfold evsOf
  rw [List.flatMap_append, List.flatMap_cons, h2]
  simp only [List.append_assoc]
theorem part_len {l : List Stp} {i j : Nat} (hi : i < l.length) : (part l i j).length ≤ (evsOf l).length := by
  obtain ⟨r, e⟩ := part_pre (j := j) hi
  rw [e, List.length_append]; omega
theorem evs_take_len (l : List Stp) (i : Nat) : (evsOf (l.take i)).length ≤ (evsOf l).length := by
  conv => rhs; rw [← List.take_append_drop i l]
  unfold evsOf
  rw [List.flatMap_append, List.length_append]; omega
theorem evs_len {l : List Stp} {i : Nat} (hi : i < l.length) : (l.getD i s0).evs.length ≤ (evsOf l).length := by
  obtain ⟨r, e⟩ := part_pre (j := (l.getD i s0).evs.length) hi
  rw [e, List.length_append]
  unfold part
  rw [List.length_append, List.length_map, List.take_length]; omega
/-- What is asked of all events. -/
def GoodS (l : List Stp) : Prop := ∀ x ∈ l, ∀ e ∈ x.evs, e.id.length ≤ 4294967280 ∧ (-9223372036854775808 ≤ e.n ∧ e.n ≤ 9223372036854775807)
theorem ev_at {l : List Stp} {i j : Nat} (h : GoodS l) (hi : i < l.length) (hj : j < (l.getD i s0).evs.length) : ((l.getD i s0).evs.getD j e0).id.length ≤ 4294967280 ∧ (-9223372036854775808 ≤ ((l.getD i s0).evs.getD j e0).n ∧ ((l.getD i s0).evs.getD j e0).n ≤ 9223372036854775807) := by
  refine h (l.getD i s0) ?_ _ ?_
  · rw [List.getD_eq_getElem?_getD, List.getElem?_eq_getElem hi]; exact List.getElem_mem hi
  · rw [List.getD_eq_getElem?_getD (l := (l.getD i s0).evs), List.getElem?_eq_getElem hj]; exact List.getElem_mem hj
def tx (p : Int × Ev) : List UInt8 := textE p.1 p.2
def allOk (l : List Stp) : Bool := (evsOf l).all fun p => decide (HasLine p.1 p.2)
def linesL (l : List Stp) : List (List UInt8) := if allOk l then (evsOf l).map tx else []
def linesX (l : List Stp) : Int := if allOk l then 0 else 1
theorem errE_zero {r : Int} {e : Ev} (h : ¬ errE r e ≠ 0) : HasLine r e := by
  unfold errE at h
  by_cases hh : HasLine r e
  · exact hh
  · rw [if_neg hh] at h; exact absurd (by decide) h
theorem errE_one {r : Int} {e : Ev} (h : errE r e ≠ 0) : errE r e = 1 ∧ ¬ HasLine r e := by
  unfold errE at h ⊢
  by_cases hh : HasLine r e
  · rw [if_pos hh] at h; exact absurd rfl h
  · exact ⟨if_neg hh, hh⟩
theorem all_succ {l : List Stp} {i j : Nat} (h : j < (l.getD i s0).evs.length) (ha : ∀ p ∈ part l i j, HasLine p.1 p.2) (hh : HasLine (l.getD i s0).rd ((l.getD i s0).evs.getD j e0)) : ∀ p ∈ part l i (j + 1), HasLine p.1 p.2 := by
  rw [part_succ h]
  intro p hp
  rcases List.mem_append.1 hp with hp | hp
  · exact ha p hp
  · rw [List.mem_singleton.1 hp]; exact hh
theorem lines_bad {l : List Stp} {i j : Nat} (hi : i < l.length) (h : j < (l.getD i s0).evs.length) (hh : errE (l.getD i s0).rd ((l.getD i s0).evs.getD j e0) ≠ 0) : linesL l = [] ∧ linesX l = errE (l.getD i s0).rd ((l.getD i s0).evs.getD j e0) := by
  obtain ⟨h1, h2⟩ := errE_one hh
  have : allOk l = false := by
    unfold allOk
    rw [List.all_eq_false]
    refine ⟨((l.getD i s0).rd, (l.getD i s0).evs.getD j e0), ?_, by simpa using h2⟩
    obtain ⟨r, e⟩ := part_pre (j := j + 1) hi
    rw [e, part_succ h]; simp
  unfold linesL linesX
  rw [this, h1]; exact ⟨rfl, rfl⟩
theorem lines_ok {l : List Stp} {i : Nat} (hi : i ≤ l.length ∧ ¬ i < l.length) (ha : ∀ p ∈ evsOf (l.take i), HasLine p.1 p.2) : linesL l = (evsOf (l.take i)).map tx ∧ linesX l = 0 := by
  rw [List.take_of_length_le (by omega)] at ha ⊢
  have : allOk l = true := by
    unfold allOk
    rw [List.all_eq_true]
    intro p hp
    exact decide_eq_true (ha p hp)
  unfold linesL linesX
  rw [this]; exact ⟨rfl, rfl⟩
/-- One more of a kind. -/
def bump (c : List Int) (e : Ev) : List Int := if 1 ≤ e.kind ∧ e.kind ≤ 16 then c.set e.kind.toNat (c.getD e.kind.toNat 0 + 1) else c
def z17 : List Int := List.replicate 17 0
def cntP (l : List (Int × Ev)) : List Int := l.foldl (fun c p => bump c p.2) z17
theorem bump_len (c : List Int) (e : Ev) : (bump c e).length = c.length := by unfold bump; split <;> simp
theorem cntP_snoc (l : List (Int × Ev)) (p : Int × Ev) : cntP (l ++ [p]) = bump (cntP l) p.2 := by simp [cntP]
theorem cntP_inv (l : List (Int × Ev)) : (cntP l).length = 17 ∧ ∀ i, 0 ≤ (cntP l).getD i 0 ∧ (cntP l).getD i 0 ≤ (l.length : Int) := by
  induction hn : l.length generalizing l with
  | zero =>
    rw [List.length_eq_zero_iff.1 hn]
    refine ⟨rfl, fun i => ?_⟩
    have : (cntP []).getD i 0 = 0 := by
      show (List.replicate 17 (0 : Int)).getD i 0 = 0
      rw [List.getD_eq_getElem?_getD, List.getElem?_replicate]; split <;> rfl
    rw [this]; omega
  | succ k ih =>
    have hne : l ≠ [] := by intro e; rw [e] at hn; cases hn
    have hl := List.dropLast_concat_getLast hne
    obtain ⟨h1, h2⟩ := ih l.dropLast (by rw [List.length_dropLast, hn]; rfl)
    rw [← hl, cntP_snoc]
    refine ⟨by rw [bump_len]; exact h1, fun i => ?_⟩
    unfold bump
    split
    · rename_i hk
      rw [List.getD_eq_getElem?_getD, List.getElem?_set]
      split
      · have h3 := h2 (l.getLast hne).2.kind.toNat
        split
        · simp only [Option.getD_some]; omega
        · simp only [Option.getD_none]; omega
      · have := h2 i
        rw [List.getD_eq_getElem?_getD] at this
        omega
    · have := h2 i; omega
theorem cnt_known {l : List Stp} {i j : Nat} (h : j < (l.getD i s0).evs.length) (hk : 1 ≤ ((l.getD i s0).evs.getD j e0).kind ∧ ((l.getD i s0).evs.getD j e0).kind ≤ 16) :
    (cntP (part l i j)).set ((l.getD i s0).evs.getD j e0).kind.toNat ((cntP (part l i j)).getD ((l.getD i s0).evs.getD j e0).kind.toNat 0 + 1) = cntP (part l i (j + 1)) := by
  rw [part_succ h, cntP_snoc]; unfold bump; rw [if_pos hk]
theorem cnt_not {l : List Stp} {i j : Nat} (h : j < (l.getD i s0).evs.length) (hk : ¬ (1 ≤ ((l.getD i s0).evs.getD j e0).kind ∧ ((l.getD i s0).evs.getD j e0).kind ≤ 16)) : cntP (part l i (j + 1)) = cntP (part l i j) := by
  rw [part_succ h, cntP_snoc]; unfold bump; rw [if_neg hk]
end Go.Proofs.YtlpihekflkjkfaaDoor
