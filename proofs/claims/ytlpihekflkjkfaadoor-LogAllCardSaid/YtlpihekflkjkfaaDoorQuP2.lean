/- The plain law of quant: units by place; readers' loops. No program in sight. -/
import Derived.Test.YtlpihekflkjkfaaDoorQuP
namespace Go.Proofs.YtlpihekflkjkfaaDoor

def u0 : List UInt8 × Nat := ([], 0)
def encU (u : List UInt8 × Nat) : AV := .agg [.str u.1, .lit (.int .i64 (u.2 : Int))]
def namesL : List (List UInt8) := unitL.map (·.1)
theorem unitL_len : unitL.length = 8 := rfl
theorem namesL_len : namesL.length = 8 := rfl
theorem unit_at {i : Nat} (h : i < 8) : (unitL.map encU)[i]? = some (encU (unitL.getD i u0)) := by
  rw [List.getElem?_map, List.getD_eq_getElem?_getD, List.getElem?_eq_getElem (by rw [unitL_len]; exact h)]; rfl
theorem name_at {i : Nat} (h : i < 8) : (namesL.map AV.str)[i]? = some (.str (namesL.getD i [])) := by
  rw [List.getElem?_map, List.getD_eq_getElem?_getD, List.getElem?_eq_getElem (by rw [namesL_len]; exact h)]; rfl
theorem name_unit {i : Nat} (h : i < 8) : namesL.getD i [] = (unitL.getD i u0).1 := by
  match i, h with
  | 0, _ | 1, _ | 2, _ | 3, _ | 4, _ | 5, _ | 6, _ | 7, _ => rfl
theorem unit_mem {i : Nat} (h : i < 8) : unitL.getD i u0 ∈ unitL := by
  rw [List.getD_eq_getElem?_getD, List.getElem?_eq_getElem (by rw [unitL_len]; exact h)]; exact List.getElem_mem _
theorem unit_n {i : Nat} (h : i < 8) : 1000 ≤ (unitL.getD i u0).2 ∧ (unitL.getD i u0).2 ≤ 1099511627776 := unit_pos (unit_mem h)
theorem unit_ofN {i : Nat} (h : i < 8) : unitOf (unitL.getD i u0).1 = (unitL.getD i u0).2 := unit_of (unit_mem h)
theorem names_snoc {i : Nat} (h : i < 8) : (namesL.take i).map AV.str ++ [AV.str (unitL.getD i u0).1] = (namesL.take (i + 1)).map AV.str := by
  match i, h with
  | 0, _ | 1, _ | 2, _ | 3, _ | 4, _ | 5, _ | 6, _ | 7, _ => rfl
theorem names_all {i : Nat} (h1 : i ≤ 8) (h2 : ¬ i < 8) : namesL.take i = namesL := by
  have : i = 8 := by omega
  subst this; rfl
theorem names_len {i : Nat} (h : i ≤ 8) : ((namesL.take i).map AV.str).length = i := by
  rw [List.length_map, List.length_take, namesL_len]; omega

/-- Which unit it is, if any. -/
theorem ix_cases (t : List UInt8) : (∀ j, j < 8 → (unitL.getD j u0).1 ≠ t) ∨ ∃ i, i < 8 ∧ (∀ j, j < i → (unitL.getD j u0).1 ≠ t) ∧ (unitL.getD i u0).1 = t := by
  have key : ∀ m, m ≤ 8 → (∀ j, j < m → (unitL.getD j u0).1 ≠ t) ∨ ∃ i, i < 8 ∧ (∀ j, j < i → (unitL.getD j u0).1 ≠ t) ∧ (unitL.getD i u0).1 = t := by
    intro m
    induction m with
    | zero => intro _; exact .inl (fun j hj => by omega)
    | succ m ih =>
      intro hm
      rcases ih (by omega) with h | h
      · by_cases e : (unitL.getD m u0).1 = t
        · exact .inr ⟨m, by omega, h, e⟩
        · refine .inl (fun j hj => ?_)
          rcases Nat.lt_or_ge j m with h1 | h1
          · exact h j h1
          · rw [show j = m by omega]; exact e
      · exact .inr h
  exact key 8 (Nat.le_refl _)
theorem unitL_eq : unitL = (List.range 8).map fun j => unitL.getD j u0 := rfl
theorem unitOf_none {t : List UInt8} (h : ∀ j, j < 8 → (unitL.getD j u0).1 ≠ t) (h0 : t ≠ []) : unitOf t = 0 := by
  unfold unitOf
  rw [if_neg h0]
  have : unitL.find? (fun u => u.1 == t) = none := by
    rw [List.find?_eq_none]
    intro u hu
    rw [unitL_eq] at hu
    obtain ⟨j, hj, rfl⟩ := List.mem_map.1 hu
    simpa using h j (List.mem_range.1 hj)
  rw [this]
theorem unitOf_some {t : List UInt8} {i : Nat} (hi : i < 8) (he : (unitL.getD i u0).1 = t) : unitOf t = (unitL.getD i u0).2 := by
  rw [← he]; exact unit_ofN hi
theorem unit_ne_nil {i : Nat} (hi : i < 8) : (unitL.getD i u0).1 ≠ [] := by
  match i, hi with
  | 0, _ | 1, _ | 2, _ | 3, _ | 4, _ | 5, _ | 6, _ | 7, _ => decide
theorem unitOf_le (t : List UInt8) : unitOf t ≤ 1099511627776 := by
  by_cases h0 : t = []
  · subst h0; decide
  · rcases ix_cases t with h | ⟨i, hi, _, he⟩
    · rw [unitOf_none h h0]; omega
    · rw [unitOf_some hi he]; exact (unit_n hi).2

/-- The reference's powers. -/
def pw (i k : Nat) : Nat := (if i % 2 = 0 then 1024 else 1000) ^ (k - i / 2)
theorem pw_0 (i : Nat) : pw i (i / 2) = 1 := by simp [pw]
theorem pw_even {i k : Nat} (hk : i / 2 ≤ k) (h : i % 2 = 0) : pw i k * 1024 = pw i (k + 1) := by
  simp only [pw, h, if_true]
  rw [show k + 1 - i / 2 = (k - i / 2) + 1 by omega, Nat.pow_succ]
theorem pw_odd {i k : Nat} (hk : i / 2 ≤ k) (h : ¬ i % 2 = 0) : pw i k * 1000 = pw i (k + 1) := by
  simp only [pw, h, if_false]
  rw [show k + 1 - i / 2 = (k - i / 2) + 1 by omega, Nat.pow_succ]
theorem pw_le {i k : Nat} (hk : k ≤ 4) : pw i k ≤ 1099511627776 := by
  unfold pw
  have h1 : (if i % 2 = 0 then 1024 else 1000) ≤ 1024 := by split <;> omega
  have h2 := Nat.pow_le_pow_left h1 (k - i / 2)
  have h3 : 1024 ^ (k - i / 2) ≤ 1024 ^ 4 := Nat.pow_le_pow_right (by decide) (by omega)
  have h4 : (1024 : Nat) ^ 4 = 1099511627776 := by decide
  omega
theorem pw_unit {i : Nat} (h : i < 8) : pw i 4 = (unitL.getD i u0).2 := by
  match i, h with
  | 0, _ | 1, _ | 2, _ | 3, _ | 4, _ | 5, _ | 6, _ | 7, _ => decide

theorem tw_take (p : UInt8 → Bool) (s : List UInt8) : (s.take (s.length - (s.dropWhile p).length)).drop 0 = s.takeWhile p := by
  have h := congrArg List.length (List.takeWhile_append_dropWhile (p := p) (l := s))
  rw [List.length_append] at h
  rw [List.drop_zero, show s.length - (s.dropWhile p).length = (s.takeWhile p).length by omega]
  have := List.takeWhile_prefix (l := s) p
  exact (List.prefix_iff_eq_take.1 this).symm
theorem dw_le (p : UInt8 → Bool) (s : List UInt8) : (s.dropWhile p).length ≤ s.length := (List.dropWhile_sublist p).length_le
theorem tw_le (p : UInt8 → Bool) (s : List UInt8) : (s.takeWhile p).length ≤ s.length := (List.takeWhile_sublist p).length_le
theorem tw_dig (s : List UInt8) (k : Nat) : k < (s.takeWhile isD).length → 48 ≤ ((s.takeWhile isD).getD k 0).toNat ∧ ((s.takeWhile isD).getD k 0).toNat ≤ 57 := by
  intro hk
  have hm : (s.takeWhile isD).getD k 0 ∈ s.takeWhile isD := by rw [List.getD_eq_getElem?_getD, List.getElem?_eq_getElem hk]; exact List.getElem_mem _
  have := List.all_eq_true.1 (List.all_takeWhile (p := isD) (l := s)) _ hm
  rw [isD_iff] at this
  simpa using this
theorem take_succ {l : List UInt8} {k : Nat} (h : k < l.length) : l.take (k + 1) = l.take k ++ [l.getD k 0] := by
  rw [List.take_succ_eq_append_getElem h, List.getD_eq_getElem?_getD, List.getElem?_eq_getElem h]; rfl
theorem decV_le (l : List UInt8) : decV l ≤ 9223372036854775807 := by
  rcases List.eq_nil_or_concat l with rfl | ⟨r, c, rfl⟩
  · decide
  · rw [List.concat_eq_append, decV_snoc]; exact satN_le _
theorem decV_step {l : List UInt8} {k : Nat} (h : k < l.length) : satN (satN (decV (l.take k) * 10) + ((l.getD k 0).toNat - 48)) = decV (l.take (k + 1)) := by
  rw [take_succ h, decV_snoc, satN_add]
theorem qbad_of {s : List UInt8} (h : (bif s.takeWhile isD == [] then true else (unitOf (s.dropWhile isD) : Int) == 0) = true) : quantV s = none := by
  unfold quantV
  rw [if_pos]
  by_cases h1 : s.takeWhile isD = []
  · exact .inl h1
  · rw [beq_eq_false_iff_ne.2 h1, cond_false] at h
    have := eq_of_beq h
    exact .inr (by omega)
theorem qgood_of {s : List UInt8} (h : (bif s.takeWhile isD == [] then true else (unitOf (s.dropWhile isD) : Int) == 0) = false) : quantV s = some (satN (decV (s.takeWhile isD) * unitOf (s.dropWhile isD))) := by
  unfold quantV
  by_cases h1 : s.takeWhile isD = []
  · rw [h1] at h; simp at h
  · rw [beq_eq_false_iff_ne.2 h1, cond_false] at h
    have := beq_eq_false_iff_ne.1 h
    rw [if_neg]
    rintro (h2 | h2)
    · exact h1 h2
    · exact this (by omega)
theorem q_none {s : List UInt8} (h : quantV s = none) : qv s = 0 ∧ qe s = 2 := by simp [qv, qe, h]
theorem q_some {s : List UInt8} {n : Nat} (h : quantV s = some n) : qv s = n ∧ qe s = 0 := by simp [qv, qe, h]
theorem tw_to (p : UInt8 → Bool) : ∀ (l : List UInt8) (m : Nat), m ≤ l.length → (∀ j, j < m → p (l.getD j 0) = true) → (m < l.length → p (l.getD m 0) = false) → l.takeWhile p = l.take m ∧ l.dropWhile p = l.drop m
  | [], m, hm, _, _ => by simp at hm; subst hm; simp
  | c :: r, 0, _, _, h => by
    have := h (by simp)
    simp at this
    simp [this]
  | c :: r, m + 1, hm, ha, h => by
    have h0 := ha 0 (by omega)
    simp at h0
    have ih := tw_to p r m (by simpa using hm) (fun j hj => by simpa using ha (j + 1) (by omega)) (fun hlt => by simpa using h (by simpa using hlt))
    simp [List.takeWhile_cons, List.dropWhile_cons, h0, ih]
end Go.Proofs.YtlpihekflkjkfaaDoor
