/- QuP, QuP2, NumP, ThP, Ev, EvS, EvR, EvK, EvF. -/
import Derived.Test.YtdjojfibjbjpdaaGreatDoorM2
import Derived.Lib.ItoaMem
import Derived.Lib.ItoaLen
import Derived.Lib.AtoiAll
import Derived.Lib.AtoiAllCases
import Derived.Lib.IndexMore
import Derived.Lib.Strings
import Derived.Test.YtdjojfibjbjpdaaGreatDoorM3
namespace Go.Proofs.YtdjojfibjbjpdaaGreatDoor
section
/-- Up to the greatest. -/
def satN (x : Nat) : Nat := if x ≤ 9223372036854775807 then x else 9223372036854775807
theorem satN_le (x : Nat) : satN x ≤ 9223372036854775807 := by unfold satN; split <;> omega
theorem satN_of {x : Nat} (h : x ≤ 9223372036854775807) : satN x = x := if_pos h
theorem satN_add (x y : Nat) : satN (satN x + y) = satN (x + y) := by unfold satN; (repeat' split) <;> omega
theorem satN_mul (x y : Nat) : satN (satN x * y) = satN (x * y) := by
  rcases Nat.eq_zero_or_pos y with h | h
  · subst h; simp
  · by_cases hx : x ≤ 9223372036854775807
    · rw [satN_of hx]
    · have e : satN x = 9223372036854775807 := if_neg hx
      have h1 : 9223372036854775807 ≤ 9223372036854775807 * y := Nat.le_mul_of_pos_right _ h
      have h2 : 9223372036854775807 * y ≤ x * y := Nat.mul_le_mul_right _ (by omega)
      rw [e]
      generalize 9223372036854775807 * y = p at h1 h2
      generalize x * y = q at h2
      unfold satN; (repeat' split) <;> omega
/-- All units, the greatest first. -/
def unitL : List (List UInt8 × Nat) := [([84, 105], 1099511627776), ([84], 1000000000000), ([71, 105], 1073741824), ([71], 1000000000), ([77, 105], 1048576), ([77], 1000000), ([75, 105], 1024), ([107], 1000)]
def unitOf (s : List UInt8) : Nat := if s = [] then 1 else match unitL.find? (fun u => u.1 == s) with | some u => u.2 | none => 0
def isD (c : UInt8) : Bool := [48, 49, 50, 51, 52, 53, 54, 55, 56, 57].contains c
theorem isD_iff (c : UInt8) : isD c = (decide (48 ≤ c.toNat) && decide (c.toNat ≤ 57)) := by
  have h : ∀ n : _root_.Fin 256, isD (UInt8.ofNat n.val) = (decide (48 ≤ n.val) && decide (n.val ≤ 57)) := by decide +kernel
  have := h ⟨c.toNat, c.toNat_lt⟩
  simpa using this
def decV (l : List UInt8) : Nat := l.foldl (fun n c => satN (n * 10 + (c.toNat - 48))) 0
/-- What a text is as a quantity. -/
def quantV (s : List UInt8) : Option Nat := if s.takeWhile isD = [] ∨ unitOf (s.dropWhile isD) = 0 then none else some (satN (decV (s.takeWhile isD) * unitOf (s.dropWhile isD)))
def qv (s : List UInt8) : Nat := (quantV s).getD 0
def qe (s : List UInt8) : Int := if (quantV s).isSome then 0 else 2

/-- Digits. -/
def digs (n : Nat) : List UInt8 := if h : n < 10 then [UInt8.ofNat (48 + n)] else digs (n / 10) ++ [UInt8.ofNat (48 + n % 10)]
termination_by n
decreasing_by omega
theorem digs_small {n : Nat} (h : n < 10) : digs n = [UInt8.ofNat (48 + n)] := by rw [digs, dif_pos h]
theorem digs_big {n : Nat} (h : ¬ n < 10) : digs n = digs (n / 10) ++ digs (n % 10) := by
  rw [digs, dif_neg h, digs_small (n := n % 10) (by omega)]
theorem digs_snoc {n : Nat} (h : ¬ n < 10) : digs n = digs (n / 10) ++ [UInt8.ofNat (48 + n % 10)] := by rw [digs, dif_neg h]
theorem digit_isD {k : Nat} (h : k < 10) : isD (UInt8.ofNat (48 + k)) = true := by
  rw [isD_iff, UInt8.toNat_ofNat_of_lt' (by show 48 + k < 256; omega)]
  simp; omega
theorem digs_isD (n : Nat) : ∀ c ∈ digs n, isD c = true := by
  induction n using Nat.strongRecOn with
  | _ n ih =>
    intro c hc
    by_cases h : n < 10
    · rw [digs_small h] at hc; rw [List.mem_singleton.1 hc]; exact digit_isD h
    · rw [digs_snoc h] at hc
      rcases List.mem_append.1 hc with hc | hc
      · exact ih _ (by omega) c hc
      · rw [List.mem_singleton.1 hc]; exact digit_isD (by omega)
theorem digs_ne (n : Nat) : digs n ≠ [] := by
  by_cases h : n < 10
  · rw [digs_small h]; simp
  · rw [digs_snoc h]; simp
theorem decV_snoc (l : List UInt8) (c : UInt8) : decV (l ++ [c]) = satN (decV l * 10 + (c.toNat - 48)) := by simp [decV]
theorem decV_digs (n : Nat) : decV (digs n) = satN n := by
  induction n using Nat.strongRecOn with
  | _ n ih =>
    by_cases h : n < 10
    · rw [digs_small h]
      show satN (0 * 10 + ((UInt8.ofNat (48 + n)).toNat - 48)) = satN n
      rw [UInt8.toNat_ofNat_of_lt' (by show 48 + n < 256; omega)]
      congr 1; omega
    · rw [digs_snoc h, decV_snoc, ih _ (by omega), UInt8.toNat_ofNat_of_lt' (by show 48 + n % 10 < 256; omega), show 48 + n % 10 - 48 = n % 10 by omega, ← satN_add, satN_mul, satN_add]
      congr 1; omega
theorem digs_len (n : Nat) : ∀ (k : Nat), n < 10 ^ k → 1 ≤ k → (digs n).length ≤ k := by
  induction n using Nat.strongRecOn with
  | _ n ih =>
    intro k hk h1
    by_cases h : n < 10
    · rw [digs_small h]; simpa using h1
    · rw [digs_snoc h, List.length_append]
      have hk2 : 2 ≤ k := by
        rcases Nat.lt_or_ge k 2 with h2 | h2
        · have : k = 1 := by omega
          subst this; simp at hk; omega
        · exact h2
      have : n / 10 < 10 ^ (k - 1) := by
        rw [Nat.div_lt_iff_lt_mul (by decide)]
        have e : 10 ^ k = 10 ^ (k - 1) * 10 := by rw [← Nat.pow_succ]; congr 1; omega
        omega
      have := ih _ (by omega) (k - 1) this (by omega)
      simp; omega
theorem digs_dec (n : Nat) : digs n = Lib.decDigits n := by
  induction n using Nat.strongRecOn with
  | _ n ih =>
    by_cases h : n < 10
    · rw [digs_small h, Lib.decDigits, dif_pos h]
    · rw [digs_snoc h, Lib.decDigits, dif_neg h, ih _ (by omega)]
theorem itoa_digs (n : Nat) : Lib.itoa (n : Int) = digs n := by rw [Lib.itoa_nonneg, digs_dec]

theorem tw_app (p : UInt8 → Bool) : ∀ (w s : List UInt8), (∀ c ∈ w, p c = true) → (∀ c r, s = c :: r → p c = false) → (w ++ s).takeWhile p = w ∧ (w ++ s).dropWhile p = s
  | [], [], _, _ => by simp
  | [], c :: r, _, h => by simp [h c r rfl]
  | c :: w, s, hw, h => by
    have h0 := hw c (List.mem_cons_self ..)
    have ih := tw_app p w s (fun c hc => hw c (List.mem_cons_of_mem _ hc)) h
    simp [h0, ih]
/-- A unit's name begins with no digit. -/
theorem unit_head {u : List UInt8 × Nat} (h : u ∈ unitL) : ∀ c r, u.1 = c :: r → isD c = false := by
  simp only [unitL, List.mem_cons, List.mem_nil_iff, or_false] at h
  rcases h with rfl | rfl | rfl | rfl | rfl | rfl | rfl | rfl <;> (intro c r e; cases e; rfl)
theorem unit_of {u : List UInt8 × Nat} (h : u ∈ unitL) : unitOf u.1 = u.2 := by
  simp only [unitL, List.mem_cons, List.mem_nil_iff, or_false] at h
  rcases h with rfl | rfl | rfl | rfl | rfl | rfl | rfl | rfl <;> rfl
theorem unit_pos {u : List UInt8 × Nat} (h : u ∈ unitL) : 1000 ≤ u.2 ∧ u.2 ≤ 1099511627776 := by
  simp only [unitL, List.mem_cons, List.mem_nil_iff, or_false] at h
  rcases h with rfl | rfl | rfl | rfl | rfl | rfl | rfl | rfl <;> decide
/-- Digits, and a unit behind. -/
theorem quantV_app {ds nm : List UInt8} (hd : ∀ c ∈ ds, isD c = true) (h0 : ds ≠ []) (hn : ∀ c r, nm = c :: r → isD c = false) (hu : unitOf nm ≠ 0) : quantV (ds ++ nm) = some (satN (decV ds * unitOf nm)) := by
  obtain ⟨h1, h2⟩ := tw_app isD ds nm hd hn
  unfold quantV
  rw [h1, h2, if_neg]
  rintro (h | h)
  · exact h0 h
  · exact hu h
theorem decV_zeros (k : Nat) (l : List UInt8) : decV (List.replicate k 48 ++ l) = decV l := by
  induction k with
  | zero => rfl
  | succ k ih =>
    have : decV (List.replicate (k + 1) 48 ++ l) = decV (List.replicate k 48 ++ l) := by
      rw [List.replicate_succ, List.cons_append]
      show List.foldl _ (satN (0 * 10 + ((48 : UInt8).toNat - 48))) _ = _
      rfl
    rw [this, ih]

/-- A number, printed. -/
def printV (n : Nat) : List UInt8 := if n = 0 then [48] else match unitL.find? (fun u => n % u.2 == 0) with | some u => digs (n / u.2) ++ u.1 | none => digs n
theorem printV_cases (n : Nat) : ∃ (m k : Nat) (nm : List UInt8), printV n = digs m ++ nm ∧ unitOf nm = k ∧ k ≠ 0 ∧ m * k = n ∧ (∀ c r, nm = c :: r → isD c = false) ∧ nm.length ≤ 2 := by
  unfold printV
  split
  · rename_i h; subst h; exact ⟨0, 1, [], by rw [digs_small (by decide)]; rfl, rfl, by decide, rfl, by simp, by simp⟩
  · split
    · rename_i u hu
      have hm := List.mem_of_find?_eq_some hu
      have hp := List.find?_some hu
      have hpos := unit_pos hm
      refine ⟨n / u.2, u.2, u.1, rfl, unit_of hm, by omega, ?_, unit_head hm, ?_⟩
      · have : n % u.2 = 0 := by simpa using hp
        have := Nat.div_add_mod n u.2
        rw [Nat.mul_comm]; omega
      · simp only [unitL, List.mem_cons, List.mem_nil_iff, or_false] at hm
        rcases hm with rfl | rfl | rfl | rfl | rfl | rfl | rfl | rfl <;> decide
    · exact ⟨n, 1, [], by simp, rfl, by decide, by simp, by simp, by simp⟩
theorem printV_read (n k : Nat) (hn : n ≤ 9223372036854775807) : quantV (List.replicate k 48 ++ printV n) = some n := by
  obtain ⟨m, u, nm, h1, h2, h3, h4, h5, _⟩ := printV_cases n
  rw [h1, ← List.append_assoc, quantV_app (fun c hc => ?_) (by simp [digs_ne]) h5 (by rw [h2]; exact h3), decV_zeros, decV_digs, h2, satN_mul, h4, satN_of hn]
  rcases List.mem_append.1 hc with hc | hc
  · rw [List.eq_of_mem_replicate hc]; rfl
  · exact digs_isD _ c hc
theorem printV_len (n : Nat) (hn : n ≤ 9223372036854775807) : (printV n).length ≤ 21 := by
  obtain ⟨m, u, nm, h1, h2, h3, h4, h5, h6⟩ := printV_cases n
  have hm : m ≤ n := by rw [← h4]; exact Nat.le_mul_of_pos_right _ (by omega)
  have := digs_len m 19 (by omega) (by decide)
  rw [h1, List.length_append]; omega
end
section
def u0 : List UInt8 × Nat := ([], 0)
def namesL : List (List UInt8) := unitL.map (·.1)
theorem unitL_len : unitL.length = 8 := rfl
theorem namesL_len : namesL.length = 8 := rfl
theorem name_unit {i : Nat} (h : i < 8) : namesL.getD i [] = (unitL.getD i u0).1 := by
  match i, h with
  | 0, _ | 1, _ | 2, _ | 3, _ | 4, _ | 5, _ | 6, _ | 7, _ => rfl
theorem unit_mem {i : Nat} (h : i < 8) : unitL.getD i u0 ∈ unitL := by
  rw [List.getD_eq_getElem?_getD, List.getElem?_eq_getElem (by rw [unitL_len]; exact h)]; exact List.getElem_mem _
theorem unit_n {i : Nat} (h : i < 8) : 1000 ≤ (unitL.getD i u0).2 ∧ (unitL.getD i u0).2 ≤ 1099511627776 := unit_pos (unit_mem h)
theorem unit_ofN {i : Nat} (h : i < 8) : unitOf (unitL.getD i u0).1 = (unitL.getD i u0).2 := unit_of (unit_mem h)
/-- Which unit it is, if any. -/
theorem ix_cases (t : List UInt8) : (∀ j, j < 8 → (unitL.getD j u0).1 ≠ t) ∨ ∃ i, i < 8 ∧ (∀ j, j < i → (unitL.getD j u0).1 ≠ t) ∧ (unitL.getD i u0).1 = t := by
  have key : ∀ m, m ≤ 8 → (∀ j, j < m → (unitL.getD j u0).1 ≠ t) ∨ ∃ i, i < 8 ∧ (∀ j, j < i → (unitL.getD j u0).1 ≠ t) ∧ (unitL.getD i u0).1 = t := by
    intro m
    induction m with
    | zero => intro _; exact .inl (fun j hj => by omega)
    | succ m ih =>
      intro hm
      rcases ih (by omega) with h | h
      · by_cases e : (unitL.getD m u0).1 = t
        · exact .inr ⟨m, by omega, h, e⟩
        · refine .inl (fun j hj => ?_)
          rcases Nat.lt_or_ge j m with h1 | h1
          · exact h j h1
          · rw [show j = m by omega]; exact e
      · exact .inr h
  exact key 8 (Nat.le_refl _)
theorem unitL_eq : unitL = (List.range 8).map fun j => unitL.getD j u0 := rfl
theorem unitOf_none {t : List UInt8} (h : ∀ j, j < 8 → (unitL.getD j u0).1 ≠ t) (h0 : t ≠ []) : unitOf t = 0 := by
  unfold unitOf
  rw [if_neg h0]
  have : unitL.find? (fun u => u.1 == t) = none := by
    rw [List.find?_eq_none]
    intro u hu
    rw [unitL_eq] at hu
    obtain ⟨j, hj, rfl⟩ := List.mem_map.1 hu
    simpa using h j (List.mem_range.1 hj)
  rw [this]
theorem unitOf_some {t : List UInt8} {i : Nat} (hi : i < 8) (he : (unitL.getD i u0).1 = t) : unitOf t = (unitL.getD i u0).2 := by
  rw [← he]; exact unit_ofN hi
theorem unitOf_le (t : List UInt8) : unitOf t ≤ 1099511627776 := by
  by_cases h0 : t = []
  · subst h0; decide
  · rcases ix_cases t with h | ⟨i, hi, _, he⟩
    · rw [unitOf_none h h0]; omega
    · rw [unitOf_some hi he]; exact (unit_n hi).2

theorem tw_take (p : UInt8 → Bool) (s : List UInt8) : (s.take (s.length - (s.dropWhile p).length)).drop 0 = s.takeWhile p := by
  have h := congrArg List.length (List.takeWhile_append_dropWhile (p := p) (l := s))
  rw [List.length_append] at h
  rw [List.drop_zero, show s.length - (s.dropWhile p).length = (s.takeWhile p).length by omega]
  have := List.takeWhile_prefix (l := s) p
  exact (List.prefix_iff_eq_take.1 this).symm
theorem dw_le (p : UInt8 → Bool) (s : List UInt8) : (s.dropWhile p).length ≤ s.length := (List.dropWhile_sublist p).length_le
theorem tw_le (p : UInt8 → Bool) (s : List UInt8) : (s.takeWhile p).length ≤ s.length := (List.takeWhile_sublist p).length_le
theorem decV_le (l : List UInt8) : decV l ≤ 9223372036854775807 := by
  rcases List.eq_nil_or_concat l with rfl | ⟨r, c, rfl⟩
  · decide
  · rw [List.concat_eq_append, decV_snoc]; exact satN_le _
theorem qbad_of {s : List UInt8} (h : (bif s.takeWhile isD == [] then true else (unitOf (s.dropWhile isD) : Int) == 0) = true) : quantV s = none := by
  unfold quantV
  rw [if_pos]
  by_cases h1 : s.takeWhile isD = []
  · exact .inl h1
  · rw [beq_eq_false_iff_ne.2 h1, cond_false] at h
    have := eq_of_beq h
    exact .inr (by omega)
theorem qgood_of {s : List UInt8} (h : (bif s.takeWhile isD == [] then true else (unitOf (s.dropWhile isD) : Int) == 0) = false) : quantV s = some (satN (decV (s.takeWhile isD) * unitOf (s.dropWhile isD))) := by
  unfold quantV
  by_cases h1 : s.takeWhile isD = []
  · rw [h1] at h; simp at h
  · rw [beq_eq_false_iff_ne.2 h1, cond_false] at h
    have := beq_eq_false_iff_ne.1 h
    rw [if_neg]
    rintro (h2 | h2)
    · exact h1 h2
    · exact this (by omega)
theorem q_none {s : List UInt8} (h : quantV s = none) : qv s = 0 ∧ qe s = 2 := by simp [qv, qe, h]
theorem q_some {s : List UInt8} {n : Nat} (h : quantV s = some n) : qv s = n ∧ qe s = 0 := by simp [qv, qe, h]
end
section
open Go.RowKit

theorem parse_app (l r : List UInt8) : ∀ acc, Lib.parseUint10 acc (l ++ r) = match Lib.parseUint10 acc l with | .ok a => Lib.parseUint10 a r | e => e := by
  induction l with
  | nil => intro acc; rfl
  | cons c t ih =>
    intro acc
    simp only [List.cons_append, Lib.parseUint10]
    split
    · split
      · rfl
      · split
        · rfl
        · exact ih _
    · rfl
theorem dig_nat {n : Nat} (h : n < 10) : (UInt8.ofNat (48 + n)).toNat = 48 + n := UInt8.toNat_ofNat_of_lt' (by show 48 + n < 256; omega)
theorem parse_one {n : Nat} (h : n < 10) (a : Nat) (ha : a * 10 + n ≤ 9223372036854775807) : Lib.parseUint10 a [UInt8.ofNat (48 + n)] = .ok (a * 10 + n) := by
  have e : a * 10 + (48 + n - 48) = a * 10 + n := by omega
  simp only [Lib.parseUint10, dig_nat h]
  rw [if_pos (by omega), if_neg (by omega), if_neg (by omega), e]
theorem parse_digs (n : Nat) (hn : n ≤ 9223372036854775807) : Lib.parseUint10 0 (digs n) = .ok n := by
  induction n using Nat.strongRecOn with
  | _ n ih =>
    by_cases h : n < 10
    · rw [digs_small h, parse_one h 0 (by omega)]; congr 1; omega
    · rw [digs_snoc h, parse_app, ih (n / 10) (by omega) (by omega)]
      show Lib.parseUint10 (n / 10) [UInt8.ofNat (48 + n % 10)] = _
      rw [parse_one (by omega) (n / 10) (by omega)]; congr 1; omega
theorem digs_head (n : Nat) : ∃ c r, digs n = c :: r ∧ 48 ≤ c.toNat ∧ c.toNat ≤ 57 ∧ (1 ≤ n → c.toNat ≠ 48) := by
  induction n using Nat.strongRecOn with
  | _ n ih =>
    by_cases h : n < 10
    · exact ⟨_, _, digs_small h, by rw [dig_nat h]; omega, by rw [dig_nat h]; omega, by rw [dig_nat h]; omega⟩
    · obtain ⟨c, r, e, h1, h2, h3⟩ := ih (n / 10) (by omega)
      exact ⟨c, r ++ [UInt8.ofNat (48 + n % 10)], by rw [digs_snoc h, e]; rfl, h1, h2, fun _ => h3 (by omega)⟩
theorem atoi_digs (n : Nat) (hn : n ≤ 9223372036854775807) : Lib.atoiAll (digs n) = .ok (n : Int) := by
  obtain ⟨c, r, e, h1, h2, _⟩ := digs_head n
  have hp := parse_digs n hn
  rw [e] at hp ⊢
  rw [Lib.atoiAll_plain c r (by omega) (by omega)]
  unfold Lib.parseMag
  rw [if_neg (by simp), hp]
  unfold Lib.signless
  simp only
  rw [if_neg (by omega)]

/-- thresh's number: digits without zeros ahead; 0: it is none. -/
def numT (s : List UInt8) : Int := match Lib.atoiAll s with | .ok n => if Lib.itoa n = s then n else 0 | _ => 0
theorem numT_digs (n : Nat) (hn : n ≤ 9223372036854775807) : numT (digs n) = n := by
  unfold numT; rw [atoi_digs n hn]; simp only; rw [if_pos (itoa_digs n)]
/-- A text, cut at a byte's first place. -/
def cutA (c : UInt8) (s : List UInt8) : List UInt8 × List UInt8 × Bool := (s.takeWhile (· != c), (s.dropWhile (· != c)).drop 1, s.contains c)
theorem index_hit {c b : UInt8} (l : List UInt8) (h : b = c) : Lib.index (b :: l) [c] = 0 := by
  subst h; unfold Lib.index; rw [if_pos (by simp [List.isPrefixOf])]
theorem index_miss {c b : UInt8} (l : List UInt8) (h : b ≠ c) : Lib.index (b :: l) [c] = if Lib.index l [c] = -1 then -1 else Lib.index l [c] + 1 := by
  have h1 : ([c] : List UInt8).isPrefixOf (b :: l) = false := by simp [List.isPrefixOf, Ne.symm h]
  conv => lhs; unfold Lib.index
  rw [h1]
  by_cases e : Lib.index l [c] = -1
  · rw [e]; rfl
  · rw [if_neg e, if_neg (by decide), if_neg (by simpa using e)]
theorem cut_one (c : UInt8) (s : List UInt8) : Lib.cut s [c] = cutA c s := by
  have key : ∀ s : List UInt8, (Lib.index s [c] = -1 ∧ s.takeWhile (· != c) = s ∧ s.dropWhile (· != c) = [] ∧ s.contains c = false) ∨ (∃ i : Nat, Lib.index s [c] = i ∧ s.takeWhile (· != c) = s.take i ∧ (s.dropWhile (· != c)).drop 1 = s.drop (i + 1) ∧ s.contains c = true) := by
    intro s
    induction s with
    | nil => exact .inl ⟨rfl, rfl, rfl, rfl⟩
    | cons b l ih =>
      by_cases h : b = c
      · subst h
        exact .inr ⟨0, index_hit l rfl, by simp, by simp, by simp⟩
      · have hb : (b != c) = true := bne_iff_ne.2 h
        rcases ih with ⟨h1, h2, h3, h4⟩ | ⟨i, h1, h2, h3, h4⟩
        · refine .inl ⟨by rw [index_miss l h, h1]; rfl, ?_, ?_, ?_⟩
          · simp only [List.takeWhile_cons, hb, if_true]; rw [h2]
          · simp only [List.dropWhile_cons, hb, if_true]; rw [h3]
          · simp only [List.contains_cons, h4, Bool.or_false, beq_eq_false_iff_ne]; exact fun e => h e.symm
        · refine .inr ⟨i + 1, by rw [index_miss l h, h1, if_neg (by omega)]; omega, ?_, ?_, ?_⟩
          · simp only [List.takeWhile_cons, hb, if_true]; rw [h2, List.take_succ_cons]
          · simp only [List.dropWhile_cons, hb, if_true]; rw [h3, List.drop_succ_cons]
          · simp only [List.contains_cons, h4, Bool.or_true]
  unfold Lib.cut cutA
  rcases key s with ⟨h1, h2, h3, h4⟩ | ⟨i, h1, h2, h3, h4⟩
  · rw [if_neg (by omega), h2, h3, h4]; rfl
  · rw [if_pos (by omega), h1, h2, h3, h4, Int.toNat_natCast]; rfl
theorem cutA_app {c : UInt8} {a : List UInt8} (b : List UInt8) (h : ∀ x ∈ a, x ≠ c) : cutA c (a ++ c :: b) = (a, b, true) := by
  have hp : ∀ x ∈ a, (x != c) = true := fun x hx => bne_iff_ne.2 (h x hx)
  unfold cutA
  rw [List.takeWhile_append_of_pos hp, List.dropWhile_append_of_pos hp]
  simp
theorem cutA_none {c : UInt8} {a : List UInt8} (h : ∀ x ∈ a, x ≠ c) : cutA c a = (a, [], false) := by
  have key : ∀ a : List UInt8, (∀ x ∈ a, x ≠ c) → a.takeWhile (· != c) = a ∧ a.dropWhile (· != c) = [] ∧ a.contains c = false := by
    intro a
    induction a with
    | nil => intro _; exact ⟨rfl, rfl, rfl⟩
    | cons b l ih =>
      intro h
      have hb : (b != c) = true := bne_iff_ne.2 (h b (List.mem_cons_self ..))
      obtain ⟨h1, h2, h3⟩ := ih (fun x hx => h x (List.mem_cons_of_mem _ hx))
      refine ⟨by simp only [List.takeWhile_cons, hb, if_true]; rw [h1], by simp only [List.dropWhile_cons, hb, if_true]; rw [h2], ?_⟩
      simp only [List.contains_cons, h3, Bool.or_false, beq_eq_false_iff_ne]
      exact (h b (List.mem_cons_self ..)).symm
  obtain ⟨h1, h2, h3⟩ := key a h
  unfold cutA
  rw [h1, h2, h3]; rfl
theorem cutA_len (c : UInt8) (s : List UInt8) : (cutA c s).1.length ≤ s.length ∧ (cutA c s).2.1.length ≤ s.length := by
  refine ⟨(List.takeWhile_sublist _).length_le, ?_⟩
  have := (List.dropWhile_sublist (l := s) (· != c)).length_le
  show ((s.dropWhile (· != c)).drop 1).length ≤ _
  rw [List.length_drop]; omega
end
section
open Go.RowKit

structure Thr where
  sig : Int
  pct : Int
  amt : Int
  soft : Bool
  gr : Int
  deriving DecidableEq
def encT (t : Thr) : AV := .agg [.lit (.int .i64 t.sig), .lit (.int .i64 t.pct), .lit (.int .i64 t.amt), .lit (.bool t.soft), .lit (.int .i64 t.gr)]
def t0 : Thr := ⟨0, 0, 0, false, 0⟩
/-- What a right threshold is. -/
def RightT (t : Thr) : Prop := 0 ≤ t.sig ∧ t.sig ≤ 2 ∧ ((1 ≤ t.pct ∧ t.pct ≤ 100 ∧ t.amt = 0) ∨ (t.pct = 0 ∧ 0 < t.amt)) ∧ ((t.soft = true ∧ 1 ≤ t.gr ∧ t.gr ≤ 1000) ∨ (t.soft = false ∧ t.gr = 0))
instance (t : Thr) : Decidable (RightT t) := by unfold RightT; infer_instance
/-- The signals' words. -/
def w0L : List UInt8 := [109, 101, 109, 111, 114, 121]
def w1L : List UInt8 := [100, 105, 115, 107]
def w2L : List UInt8 := [112, 105, 100]
def wordOf (i : Int) : List UInt8 := if i = 0 then w0L else if i = 1 then w1L else w2L
def sigOf (s : List UInt8) : Int := if s = w0L then 0 else if s = w1L then 1 else if s = w2L then 2 else -1
theorem sig_word {i : Int} (h0 : 0 ≤ i) (h2 : i ≤ 2) : sigOf (wordOf i) = i := by
  have : i = 0 ∨ i = 1 ∨ i = 2 := by omega
  rcases this with rfl | rfl | rfl <;> rfl
theorem sig_cases (s : List UInt8) : (sigOf s = -1 ∧ s ≠ w0L ∧ s ≠ w1L ∧ s ≠ w2L) ∨ (sigOf s = 0 ∧ s = w0L) ∨ (sigOf s = 1 ∧ s = w1L) ∨ (sigOf s = 2 ∧ s = w2L) := by
  unfold sigOf
  by_cases h0 : s = w0L
  · exact .inr (.inl ⟨if_pos h0, h0⟩)
  · by_cases h1 : s = w1L
    · exact .inr (.inr (.inl ⟨by rw [if_neg h0, if_pos h1], h1⟩))
    · by_cases h2 : s = w2L
      · exact .inr (.inr (.inr ⟨by rw [if_neg h0, if_neg h1, if_pos h2], h2⟩))
      · exact .inl ⟨by rw [if_neg h0, if_neg h1, if_neg h2], h0, h1, h2⟩
theorem word_len (i : Int) : (wordOf i).length ≤ 6 := by unfold wordOf; split; decide; split <;> decide
theorem word_no (i : Int) : ∀ c ∈ wordOf i, c ≠ 60 := by unfold wordOf; split; decide; split <;> decide

def pctOf (num : List UInt8 → Int) (v : List UInt8) : Int := if Lib.hasSuffix v [37] then num (v.take (v.length - 1)) else 0
def amtOf (v : List UInt8) : Int := if Lib.hasSuffix v [37] then 0 else (qv v : Int)
def wdOf (s : List UInt8) : List UInt8 := (cutA 60 s).1
def vlOf (s : List UInt8) : List UInt8 := (cutA 58 (cutA 60 s).2.1).1
def grOf (s : List UInt8) : List UInt8 := (cutA 58 (cutA 60 s).2.1).2.1
def sfOf (s : List UInt8) : Bool := (cutA 58 (cutA 60 s).2.1).2.2
/-- What a text tells of a threshold. -/
def thrOf (num : List UInt8 → Int) (s : List UInt8) : Thr := ⟨sigOf (wdOf s), pctOf num (vlOf s), amtOf (vlOf s), sfOf s, if sfOf s then num (grOf s) else 0⟩
/-- Whether a text is a threshold's; and which one's. -/
def OkT (s : List UInt8) : Prop := s.contains 60 = true ∧ RightT (thrOf numT s)
instance (s : List UInt8) : Decidable (OkT s) := by unfold OkT; infer_instance
def readT (s : List UInt8) : Thr := if OkT s then thrOf numT s else t0
def errT (s : List UInt8) : Int := if OkT s then 0 else 2
/-- A threshold's text. -/
def valT (t : Thr) : List UInt8 := if 0 < t.pct then digs t.pct.toNat ++ [37] else printV t.amt.toNat
def printT (t : Thr) : List UInt8 := (wordOf t.sig ++ [60]) ++ valT t ++ (if t.soft then [58] ++ digs t.gr.toNat else [])
theorem suf_snoc (l : List UInt8) (c : UInt8) : Lib.hasSuffix (l ++ [c]) [37] = (c == 37) := by
  unfold Lib.hasSuffix List.isSuffixOf
  simp [List.isPrefixOf, Bool.beq_comm]
theorem suf_no {l : List UInt8} (h : ∀ c ∈ l, c ≠ 37) : Lib.hasSuffix l [37] = false := by
  rcases List.eq_nil_or_concat l with rfl | ⟨t, c, rfl⟩
  · rfl
  · rw [List.concat_eq_append, suf_snoc]
    exact beq_eq_false_iff_ne.2 (h c (by simp))
theorem dig_no (n : Nat) : ∀ c ∈ digs n, c ≠ 37 ∧ c ≠ 58 ∧ c ≠ 60 := by
  intro c hc
  have := digs_isD n c hc
  refine ⟨?_, ?_, ?_⟩ <;> rintro rfl <;> revert this <;> decide
theorem print_no (n : Nat) : ∀ c ∈ printV n, c ≠ 37 ∧ c ≠ 58 ∧ c ≠ 60 := by
  intro c hc
  unfold printV at hc
  split at hc
  · simp only [List.mem_cons, List.mem_nil_iff, or_false] at hc
    subst hc; decide
  · split at hc
    · rename_i u hu
      have hm := List.mem_of_find?_eq_some hu
      rcases List.mem_append.1 hc with h | h
      · exact dig_no _ c h
      · have hall : ∀ u ∈ unitL, ∀ c ∈ u.1, c ≠ 37 ∧ c ≠ 58 ∧ c ≠ 60 := by decide
        exact hall u hm c h
    · exact dig_no _ c hc
theorem val_no {v : List UInt8} {p : Nat} (h : v = digs p ++ [37] ∨ v = printV p) : ∀ c ∈ v, c ≠ 58 ∧ c ≠ 60 := by
  intro c hc
  rcases h with rfl | rfl
  · rcases List.mem_append.1 hc with h | h
    · exact (dig_no _ c h).2
    · simp only [List.mem_cons, List.mem_nil_iff, or_false] at h
      subst h; decide
  · exact (print_no _ c hc).2
/-- What a text of these parts tells. -/
theorem parts {w v g : List UInt8} {so : Bool} (hw : ∀ c ∈ w, c ≠ 60) (hv : ∀ c ∈ v, c ≠ 58) : let s := (w ++ [60]) ++ v ++ (if so then [58] ++ g else [])
    s.contains 60 = true ∧ wdOf s = w ∧ vlOf s = v ∧ sfOf s = so ∧ (so = true → grOf s = g) := by
  intro s
  have hs : s = w ++ 60 :: (v ++ (if so then [58] ++ g else [])) := by simp [s]
  have hc := cutA_app (v ++ (if so then [58] ++ g else [])) hw
  have h2 : cutA 58 (v ++ (if so then [58] ++ g else [])) = (v, if so then g else [], so) := by
    cases so
    · simp only [Bool.false_eq_true, if_false, List.append_nil]; exact cutA_none hv
    · simp only [if_true]; exact cutA_app g hv
  have e : cutA 60 s = (w, v ++ (if so then [58] ++ g else []), true) := by rw [hs]; exact hc
  refine ⟨by rw [hs]; simp, by unfold wdOf; rw [e], by unfold vlOf; rw [e, h2], by unfold sfOf; rw [e, h2], fun h => by unfold grOf; rw [e, h2, h]; rfl⟩
theorem pct_share (num : List UInt8 → Int) (l : List UInt8) : pctOf num (l ++ [37]) = num l ∧ amtOf (l ++ [37]) = 0 := by
  unfold pctOf amtOf
  rw [suf_snoc]
  simp
theorem pct_amount (num : List UInt8 → Int) (n : Nat) (hn : n ≤ 9223372036854775807) : pctOf num (printV n) = 0 ∧ amtOf (printV n) = (n : Int) := by
  unfold pctOf amtOf
  rw [suf_no fun c hc => (print_no n c hc).1]
  have := printV_read n 0 hn
  rw [List.replicate_zero, List.nil_append] at this
  exact ⟨rfl, by simp [(q_some this).1]⟩
/-- A right threshold's text is read as it was. -/
theorem back_T {t : Thr} (h : RightT t) (ha : t.amt ≤ 9223372036854775807) : OkT (printT t) ∧ readT (printT t) = t := by
  obtain ⟨h0, h2, hpa, hg⟩ := h
  have hvn : ∀ c ∈ valT t, c ≠ 58 := by
    unfold valT; split
    · exact fun c hc => (val_no (.inl rfl) c hc).1
    · exact fun c hc => (val_no (.inr rfl) c hc).1
  have hp := parts (g := digs t.gr.toNat) (so := t.soft) (word_no t.sig) hvn
  change (printT t).contains 60 = true ∧ wdOf (printT t) = wordOf t.sig ∧ vlOf (printT t) = valT t ∧ sfOf (printT t) = t.soft ∧ (t.soft = true → grOf (printT t) = digs t.gr.toNat) at hp
  obtain ⟨p1, p2, p3, p4, p5⟩ := hp
  have e : thrOf numT (printT t) = t := by
    unfold thrOf
    rw [p2, p3, p4, sig_word h0 h2]
    have e1 : pctOf numT (valT t) = t.pct ∧ amtOf (valT t) = t.amt := by
      unfold valT
      rcases hpa with ⟨a, b, c⟩ | ⟨a, b⟩
      · rw [if_pos (by omega), (pct_share _ _).1, (pct_share numT _).2, numT_digs _ (by omega)]
        exact ⟨by omega, c.symm⟩
      · rw [if_neg (by omega)]
        have := pct_amount numT t.amt.toNat (by omega)
        exact ⟨by rw [this.1, a], by rw [this.2]; omega⟩
    rw [e1.1, e1.2]
    have e2 : (if t.soft then numT (grOf (printT t)) else 0) = t.gr := by
      rcases hg with ⟨a, b, c⟩ | ⟨a, b⟩
      · rw [a, if_pos rfl, p5 a, numT_digs _ (by omega)]; omega
      · rw [a, b]; rfl
    rw [e2]
  have hok : OkT (printT t) := ⟨p1, by rw [e]; exact ⟨h0, h2, hpa, hg⟩⟩
  exact ⟨hok, by unfold readT; rw [if_pos hok, e]⟩
end
section
open Go.RowKit

abbrev Cnd := List (Nat × Bool)
abbrev Fr := List (Nat × Cnd × AV)
abbrev Ob := List (Nat × List AV)

def memN (a : Nat) : List Nat → Bool
  | [] => false
  | b :: r => bif Nat.beq a b then true else memN a r
def memC (a : Nat) (w : Bool) : Cnd → Bool
  | [] => false
  | (b, v) :: r => bif Nat.beq a b then (bif w == v then true else memC a w r) else memC a w r
def subC : Cnd → Cnd → Bool
  | [], _ => true
  | (a, w) :: r, D => bif memC a w D then subC r D else false
theorem memN_not {a : Nat} : ∀ {l : List Nat}, memN a l = false → a ∉ l
  | [], _ => List.not_mem_nil
  | b :: r, h => by
    simp only [memN] at h
    cases e : Nat.beq a b with
    | true => rw [e] at h; cases h
    | false =>
      rw [e] at h
      intro hm
      rcases List.mem_cons.1 hm with h1 | h1
      · subst h1; rw [Nat.beq_refl] at e; cases e
      · exact memN_not h h1
theorem memC_iff {a : Nat} {w : Bool} : ∀ {l : Cnd}, memC a w l = true → (a, w) ∈ l
  | (b, v) :: r, h => by
    simp only [memC] at h
    cases e : Nat.beq a b with
    | true =>
      rw [e] at h
      have e1 := Nat.eq_of_beq_eq_true e
      subst e1
      cases e2 : (w == v) with
      | true => rw [eq_of_beq e2]; exact List.mem_cons_self ..
      | false => rw [e2] at h; exact List.mem_cons_of_mem _ (memC_iff h)
    | false => rw [e] at h; exact List.mem_cons_of_mem _ (memC_iff h)
theorem subC_iff : ∀ {C D : Cnd}, subC C D = true → ∀ p ∈ C, p ∈ D
  | (a, w) :: r, D, h => by
    simp only [subC] at h
    cases e : memC a w D with
    | true =>
      rw [e] at h
      intro p hp
      rcases List.mem_cons.1 hp with h1 | h1
      · subst h1; exact memC_iff e
      · exact subC_iff h p h1
    | false => rw [e] at h; cases h
  | [], D, _ => by intro p hp; cases hp

theorem memC_of {a : Nat} {w : Bool} : ∀ {l : Cnd}, (a, w) ∈ l → memC a w l = true
  | (b, v) :: r, h => by
    simp only [memC]
    cases e : Nat.beq a b with
    | true =>
      cases e2 : (w == v) with
      | true => rfl
      | false =>
        rcases List.mem_cons.1 h with h1 | h1
        · cases h1; simp at e2
        · exact memC_of h1
    | false =>
      rcases List.mem_cons.1 h with h1 | h1
      · cases h1; rw [Nat.beq_refl] at e; cases e
      · exact memC_of h1
theorem subC_of {D : Cnd} : ∀ {C : Cnd}, (∀ p ∈ C, p ∈ D) → subC C D = true
  | [], _ => rfl
  | (a, w) :: r, h => by
    simp only [subC]
    rw [memC_of (h _ (List.mem_cons_self ..))]
    exact subC_of fun p hp => h p (List.mem_cons_of_mem _ hp)
theorem subC_refl (C : Cnd) : subC C C = true := subC_of fun _ h => h
/-- Objects that are known, laid over the others. -/
def lay : Ob → (Nat → Option (List AV)) → Nat → Option (List AV)
  | [], M => M
  | (i, c) :: r, M => setM (lay r M) i c

structure Es where
  fr : Fr
  gs : List Nat
  loc : List (Nat × List AV)
  objs : Ob
  base : Nat → Option (List AV)

def getE : Fr → Nat → Cnd × AV
  | [], _ => ([], .any)
  | (j, x) :: r, i => bif Nat.beq j i then x else getE r i
def valE (C : Cnd) (x : Cnd × AV) : AV := bif subC x.1 C then x.2 else .any
def getV (fr : Fr) (C : Cnd) (i : Nat) : AV := valE C (getE fr i)

def Es.st (e : Es) (C : Cnd) : St := ⟨e.fr.map fun p => (p.1, valE C p.2), e.loc, lay e.objs e.base⟩

theorem look_st (C : Cnd) : ∀ (fr : Fr) (i : Nat), look .any (fr.map fun p => (p.1, valE C p.2)) i = getV fr C i
  | [], i => rfl
  | (j, x) :: r, i => by
    simp only [List.map_cons, look, getV, getE]
    cases e : Nat.beq j i with
    | true => rw [if_pos (Nat.eq_of_beq_eq_true e)]; rfl
    | false => rw [if_neg (fun h => by subst h; rw [Nat.beq_refl] at e; cases e)]; exact look_st C r i
theorem st_get (e : Es) (C : Cnd) (i : Nat) : (e.st C).get i = getV e.fr C i := look_st C e.fr i

def condOK (C : Cnd) (a : Act) : Prop := ∀ p ∈ C, a.tmps.getD p.1 undef = .bool p.2
/-- Known objects are unlike, and the others are others. -/
def ndO (objs : Ob) (base : Nat → Option (List AV)) : Prop := (objs.map (·.1)).Nodup ∧ ∀ i ∈ objs.map (·.1), base i = none
def Es.nd (e : Es) : Prop := ndO e.objs e.base

structure RelE (P : Program) (G : Gh) (n : Nat) (e : Es) (a : Act) (w : World) : Prop where
  size : a.tmps.size = n
  defers : a.defers = []
  slot : ∀ i, condOK (getE e.fr i).1 a → RelS P G w (.slot i) (getE e.fr i).2 (a.tmps.getD i undef)
  off : ∀ i, ¬ condOK (getE e.fr i).1 a → a.tmps.getD i undef = undef
  gs : ∀ i p, p ∈ (getE e.fr i).1 → p.1 ∈ e.gs
  loc : ∀ k cells, lookL e.loc k = some cells → Holds P G w (G.lb k) (.lb k) (.lc k) cells
  mem : RelM P G w (lay e.objs e.base)
  nd : e.nd

section
variable {P : Program} {n : Nat} {e : Es} {G : Gh} {a : Act} {w : World}
theorem condOK_sub {C D : Cnd} (h : condOK D a) (hs : subC C D = true) : condOK C a := fun p hp => h p (subC_iff hs p hp)
theorem RelE.st (h : RelE P G n e a w) {C : Cnd} (hC : condOK C a) : RelSt P G n (e.st C) a w := by
  refine ⟨h.size, h.defers, fun i => ?_, h.loc, h.mem⟩
  rw [st_get]
  unfold getV valE
  cases hs : subC (getE e.fr i).1 C with
  | true => exact h.slot i (condOK_sub hC hs)
  | false => exact RelV.any _
theorem condOK_nil : condOK [] a := fun p hp => by cases hp
/-- Without conditions. -/
def flatB : Fr → Bool
  | [] => true
  | (_, [], _) :: r => flatB r
  | (_, _ :: _, _) :: _ => false
theorem flatB_get : ∀ {fr : Fr}, flatB fr = true → ∀ i, (getE fr i).1 = []
  | [], _, i => rfl
  | (j, [], v) :: r, h, i => by
    simp only [getE]
    cases Nat.beq j i with
    | true => rfl
    | false => exact flatB_get (show flatB r = true from h) i
  | (j, _ :: _, v) :: r, h, i => by cases h
theorem RelE.of (hr : RelSt P G n (e.st []) a w) (hf : flatB e.fr = true) (hn : e.nd) : RelE P G n e a w := by
  refine ⟨hr.size, hr.defers, fun i _ => ?_, fun i h => ?_, fun i p hp => ?_, hr.loc, hr.mem, hn⟩
  · have := hr.slot i
    rw [st_get] at this
    unfold getV valE at this
    rw [flatB_get hf i] at this
    exact this
  · rw [flatB_get hf i] at h; exact absurd condOK_nil h
  · rw [flatB_get hf i] at hp; cases hp
end

/-- What holds between operations. -/
def RelC (P : Program) (G : Gh) (n : Nat) (e : Es) (a : Act) (w : World) : Prop := RelSt P G n (e.st []) a w ∧ e.nd

/-- Operations, told of by such states. -/
def COps (P : Program) (n : Nat) (ops : Array Oper) (l : List Oper) (e : Es) (Q : Es → Prop) : Prop :=
  ∀ (G : Gh) (a : Act) (w : World) (K : Exit → Act → World → Prop), RelE P G n e a w → Fix G w →
    (∀ e' G' a' w', Q e' → RelC P G' n e' a' w' → Keep G w G' w' → K .normal a' w') → wpList P ops K l a w
def CWp (P : Program) (n : Nat) (c : Code) (e : Es) (Q : Exit → Es → Prop) : Prop :=
  ∀ (G : Gh) (a : Act) (w : World) (K : Exit → Act → World → Prop), RelC P G n e a w → Fix G w →
    (∀ x e' G' a' w', Q x e' → RelC P G' n e' a' w' → Keep G w G' w' → K x a' w') → c.wp P K a w

section
variable {P : Program} {n : Nat} {e e' : Es} {ops : Array Oper} {l rest : List Oper} {o : Oper} {Q : Es → Prop} {QE : Exit → Es → Prop} {d : Nat}

theorem COps.nil (h : Q e) : COps P n ops [] e Q := fun G a w _K hr _hfx hK => hK e G a w h ⟨hr.st condOK_nil, hr.nd⟩ (Keep.refl _ _)
theorem CWp.region {id : Nat} (h : COps P n ops ops.toList e (QE .normal)) (hf : flatB e.fr = true := by rfl) : CWp P n (.region id ops false) e QE := by
  intro G a w K hr hfx hK
  exact wp_region_list (h G a w K (RelE.of hr.1 hf hr.2) hfx fun e' G' a' w' hq hr' hk => hK _ _ _ _ _ hq hr' hk)

/-- What an operation hangs on. -/
def cndOf (ops : Array Oper) (fr : Fr) (o : Oper) : Option Cnd :=
  match o.guard with
  | none => some []
  | some (g, want) => match (ops[g]?).bind (·.dst) with
    | some t => some ((t, want) :: (getE fr t).1)
    | none => none

theorem wanted_iff {ops : Array Oper} {C : Cnd} {G : Gh} {a : Act} {w : World} (hr : RelE P G n e a w) (hC : cndOf ops e.fr o = some C) : (Region.wanted o (yielded ops a.tmps) = true → condOK C a) ∧
    (Region.wanted o (yielded ops a.tmps) = false → ∃ t want r, C = (t, want) :: r ∧ a.tmps.getD t undef ≠ .bool want) := by
  unfold cndOf at hC
  unfold Region.wanted
  cases hg : o.guard with
  | none => rw [hg] at hC; cases hC; exact ⟨fun _ => condOK_nil, fun h => by cases h⟩
  | some x =>
    obtain ⟨g, want⟩ := x
    rw [hg] at hC
    simp only at hC ⊢
    cases ht : (ops[g]?).bind (·.dst) with
    | none => rw [ht] at hC; cases hC
    | some t =>
      rw [ht] at hC
      cases hC
      have hy : yielded ops a.tmps g = match a.tmps[t]? with | some (.bool b) => some b | _ => none := by
        unfold yielded
        rw [ht]
        rfl
      have hD : a.tmps.getD t undef = (a.tmps[t]?).getD undef := Array.getD_eq_getD_getElem? ..
      constructor
      · intro h
        have hv : a.tmps.getD t undef = .bool want := by
          rw [hy] at h
          rw [hD]
          cases hx : a.tmps[t]? with
          | none => rw [hx] at h; simp at h
          | some y =>
            rw [hx] at h
            cases y <;> simp at h
            subst h; rfl
        intro p hp
        rcases List.mem_cons.1 hp with h1 | h1
        · subst h1; exact hv
        · refine Classical.byContradiction fun hne => ?_
          have := hr.off t (fun hc => hne (hc p h1))
          rw [this] at hv; cases hv
      · intro h
        refine ⟨t, want, _, rfl, fun hv => ?_⟩
        rw [hy] at h
        rw [hD] at hv
        cases hx : a.tmps[t]? with
        | none => rw [hx] at hv; cases hv
        | some y =>
          rw [hx] at hv h
          simp only [Option.getD_some] at hv
          subst hv
          simp at h

def gsOf (C : Cnd) (gs : List Nat) : List Nat := match C with | [] => gs | (t, _) :: _ => t :: gs
def Es.put (e : Es) (d : Nat) (C : Cnd) (v : AV) : Es := { e with fr := (d, C, v) :: e.fr, gs := gsOf C e.gs }

theorem getE_put {e : Es} {d : Nat} {C : Cnd} {v : AV} (i : Nat) : getE (e.put d C v).fr i = if i = d then (C, v) else getE e.fr i := by
  show getE ((d, C, v) :: e.fr) i = _
  simp only [getE]
  cases h : Nat.beq d i with
  | true => rw [if_pos (Nat.eq_of_beq_eq_true h).symm]; rfl
  | false => rw [if_neg (fun e => by subst e; rw [Nat.beq_refl] at h; cases h)]; rfl

theorem RelE.put {G : Gh} {a : Act} {w : World} {C : Cnd} {v : AV} {u : Value} (hr : RelE P G n e a w) (hC : cndOf ops e.fr o = some C) (hn : d < n) (hg : d ∉ gsOf C e.gs) (h1 : condOK C a → RelS P G w (.slot d) v u) (h2 : ¬ condOK C a → u = undef) :
    RelE P G n (e.put d C v) (a.put (some d) u) w := by
  have hget : ∀ i, (a.put (some d) u).tmps.getD i undef = if i = d then u else a.tmps.getD i undef := fun i => getD_put a d i u (by rw [hr.size]; exact hn)
  have hgC : ∀ p ∈ C, p.1 ∈ gsOf C e.gs := by
    intro p hp
    unfold cndOf at hC
    split at hC
    · cases hC; cases hp
    · rename_i g want _
      split at hC
      · rename_i t _
        cases hC
        rcases List.mem_cons.1 hp with h | h
        · subst h; exact List.mem_cons_self ..
        · exact List.mem_cons_of_mem _ (hr.gs t p h)
      · cases hC
  have hsub : ∀ x ∈ e.gs, x ∈ gsOf C e.gs := by
    intro x hx
    cases C with
    | nil => exact hx
    | cons p r => exact List.mem_cons_of_mem _ hx
  have hck : ∀ D : Cnd, (∀ p ∈ D, p.1 ∈ gsOf C e.gs) → (condOK D (a.put (some d) u) ↔ condOK D a) := by
    intro D hD
    constructor <;> intro h p hp <;> have := h p hp <;> have hne : p.1 ≠ d := (fun e => hg (e ▸ hD p hp))
    · rw [hget, if_neg hne] at this; exact this
    · rw [hget, if_neg hne]; exact this
  have hcd : ∀ i, ∀ p ∈ (getE (e.put d C v).fr i).1, p.1 ∈ gsOf C e.gs := by
    intro i p hp
    rw [getE_put] at hp
    split at hp
    · exact hgC p hp
    · exact hsub _ (hr.gs i p hp)
  refine ⟨by simp [Act.put, hr.size], by simpa [Act.put] using hr.defers, fun i hc => ?_, fun i hc => ?_, hcd, hr.loc, hr.mem, hr.nd⟩
  · rw [hck _ (hcd i)] at hc
    rw [hget]
    rw [getE_put] at hc ⊢
    by_cases hi : i = d
    · subst hi
      rw [if_pos rfl] at hc
      rw [if_pos rfl, if_pos rfl]
      exact h1 hc
    · rw [if_neg hi] at hc
      rw [if_neg hi, if_neg hi]
      exact hr.slot i hc
  · rw [hck _ (hcd i)] at hc
    rw [hget]
    rw [getE_put] at hc
    by_cases hi : i = d
    · subst hi
      rw [if_pos rfl] at hc
      rw [if_pos rfl]
      exact h2 hc
    · rw [if_neg hi] at hc
      rw [if_neg hi]
      exact hr.off i hc

theorem hcg {G : Gh} {a : Act} {w : World} {C : Cnd} (hr : RelE P G n e a w) (hC : cndOf ops e.fr o = some C) : ∀ p ∈ C, p.1 ∈ gsOf C e.gs := by
  intro p hp
  unfold cndOf at hC
  split at hC
  · cases hC; cases hp
  · rename_i g want _
    split at hC
    · rename_i t _
      cases hC
      rcases List.mem_cons.1 hp with h | h
      · subst h; exact List.mem_cons_self ..
      · exact List.mem_cons_of_mem _ (hr.gs t p h)
    · cases hC
theorem mem_of_not {d : Nat} {C : Cnd} {gs : List Nat} (h : memN d (gsOf C gs) = false) : d ∉ gsOf C gs := memN_not h

/-- An operation that yields one value, under whatever conditions. -/
theorem COps.yield {C : Cnd} {v : AV} (hC : cndOf ops e.fr o = some C) (hd : o.dst = some d) (hn : d < n) (hg : memN d (gsOf C e.gs) = false)
    (h : ∀ (G : Gh) (a : Act) (w : World), RelE P G n e a w → condOK C a → ∃ u, RelS P G w (.slot d) v u ∧ (execOp a.eval o).run P w = .ok (.value u) w) (k : COps P n ops rest (e.put d C v) Q) : COps P n ops (o :: rest) e Q := by
  intro G a w K hr hfx hK
  have hw := wanted_iff hr hC
  simp only [wpList]
  cases hx : Region.wanted o (yielded ops a.tmps) with
  | true =>
    rw [if_pos rfl]
    left
    obtain ⟨u, hu, hrun⟩ := h G a w hr (hw.1 hx)
    unfold Oper.wp
    rw [hrun, Oper.upon_value, hd]
    exact k G _ w K (hr.put hC hn (mem_of_not hg) (fun _ => hu) (fun hc => absurd (hw.1 hx) hc)) hfx hK
  | false =>
    rw [if_neg (by simp), hd]
    refine k G _ w K (hr.put hC hn (mem_of_not hg) (fun hc => ?_) (fun _ => rfl)) hfx hK
    obtain ⟨t, want, r, rfl, hne⟩ := hw.2 hx
    exact absurd (hc _ (List.mem_cons_self ..)) hne

/-- What holds of truths where an operation is done. -/
def truthsP (fr : Fr) (C : Cnd) : Cnd → Prop
  | [] => True
  | (t, w) :: r => (∀ b, getV fr C t = .lit (.bool b) → b = w) ∧ truthsP fr C r
theorem truthsP_of {G : Gh} {a : Act} {w : World} {C : Cnd} (hr : RelSt P G n (e.st C) a w) : ∀ {D : Cnd}, condOK D a → truthsP e.fr C D
  | [], _ => trivial
  | (t, v) :: r, h => ⟨fun b hb => by
    have h1 := hr.slot t
    rw [st_get, hb] at h1
    have h2 := RelS.lit h1
    rw [h _ (List.mem_cons_self ..)] at h2
    cases h2; rfl, truthsP_of hr fun p hp => h p (List.mem_cons_of_mem _ hp)⟩
theorem COps.readG {C : Cnd} {v : AV} (hC : cndOf ops e.fr o = some C) (hd : o.dst = some d) (hn : d < n) (hg : memN d (gsOf C e.gs) = false) (h : truthsP e.fr C C → Reader P n (e.st C) o d v) (k : COps P n ops rest (e.put d C v) Q) : COps P n ops (o :: rest) e Q := by
  refine COps.yield hC hd hn hg (fun G a w hr hc => ?_) k
  obtain ⟨u, hu, hrun⟩ := h (truthsP_of (hr.st hc) hc) G a w (hr.st hc)
  exact ⟨u, hu, hrun w (Below.refl _ _)⟩
theorem COps.read {C : Cnd} {v : AV} (hC : cndOf ops e.fr o = some C) (hd : o.dst = some d) (hn : d < n) (hg : memN d (gsOf C e.gs) = false) (h : Reader P n (e.st C) o d v) (k : COps P n ops rest (e.put d C v) Q) : COps P n ops (o :: rest) e Q := by
  refine COps.yield hC hd hn hg (fun G a w hr hc => ?_) k
  obtain ⟨u, hu, hrun⟩ := h G a w (hr.st hc)
  exact ⟨u, hu, hrun w (Below.refl _ _)⟩

/-- All hang on no more than that. -/
def subF (C : Cnd) : Fr → Bool
  | [] => true
  | (_, D, _) :: r => bif subC D C then subF C r else false
theorem subF_get {C : Cnd} : ∀ {fr : Fr}, subF C fr = true → ∀ i, subC (getE fr i).1 C = true
  | [], _, i => by rfl
  | (j, D, v) :: r, h, i => by
    simp only [subF] at h
    simp only [getE]
    cases h1 : subC D C with
    | false => rw [h1] at h; cases h
    | true =>
      rw [h1] at h
      cases Nat.beq j i with
      | true => exact h1
      | false => exact subF_get h i
/-- What an operation hangs on are truths that are told. -/
def truths (fr : Fr) (C : Cnd) : Cnd → Bool
  | [] => true
  | (t, _) :: r => match getV fr C t with
    | .lit (.bool _) => truths fr C r
    | _ => false
theorem truths_get {fr : Fr} {C : Cnd} : ∀ {D : Cnd}, truths fr C D = true → ∀ p ∈ D, ∃ b, getV fr C p.1 = .lit (.bool b)
  | (t, w) :: r, h, p, hp => by
    simp only [truths] at h
    split at h
    · rename_i b hb
      rcases List.mem_cons.1 hp with h1 | h1
      · subst h1; exact ⟨b, hb⟩
      · exact truths_get h p h1
    · cases h
  | [], _, p, hp => by cases hp

/-- One that does more, under whatever conditions. -/
theorem COps.eff {C : Cnd} {v : AV} {s' : St} (hC : cndOf ops e.fr o = some C) (hd : o.dst = some d) (hn : d < n) (hg : memN d (gsOf C e.gs) = false) (hsub : subF C e.fr = true) (ht : truths e.fr C C = true)
    (h : truthsP e.fr C C → ∀ Q', AOps P n ops rest s' Q' → AOps P n ops ({ o with guard := none } :: rest) (e.st C) Q') (hs : s' = { e.st C with fr := (d, v) :: (e.st C).fr }) (k : COps P n ops rest (e.put d C v) Q) : COps P n ops (o :: rest) e Q := by
  subst hs
  intro G a w K hr hfx hK
  have hw := wanted_iff hr hC
  cases hx : Region.wanted o (yielded ops a.tmps) with
  | false =>
    simp only [wpList]
    rw [if_neg (by simp [hx]), hd]
    refine k G _ w K (hr.put hC hn (mem_of_not hg) (fun hc => ?_) (fun _ => rfl)) hfx hK
    obtain ⟨t, want, r, rfl, hne⟩ := hw.2 hx
    exact absurd (hc _ (List.mem_cons_self ..)) hne
  | true =>
    have hc := hw.1 hx
    have hrs := hr.st hc
    have key := h (truthsP_of hrs hc) (fun s'' => ∃ e'', e''.st [] = s'' ∧ e''.nd ∧ Q e'') ?_ G a w K hrs hfx ?_
    · simp only [wpList] at key ⊢
      rw [if_pos hx]
      rw [if_pos (show Region.wanted { o with guard := none } (yielded ops a.tmps) = true from rfl)] at key
      exact key
    · intro G1 a1 w1 K1 hr1 hfx1 hK1
      have hc1 : condOK C a1 := by
        intro p hp
        obtain ⟨b, hb⟩ := truths_get ht p hp
        have h1 := hrs.slot p.1
        rw [st_get, hb] at h1
        have h2 := RelS.lit h1
        rw [hc p hp] at h2
        cases h2
        have hne : p.1 ≠ d := by
          intro he
          refine mem_of_not hg (he ▸ ?_)
          have := hcg hr hC p hp
          exact this
        have h3 := hr1.slot p.1
        have e1 : St.get { e.st C with fr := (d, v) :: (e.st C).fr } p.1 = (e.st C).get p.1 := by
          show look .any ((d, v) :: (e.st C).fr) p.1 = _
          simp only [look]; rw [if_neg (Ne.symm hne)]; rfl
        rw [e1, st_get, hb] at h3
        exact RelS.lit h3
      refine k G1 a1 w1 K1 ⟨hr1.size, hr1.defers, fun i _ => ?_, fun i hne => ?_, fun i p hp => ?_, hr1.loc, hr1.mem, hr.nd⟩ hfx1 (fun e2 G2 a2 w2 hq hr2 hk2 => hK1 _ G2 a2 w2 ⟨e2, rfl, hr2.2, hq⟩ hr2.1 hk2)
      · have h3 := hr1.slot i
        rw [getE_put]
        by_cases hi : i = d
        · subst hi
          rw [if_pos rfl]
          have e1 : St.get { e.st C with fr := (i, v) :: (e.st C).fr } i = v := by
            show look .any ((i, v) :: (e.st C).fr) i = _
            simp [look]
          rw [e1] at h3; exact h3
        · rw [if_neg hi]
          have e1 : St.get { e.st C with fr := (d, v) :: (e.st C).fr } i = (e.st C).get i := by
            show look .any ((d, v) :: (e.st C).fr) i = _
            simp only [look]; rw [if_neg (Ne.symm hi)]; rfl
          rw [e1, st_get] at h3
          unfold getV valE at h3
          rw [subF_get hsub i] at h3
          exact h3
      · refine absurd ?_ hne
        rw [getE_put]
        split
        · exact hc1
        · exact condOK_sub hc1 (subF_get hsub i)
      · rw [getE_put] at hp
        split at hp
        · exact hcg hr hC p hp
        · have := hr.gs i p hp
          cases C with
          | nil => exact this
          | cons q r => exact List.mem_cons_of_mem _ this
    · rintro s'' G' a' w' ⟨e'', rfl, hn2, hq⟩ hr' hk
      exact hK e'' G' a' w' hq ⟨hr', hn2⟩ hk

def addF : List (Nat × AV) → Fr → Fr
  | [], fr => fr
  | (i, v) :: r, fr => (i, [], v) :: addF r fr
theorem addF_st (fr : Fr) : ∀ add : List (Nat × AV), (addF add fr).map (fun p => (p.1, valE [] p.2)) = add ++ fr.map fun p => (p.1, valE [] p.2)
  | [] => rfl
  | (i, v) :: r => by
    simp only [addF, List.map_cons, List.cons_append]
    rw [addF_st fr r]; rfl
theorem addF_get {fr : Fr} (h : ∀ i, (getE fr i).1 = []) : ∀ (add : List (Nat × AV)) (i : Nat), (getE (addF add fr) i).1 = []
  | [], i => h i
  | (j, v) :: r, i => by
    simp only [addF, getE]
    cases Nat.beq j i with
    | true => rfl
    | false => exact addF_get h r i

/-- One that does whatever, under no condition. -/
theorem COps.eff0 {add : List (Nat × AV)} {loc' : List (Nat × List AV)} {objs' : Ob} (hgs : e.gs = []) (h : ∀ Q', AOps P n ops rest ⟨add ++ (e.st []).fr, loc', lay objs' e.base⟩ Q' → AOps P n ops (o :: rest) (e.st []) Q')
    (hi : e.nd → ndO objs' e.base) (k : COps P n ops rest ⟨addF add e.fr, [], loc', objs', e.base⟩ Q) : COps P n ops (o :: rest) e Q := by
  intro G a w K hr hfx hK
  have hfl : ∀ i, (getE e.fr i).1 = [] := by
    intro i
    cases hx : (getE e.fr i).1 with
    | nil => rfl
    | cons p r =>
      have := hr.gs i p (by rw [hx]; exact List.mem_cons_self ..)
      rw [hgs] at this; cases this
  refine h (fun s'' => ∃ e'', e''.st [] = s'' ∧ e''.nd ∧ Q e'') ?_ G a w K (hr.st condOK_nil) hfx ?_
  · intro G1 a1 w1 K1 hr1 hfx1 hK1
    have hst : (⟨addF add e.fr, [], loc', objs', e.base⟩ : Es).st [] = ⟨add ++ (e.st []).fr, loc', lay objs' e.base⟩ := by
      unfold Es.st
      rw [addF_st]
    have hf' := addF_get hfl add
    refine k G1 a1 w1 K1 ⟨hr1.size, hr1.defers, fun i _ => ?_, fun i hne => ?_, fun i p hp => ?_, hr1.loc, hr1.mem, hi hr.nd⟩ hfx1 (fun e2 G2 a2 w2 hq hr2 hk2 => hK1 _ G2 a2 w2 ⟨e2, rfl, hr2.2, hq⟩ hr2.1 hk2)
    · have h3 := hr1.slot i
      rw [← hst, st_get] at h3
      unfold getV valE at h3
      rw [show (getE (addF add e.fr) i).1 = [] from hf' i] at h3
      exact h3
    · rw [show (getE (addF add e.fr) i).1 = [] from hf' i] at hne
      exact absurd condOK_nil hne
    · rw [show (getE (addF add e.fr) i).1 = [] from hf' i] at hp; cases hp
  · rintro s'' G' a' w' ⟨e'', rfl, hn2, hq⟩ hr' hk
    exact hK e'' G' a' w' hq ⟨hr', hn2⟩ hk

/-- A value's head is told. -/
def AV.force {α : Type _} (v : AV) (k : AV → α) : α :=
  match v with
  | .any => k .any
  | .lit v => k (.lit v)
  | .str l => k (.str l)
  | .lptr a b => k (.lptr a b)
  | .gptr a b => k (.gptr a b)
  | .gmap a => k (.gmap a)
  | .gsl a b c d => k (.gsl a b c d)
  | .eptr x a => k (.eptr x a)
  | .list o E xs => k (.list o E xs)
  | .agg cs => k (.agg cs)
  | .tuple cs => k (.tuple cs)
  | .fn f c => k (.fn f c)
  | .fnm f c => k (.fnm f c)
  | .pin x v => k (.pin x v)
theorem AV.force_eq {α : Type _} (v : AV) (k : AV → α) : v.force k = k v := by cases v <;> rfl
def forceL {α : Type _} : List AV → (List AV → α) → α
  | [], k => k []
  | c :: r, k => c.force fun c => forceL r fun r => k (c :: r)
theorem forceL_eq {α : Type _} : ∀ (l : List AV) (k : List AV → α), forceL l k = k l
  | [], k => rfl
  | c :: r, k => by unfold forceL; rw [AV.force_eq, forceL_eq r]

/-- Fewer slots and blocks are spoken of, and under no conditions. -/
def keepF {α : Type _} (fr : Fr) : List Nat → (Fr → α) → α
  | [], k => k []
  | i :: r, k => (getV fr [] i).force fun v => keepF fr r fun q => k ((i, [], v) :: q)
def keepL {α : Type _} (loc : List (Nat × List AV)) : List Nat → (List (Nat × List AV) → Option α) → Option α
  | [], k => k []
  | i :: r, k => match lookL loc i with
    | some cs => keepL loc r fun q => k ((i, cs) :: q)
    | none => none
def keepE : Es → List Nat → List Nat → Option Es
  | ⟨fr, _, loc, objs, base⟩, ls, ks => keepF fr ls fun fr => keepL loc ks fun loc => some ⟨fr, [], loc, objs, base⟩
theorem keepF_eq {α : Type _} (fr : Fr) : ∀ (ls : List Nat) (k : Fr → α), keepF fr ls k = k (ls.map fun i => (i, [], getV fr [] i))
  | [], k => rfl
  | i :: r, k => by unfold keepF; rw [AV.force_eq, keepF_eq fr r]; rfl
theorem keepL_eq {α : Type _} (loc : List (Nat × List AV)) : ∀ (ks : List Nat) (k : List (Nat × List AV) → Option α) (x : α), keepL loc ks k = some x → k (ks.filterMap fun i => (lookL loc i).map fun c => (i, c)) = some x
  | [], k, x, h => h
  | i :: r, k, x, h => by
    unfold keepL at h
    cases hc : lookL loc i with
    | none => rw [hc] at h; cases h
    | some cs =>
      rw [hc] at h
      have := keepL_eq loc r _ x h
      rw [List.filterMap_cons, hc]
      exact this
theorem keepE_eq {ls ks : List Nat} (h : keepE e ls ks = some e') : e' = ⟨ls.map fun i => (i, [], getV e.fr [] i), [], ks.filterMap fun i => (lookL e.loc i).map fun c => (i, c), e.objs, e.base⟩ := by
  obtain ⟨fr, gs, loc, objs, base⟩ := e
  unfold keepE at h
  simp only at h
  rw [keepF_eq] at h
  have := keepL_eq loc ks _ e' h
  exact (Option.some.inj this).symm
theorem keepE_st {ls ks : List Nat} (h : keepE e ls ks = some e') : e'.st [] = (e.st []).keep ls ks := by
  rw [keepE_eq h]
  unfold Es.st St.keep
  simp only [List.map_map]
  congr 1
  apply List.map_congr_left
  intro i _
  show (i, valE [] ([], getV e.fr [] i)) = (i, St.get (e.st []) i)
  rw [st_get]; rfl
theorem RelC.keep {G : Gh} {a : Act} {w : World} {ls ks : List Nat} (hr : RelC P G n e a w) (h : keepE e ls ks = some e') : RelC P G n e' a w := by
  refine ⟨?_, ?_⟩
  · rw [keepE_st h]; exact hr.1.keep ls ks
  · rw [keepE_eq h]; exact hr.2
theorem keepE_flat {ls ks : List Nat} (h : keepE e ls ks = some e') : flatB e'.fr = true := by
  rw [keepE_eq h]
  clear h
  show flatB (ls.map _) = true
  induction ls with
  | nil => rfl
  | cons a r ih => exact ih
theorem COps.keep (ls ks : List Nat) (h : keepE e ls ks = some e') (k : COps P n ops l e' Q) : COps P n ops l e Q := by
  intro G a w K hr hfx hK
  have := RelC.keep ⟨hr.st condOK_nil, hr.nd⟩ h
  exact k G a w K (RelE.of this.1 (keepE_flat h) this.2) hfx hK
theorem COps.done (ls ks : List Nat) (h : keepE e ls ks = some e') (k : Q e') : COps P n ops [] e Q := COps.keep ls ks h (COps.nil k)
theorem CWp.keep {c : Code} (ls ks : List Nat) (h : keepE e ls ks = some e') (k : CWp P n c e' QE) : CWp P n c e QE := fun G a w K hr hfx hK => k G a w K (hr.keep h) hfx hK

theorem CWp.seq {x y : Code} (h : CWp P n x e fun z e' => match z with | .normal => CWp P n y e' QE | z => QE z e') : CWp P n (.seq x y) e QE := by
  intro G a w K hr hfx hK
  refine wp_seq (h G a w _ hr hfx ?_)
  intro z e' G' a' w' hq hr' hk
  cases z with
  | normal => exact hq G' a' w' K hr' (hfx.keep hk) fun z s2 G2 a2 w2 hq2 hr2 hk2 => hK z s2 G2 a2 w2 hq2 hr2 (hk.trans hk2)
  | _ => exact hK _ e' G' a' w' hq hr' hk
theorem CWp.skip (h : QE .normal e) : CWp P n .skip e QE := by
  intro G a w K hr hfx hK
  exact wp_skip (hK _ _ _ _ _ h hr (Keep.refl _ _))
theorem CWp.ret (h : QE .ret e) : CWp P n .ret e QE := by
  intro G a w K hr hfx hK
  exact wp_ret (hK _ _ _ _ _ h hr (Keep.refl _ _))
theorem CWp.exit {id : Nat} (h : QE (.exit id) e) : CWp P n (.exit id) e QE := by
  intro G a w K hr hfx hK
  exact wp_exit (hK _ _ _ _ _ h hr (Keep.refl _ _))
theorem CWp.block {id : Nat} {c : Code} (h : CWp P n c e fun z e' => match z with | .exit id' => bif Nat.beq id' id then QE .normal e' else QE (.exit id') e' | z => QE z e') : CWp P n (.block id c) e QE := by
  intro G a w K hr hfx hK
  refine wp_block (h G a w _ hr hfx ?_)
  intro z e' G' a' w' hq hr' hk
  cases z with
  | exit id' =>
    simp only [Exit.inBlock]
    cases hb : Nat.beq id' id with
    | true => rw [if_pos (Nat.eq_of_beq_eq_true hb)]; simp only [hb, cond_true] at hq; exact hK _ _ _ _ _ hq hr' hk
    | false => rw [if_neg (fun he => by rw [he, Nat.beq_refl] at hb; cases hb)]; simp only [hb, cond_false] at hq; exact hK _ _ _ _ _ hq hr' hk
  | _ => exact hK _ _ _ _ _ hq hr' hk
/-- A branch, beside a function that branches so, too. -/
theorem CWp.cond {α : Type _} {c : Operand} {x y : Code} {b : Bool} {X Y : Option α} {r : α} (h : (bif b then X else Y) = some r) (hc : (match c with | .tmp t => getV e.fr [] t | _ => .any) = .lit (.bool b)) (hT : X = some r → CWp P n x e QE) (hF : Y = some r → CWp P n y e QE) : CWp P n (.cond c x y) e QE := by
  intro G a w K hr hfx hK
  have hv : a.eval c = .bool b := by
    cases c with
    | tmp t => refine hr.1.evLit (x := .tmp t) ?_; rw [← hc]; exact st_get e [] t
    | _ => cases hc
  cases b with
  | true => exact wp_cond_true hv (hT h G a w K hr hfx hK)
  | false => exact wp_cond_false hv (hF h G a w K hr hfx hK)
theorem CWp.mid {x y : Code} (I : Es → Prop) (h : CWp P n x e fun z e' => match z with | .normal => I e' | z => QE z e') (k : ∀ e', I e' → CWp P n y e' QE) : CWp P n (.seq x y) e QE := by
  refine CWp.seq fun G a w K hr hfx hK => h G a w K hr hfx fun z e' G' a' w' hq hr' hk => ?_
  cases z with
  | normal => exact hK .normal e' G' a' w' (k e' hq) hr' hk
  | _ => exact hK _ e' G' a' w' hq hr' hk
/-- A loop, beside a function of a number that counts down. -/
theorem CWp.loop (I : Nat → Es → Prop) (m : Nat) {c : Code} (h0 : I m e) (hr : ∀ m e, I (m + 1) e → CWp P n c e fun z e' => match z with | .normal => I m e' | z => QE z e') (hz : ∀ e, ¬ I 0 e) : CWp P n (.loop c) e QE := by
  intro G a w K hrel hfx hK
  refine wp_loop_ind (fun m a' w' => ∃ e' G', I m e' ∧ RelC P G' n e' a' w' ∧ Keep G w G' w') m ⟨e, G, h0, hrel, Keep.refl _ _⟩ ?_
  rintro m1 a1 w1 ⟨e1, G1, hi, hr1, hk1⟩
  cases m1 with
  | zero => exact absurd hi (hz e1)
  | succ m1 =>
    refine hr m1 e1 hi G1 a1 w1 _ hr1 (hfx.keep hk1) ?_
    intro z e2 G2 a2 w2 hq hr2 hk2
    cases z with
    | normal => exact ⟨m1, Nat.lt_succ_self m1, e2, G2, hq, hr2, hk1.trans hk2⟩
    | _ => exact hK _ e2 G2 a2 w2 hq hr2 (hk1.trans hk2)
end
end
section
open Go.RowKit

inductive TK where
  | bool | int (k : IntKind) | float (k : FloatKind) | str | ptr (E : Nat) | slice (E : Nat) | arr (n E : Nat) | struct (fs : List (Nat × Nat)) | other
def kOf : TypeDesc → TK
  | .bool => .bool
  | .int k => .int k
  | .float k => .float k
  | .string => .str
  | .pointer E => .ptr E
  | .slice E => .slice E
  | .array n E => .arr n E
  | .struct fs => .struct (fs.toList.map fun f => (f.offset, f.type))
  | _ => .other
def TK.agg : TK → Bool
  | .struct _ | .arr _ _ => true
  | _ => false
theorem kOf_agg (D : TypeDesc) : TypeDesc.agg D = (kOf D).agg := by cases D <;> rfl

abbrev Tab := List (Nat × TK × Nat)
def Tab.look : Tab → Nat → Option (TK × Nat)
  | [], _ => none
  | (t, x) :: r, u => bif Nat.beq t u then some x else Tab.look r u
def TabOK (P : Program) : Tab → Prop
  | [] => True
  | (t, k, s) :: r => ((∃ D, P.underlying t = some D ∧ kOf D = k) ∧ SizeOf P t s) ∧ TabOK P r
theorem Tab.ok {P : Program} {t : Nat} {k : TK} {s : Nat} : ∀ {T : Tab}, TabOK P T → T.look t = some (k, s) → (∃ D, P.underlying t = some D ∧ kOf D = k) ∧ SizeOf P t s
  | (u, k', s') :: r, h, hl => by
    simp only [Tab.look] at hl
    cases e : Nat.beq u t with
    | true => rw [e] at hl; cases hl; rw [← Nat.eq_of_beq_eq_true e]; exact h.1
    | false => rw [e] at hl; exact Tab.ok h.2 hl
  | [], _, hl => by cases hl

def evE (fr : Fr) (C : Cnd) : Operand → AV
  | .tmp t => getV fr C t
  | .const v => ofConst v
  | .func f => .fn f []
  | .global _ => .any
theorem evE_eq (e : Es) (C : Cnd) (x : Operand) : evE e.fr C x = (e.st C).eval x := by
  cases x with
  | tmp t => exact (st_get e C t).symm
  | _ => rfl

/-- Shifts. -/
abbrev shlI (k : IntKind) (i j : Int) : Int := k.wrap (i * 2 ^ (min j.toNat k.bits))
abbrev shrI (k : IntKind) (i j : Int) : Int := i.fdiv (2 ^ (min j.toNat k.bits))
abbrev w64 (x : Int) : Int := IntKind.i64.wrap x

def intK (op : BinOp) (k : IntKind) (i j : Int) : Option Value :=
  match op with
  | .add => some (.int k (k.wrap (i + j)))
  | .sub => some (.int k (k.wrap (i - j)))
  | .mul => some (.int k (k.wrap (i * j)))
  | .eql => some (.bool (i == j))
  | .neq => some (.bool (i != j))
  | .lss => some (.bool (decide (i < j)))
  | .leq => some (.bool (decide (i ≤ j)))
  | .gtr => some (.bool (decide (i > j)))
  | .geq => some (.bool (decide (i ≥ j)))
  | .and => some (.int k (k.wrap (BitVec.ofInt k.bits i &&& BitVec.ofInt k.bits j).toNat))
  | .or => some (.int k (k.wrap (BitVec.ofInt k.bits i ||| BitVec.ofInt k.bits j).toNat))
  | .xor => some (.int k (k.wrap (BitVec.ofInt k.bits i ^^^ BitVec.ofInt k.bits j).toNat))
  | _ => none
theorem intK_eq (op : BinOp) (k : IntKind) (i j : Int) : intK op k i j = intBin op k i j := by cases op <;> rfl

/-- Two numbers; the second may be a constant. -/
def vInt (op : BinOp) (cy : Bool) (k k' : IntKind) (i j : Int) : Option AV :=
  match op with
  | .quo => bif cy && (decide (k = k') && !(j == 0)) then some (.lit (.int k (k.wrap (i.tdiv j)))) else none
  | .rem => bif cy && (decide (k = k') && !(j == 0)) then some (.lit (.int k (i.tmod j))) else none
  | .shl => bif cy && decide (0 ≤ j) then some (.lit (.int k (shlI k i j))) else none
  | .shr => bif cy && decide (0 ≤ j) then some (.lit (.int k (shrI k i j))) else none
  | .andNot => bif decide (k = k') then some (.lit (.int k (k.wrap (BitVec.ofInt k.bits i &&& ~~~BitVec.ofInt k.bits j).toNat))) else none
  | op => bif decide (k = k') then (match intK op k i j with | some v => some (.lit v) | none => none) else none

def fltK (op : BinOp) (k : FloatKind) (a b : Nat) : Option Bool :=
  match op with
  | .eql => some (k.format.order a b == some .eq)
  | .neq => some (k.format.order a b != some .eq)
  | .lss => some (k.format.order a b == some .lt)
  | .leq => some (k.format.order a b == some .lt || k.format.order a b == some .eq)
  | .gtr => some (k.format.order a b == some .gt)
  | .geq => some (k.format.order a b == some .gt || k.format.order a b == some .eq)
  | _ => none

def vBin (T : Tab) (op : BinOp) (t : Nat) (cy : Bool) (x y : AV) : Option AV :=
  match x with
  | .lit (.int k i) => match y with
    | .lit (.int k' j) => vInt op cy k k' i j
    | _ => none
  | .lit (.bool a) => match y with
    | .lit (.bool b) => match T.look t with
      | some (.bool, _) => match op with
        | .eql => some (.lit (.bool (a == b)))
        | .neq => some (.lit (.bool (!(a == b))))
        | _ => none
      | _ => none
    | _ => none
  | .lit (.float k a) => match y with
    | .lit (.float k' b) => bif decide (k = k') then (match fltK op k a b with | some b => some (.lit (.bool b)) | none => none) else none
    | _ => none
  | .str l => match y with
    | .str m => match strBin op l m with | some b => some (.lit (.bool b)) | none => none
    | _ => none
  | _ => none

def isC : Operand → Bool
  | .const _ => true
  | _ => false

section
variable {P : Program} {n : Nat} {s : St} {o : Oper} {d : Nat} {t t' : TypeId} {x y : Operand} {T : Tab} {op : BinOp} {v : AV}
theorem Reader.flt {k : FloatKind} {a b : Nat} {r : Bool} (ho : o.op = .binOp op t x y t') (hx : s.eval x = .lit (.float k a)) (hy : s.eval y = .lit (.float k b)) (hr : fltK op k a b = some r) : Reader P n s o d (.lit (.bool r)) := by
  intro G ac w h
  refine ⟨_, lit_toS _, fun w' _ => ?_⟩
  simp only [execOp, ho, h.evLit hx, h.evLit hy]
  unfold fltK at hr
  split at hr <;> first | (cases hr; done) | (cases hr; simp [eqGuard, binOp, Op.floatCmp])

theorem Reader.andNot {k : IntKind} {i j : Int} (ho : o.op = .binOp .andNot t x y t') (hx : s.eval x = .lit (.int k i)) (hy : s.eval y = .lit (.int k j)) : Reader P n s o d (.lit (.int k (k.wrap (BitVec.ofInt k.bits i &&& ~~~BitVec.ofInt k.bits j).toNat))) := by
  intro G a w h
  refine ⟨_, lit_toS _, fun w' _ => ?_⟩
  simp only [execOp, ho, h.evLit hx, h.evLit hy]
  simp [eqGuard, binOp, Op.intBits]
theorem vInt_ok {cy : Bool} {k k' : IntKind} {i j : Int} (ho : o.op = .binOp op t x y t') (hx : s.eval x = .lit (.int k i)) (hy : s.eval y = .lit (.int k' j)) (h : vInt op cy k k' i j = some v) : Reader P n s o d v := by
  unfold vInt at h
  split at h
  · cases hb : (cy && (decide (k = k') && !(j == 0))) with
    | false => rw [hb] at h; cases h
    | true =>
      rw [hb] at h
      cases h
      simp only [Bool.and_eq_true, decide_eq_true_eq, Bool.not_eq_true', beq_eq_false_iff_ne] at hb
      obtain ⟨_, rfl, hj⟩ := hb
      exact Reader.quo ho hx hy hj rfl
  · cases hb : (cy && (decide (k = k') && !(j == 0))) with
    | false => rw [hb] at h; cases h
    | true =>
      rw [hb] at h
      cases h
      simp only [Bool.and_eq_true, decide_eq_true_eq, Bool.not_eq_true', beq_eq_false_iff_ne] at hb
      obtain ⟨_, rfl, hj⟩ := hb
      exact Reader.rem ho hx hy hj rfl
  · cases hb : (cy && decide (0 ≤ j)) with
    | false => rw [hb] at h; cases h
    | true =>
      rw [hb] at h
      cases h
      simp only [Bool.and_eq_true, decide_eq_true_eq] at hb
      exact Reader.shift ho (.inl rfl) hx hy hb.2 (by rw [if_pos rfl])
  · cases hb : (cy && decide (0 ≤ j)) with
    | false => rw [hb] at h; cases h
    | true =>
      rw [hb] at h
      cases h
      simp only [Bool.and_eq_true, decide_eq_true_eq] at hb
      exact Reader.shift ho (.inr rfl) hx hy hb.2 (by rw [if_neg (by decide)])
  · cases hb : decide (k = k') with
    | false => rw [hb] at h; cases h
    | true =>
      rw [hb] at h
      have := of_decide_eq_true hb
      subst this
      cases h
      exact Reader.andNot ho hx hy
  · cases hb : decide (k = k') with
    | false => rw [hb] at h; cases h
    | true =>
      rw [hb] at h
      have := of_decide_eq_true hb
      subst this
      simp only [cond_true] at h
      split at h
      · rename_i r hr
        cases h
        rw [intK_eq] at hr
        exact Reader.int ho hx hy hr
      · cases h

theorem vBin_ok (hT : TabOK P T) {cy : Bool} (ho : o.op = .binOp op t x y t') (h : vBin T op t cy (s.eval x) (s.eval y) = some v) : Reader P n s o d v := by
  unfold vBin at h
  split at h
  · rename_i k i hx
    split at h
    · rename_i k' j hy; exact vInt_ok ho hx hy h
    · cases h
  · rename_i a hx
    split at h
    · rename_i b hy
      split at h
      · rename_i z hl
        obtain ⟨⟨D, hD, hk⟩, _⟩ := Tab.ok hT hl
        have hDb : D = .bool := by cases D <;> first | rfl | cases hk
        subst hDb
        split at h
        · cases h; exact Reader.bools ho hD hx hy (.inl ⟨rfl, rfl⟩)
        · cases h; exact Reader.bools ho hD hx hy (.inr ⟨rfl, rfl⟩)
        · cases h
      · cases h
    · cases h
  · rename_i k a hx
    split at h
    · rename_i k' b hy
      cases hb : decide (k = k') with
      | false => rw [hb] at h; cases h
      | true =>
        rw [hb] at h
        have := of_decide_eq_true hb
        subst this
        simp only [cond_true] at h
        split at h
        · rename_i r hr; cases h; exact Reader.flt ho hx hy hr
        · cases h
    · cases h
  · rename_i l hx
    split at h
    · rename_i m hy
      split at h
      · rename_i r hr; cases h; exact Reader.strs ho hx hy hr
      · cases h
    · cases h
  · cases h
end

def vUn (op : UnOp) (x : AV) : Option AV :=
  match op with
  | .not => match x with
    | .lit (.bool b) => some (.lit (.bool (!b)))
    | _ => none
  | .neg => match x with
    | .lit (.int k i) => some (.lit (.int k (k.wrap (0 - i))))
    | .lit (.float k b) => some (.lit (.float k (Op.negFloat k b)))
    | _ => none
  | _ => none

def vConv (T : Tab) (a b : Nat) (x : AV) : Option AV :=
  match x with
  | .lit (.int _ i) => match T.look b with
    | some (.int k', _) => match T.look a with
      | some (.int _, _) => some (.lit (.int k' (k'.wrap i)))
      | _ => none
    | some (.float k', _) => match T.look a with
      | some (.int _, _) => some (.lit (.float k' (k'.nearest i)))
      | _ => none
    | _ => none
  | .str l => match T.look b with
    | some (.str, _) => match T.look a with
      | some (.str, _) => some (.str l)
      | _ => none
    | _ => none
  | _ => none

/-- A part's place in cells. -/
def vLoad (T : Tab) (t : Nat) (cells : List AV) (k : Nat) : Option AV :=
  match T.look t with
  | some (K, size) => bif K.agg then (bif Nat.ble (k + size) cells.length then forceL ((cells.drop k).take size) fun l => forceL (l.map AV.un) fun l => some (.agg l) else none)
    else match cells[k]? with
      | some c => c.un.force some
      | none => none
  | none => none

def vFld (T : Tab) (t f : Nat) : Option Nat :=
  match T.look t with
  | some (.struct fs, _) => match fs[f]? with
    | some (off, ft) => match T.look ft with
      | some (_, size) => bif Nat.beq size 0 then none else some off
      | none => none
    | none => none
  | _ => none

def vIdx (T : Tab) (t : Nat) (i : AV) : Option Nat :=
  match T.look t with
  | some (.arr len E, _) => match i with
    | .lit (.int _ (.ofNat m)) => match T.look E with
      | some (_, size) => bif Nat.blt m len then some (m * size) else none
      | none => none
    | _ => none
  | _ => none

def addP (v : AV) (k : Nat) : Option AV :=
  match v with
  | .lptr b o => some (.lptr b (o + k))
  | .eptr x o => some (.eptr x (o + k))
  | .gptr b o => some (.gptr b (o + k))
  | _ => none

/-- A struct's field, an array's element, of a value. -/
def vPart (T : Tab) (ft off : Nat) (cs : List AV) : Option AV :=
  match T.look ft with
  | some (K, size) => bif K.agg then (bif Nat.ble (off + size) cs.length then forceL ((cs.drop off).take size) fun l => some (.agg l) else none)
    else match cs[off]? with
      | some c => c.un.force fun c => bif c.flat then some c else none
      | none => none
  | none => none

def vElem (K : TK) (size off : Nat) (cs : List AV) : Option AV :=
  bif K.agg then (bif Nat.ble (off + size) cs.length then forceL ((cs.drop off).take size) fun l => some (.agg l) else none)
  else match cs[off]? with
    | some c => c.force fun c => bif c.flat then some c else none
    | none => none
def isTmp : Operand → Bool
  | .tmp _ => true
  | _ => false

def i' (ev : Operand → AV) (i : Operand) : Option Nat := match ev i with
  | .lit (.int _ (.ofNat m)) => some m
  | _ => none
def stepV (T : Tab) (ev : Operand → AV) (loc : List (Nat × List AV)) (op : Op) : Option AV :=
  match op with
  | .move x => bif Operand.ok x then (ev x).un.force some else none
  | .assign x => bif Operand.ok x then (ev x).un.force some else none
  | .binOp op t x y _ => vBin T op t (isC y) (ev x) (ev y)
  | .unOp op _ x => vUn op (ev x)
  | .convert a b x => vConv T a b (ev x)
  | .fieldAddr t x f => match vFld T t f with
    | some k => addP (ev x) k
    | none => none
  | .indexAddr t x i => match vIdx T t (ev i) with
    | some k => addP (ev x) k
    | none => none
  | .load t x => match ev x with
    | .eptr e k => match vLoad T t e.cells k with
      | some v => bif v.flat then some v else none
      | none => none
    | .lptr b k => match lookL loc b with
      | some cs => match vLoad T t cs k with
        | some v => bif v.flat then some v else none
        | none => none
      | none => none
    | _ => none
  | .nilCheck x => match ev x with
    | .lptr b k => some (.lptr b k)
    | .gptr b k => some (.gptr b k)
    | .eptr e k => some (.eptr e k)
    | _ => none
  | .extract x m => match x with
    | .tmp t => match ev (.tmp t) with
      | .tuple cs => match cs[m]? with
        | some c => c.un.force fun c => bif c.flat then some c else none
        | none => none
      | _ => none
    | _ => none
  | .field t x f => bif isTmp x then (match ev x with
    | .agg cs => match T.look t with
      | some (.struct fs, _) => match fs[f]? with
        | some (off, ft) => vPart T ft off cs
        | none => none
      | _ => none
    | _ => none) else none
  | .index t x i => bif isTmp x then (match ev x with
    | .agg cs => match T.look t with
      | some (.arr len E, _) => match i' ev i with
        | some m => bif Nat.blt m len then (match T.look E with
          | some (K, size) => vElem K size (m * size) cs
          | none => none) else none
        | none => none
      | _ => none
    | _ => none) else none
  | .call c => match c.callee with
    | .builtin .max => match c.args.toList with
      | [x, y] => match ev x with
        | .lit (.int k i) => match ev y with
          | .lit (.int k' j) => bif decide (k = k') then some (.lit (.int k (max i j))) else none
          | _ => none
        | _ => none
      | _ => none
    | .builtin .min => match c.args.toList with
      | [x, y] => match ev x with
        | .lit (.int k i) => match ev y with
          | .lit (.int k' j) => bif decide (k = k') then some (.lit (.int k (min i j))) else none
          | _ => none
        | _ => none
      | _ => none
    | .builtin .len => match c.args.toList with
      | [x] => match ev x with
        | .str l => match c.argTypes.toList with
          | [t] => match T.look t with
            | some (.str, _) => some (.lit (.int .i64 (l.length : Int)))
            | _ => none
          | _ => none
        | _ => none
      | _ => none
    | _ => none
  | _ => none

section
variable {P : Program} {n : Nat} {s : St} {o : Oper} {d : Nat} {t t' : TypeId} {x y : Operand} {T : Tab} {op : BinOp} {v : AV}
theorem Reader.negF {k : FloatKind} {b : Nat} (ho : o.op = .unOp .neg t x) (hx : s.eval x = .lit (.float k b)) : Reader P n s o d (.lit (.float k (Op.negFloat k b))) := by
  intro G a w h
  refine ⟨_, lit_toS _, fun w' _ => ?_⟩
  simp only [execOp, ho, h.evLit hx]
  simp [Op.unary]
theorem vUn_ok {u : UnOp} (ho : o.op = .unOp u t x) (h : vUn u (s.eval x) = some v) : Reader P n s o d v := by
  unfold vUn at h
  split at h
  · split at h
    · rename_i b hx; cases h; exact Reader.not ho hx
    · cases h
  · split at h
    · rename_i k i hx; cases h; exact Reader.neg ho hx rfl
    · rename_i k b hx; cases h; exact Reader.negF ho hx
    · cases h
  · cases h
theorem Reader.convF {k : IntKind} {k' : FloatKind} {i : Int} {D : TypeDesc} (ho : o.op = .convert t t' x) (h1 : P.underlying t = some D) (h2 : P.underlying t' = some (.float k')) (hx : s.eval x = .lit (.int k i)) : Reader P n s o d (.lit (.float k' (k'.nearest i))) := by
  intro G a w h
  refine ⟨_, lit_toS _, fun w' _ => ?_⟩
  simp only [execOp, ho, h.evLit hx]
  simp only [convert, Sem.run_bind, run_underlying h1, run_underlying h2, Result.andThen]
  cases D <;> simp [Conv.intToFloat]
theorem Reader.convS {l : List UInt8} (ho : o.op = .convert t t' x) (h1 : P.underlying t = some .string) (h2 : P.underlying t' = some .string) (hx : s.eval x = .str l) : Reader P n s o d (.str l) := by
  intro G a w h
  refine ⟨_, RelV.str _, fun w' _ => ?_⟩
  simp only [execOp, ho, h.evStr hx]
  simp [convert, Sem.run_bind, run_underlying h1, run_underlying h2, Result.andThen]
theorem kOf_int {D : TypeDesc} {k : IntKind} (h : kOf D = .int k) : D = .int k := by cases D <;> first | (cases h; rfl) | cases h
theorem kOf_flt {D : TypeDesc} {k : FloatKind} (h : kOf D = .float k) : D = .float k := by cases D <;> first | (cases h; rfl) | cases h
theorem kOf_str {D : TypeDesc} (h : kOf D = .str) : D = .string := by cases D <;> first | rfl | cases h
theorem kOf_arr {D : TypeDesc} {m E : Nat} (h : kOf D = .arr m E) : D = .array m E := by cases D <;> first | (cases h; rfl) | cases h
theorem kOf_slice {D : TypeDesc} {E : Nat} (h : kOf D = .slice E) : D = .slice E := by cases D <;> first | (cases h; rfl) | cases h
theorem kOf_struct {D : TypeDesc} {fs : List (Nat × Nat)} (h : kOf D = .struct fs) : ∃ F, D = .struct F ∧ F.toList.map (fun f => (f.offset, f.type)) = fs := by
  cases D with
  | struct F => injection h with h; exact ⟨F, rfl, h⟩
  | _ => cases h
theorem vConv_ok (hT : TabOK P T) (ho : o.op = .convert t t' x) (h : vConv T t t' (s.eval x) = some v) : Reader P n s o d v := by
  unfold vConv at h
  split at h
  · rename_i k i hx
    split at h
    · rename_i k' z hl
      obtain ⟨⟨D, hD, hk⟩, _⟩ := Tab.ok hT hl
      have := kOf_int hk; subst this
      split at h
      · rename_i k2 z2 hl2
        obtain ⟨⟨D2, hD2, hk2⟩, _⟩ := Tab.ok hT hl2
        have := kOf_int hk2; subst this
        cases h
        exact Reader.conv ho hD2 hD (by simp) hx rfl
      · cases h
    · rename_i k' z hl
      obtain ⟨⟨D, hD, hk⟩, _⟩ := Tab.ok hT hl
      have := kOf_flt hk; subst this
      split at h
      · rename_i k2 z2 hl2
        obtain ⟨⟨D2, hD2, hk2⟩, _⟩ := Tab.ok hT hl2
        cases h
        exact Reader.convF ho hD2 hD hx
      · cases h
    · cases h
  · rename_i l hx
    split at h
    · rename_i z hl
      obtain ⟨⟨D, hD, hk⟩, _⟩ := Tab.ok hT hl
      have := kOf_str hk; subst this
      split at h
      · rename_i z2 hl2
        obtain ⟨⟨D2, hD2, hk2⟩, _⟩ := Tab.ok hT hl2
        have := kOf_str hk2; subst this
        cases h
        exact Reader.convS ho hD2 hD hx
      · cases h
    · cases h
  · cases h
theorem vLoad_ok (hT : TabOK P T) {cells : List AV} {k : Nat} (h : vLoad T t cells k = some v) : ∃ D size, P.underlying t = some D ∧ SizeOf P t size ∧ loaded (TypeDesc.agg D) size cells k = some v := by
  unfold vLoad at h
  split at h
  · rename_i K size hl
    obtain ⟨⟨D, hD, hk⟩, hs⟩ := Tab.ok hT hl
    refine ⟨D, size, hD, hs, ?_⟩
    unfold loaded
    rw [kOf_agg, hk]
    cases hA : K.agg with
    | true =>
      rw [hA] at h
      simp only [cond_true] at h
      cases hb : Nat.ble (k + size) cells.length with
      | false => rw [hb] at h; cases h
      | true =>
        rw [hb] at h
        simp only [cond_true, forceL_eq] at h
        rw [if_pos rfl, if_pos (Nat.le_of_ble_eq_true hb)]
        exact h
    | false =>
      rw [hA] at h
      simp only [cond_false] at h
      rw [if_neg (by decide)]
      split at h
      · rename_i c hc
        rw [AV.force_eq] at h
        rw [hc]; exact h
      · cases h
  · cases h
theorem fld_ok (hT : TabOK P T) {f k : Nat} (h : vFld T t f = some k) : ∃ ft size, fieldOf P t f k ft size ∧ size ≠ 0 := by
  unfold vFld at h
  split at h
  · rename_i fs z hl
    obtain ⟨⟨D, hD, hk⟩, _⟩ := Tab.ok hT hl
    obtain ⟨F, rfl, hF⟩ := kOf_struct hk
    split at h
    · rename_i off ft hf
      split at h
      · rename_i z2 size hl2
        obtain ⟨_, hs⟩ := Tab.ok hT hl2
        cases hb : Nat.beq size 0 with
        | true => rw [hb] at h; cases h
        | false =>
          rw [hb] at h
          cases h
          refine ⟨ft, size, ?_, fun e => by rw [e] at hb; cases hb⟩
          rw [← hF, List.getElem?_map] at hf
          cases hx : F.toList[f]? with
          | none => rw [hx] at hf; cases hf
          | some fl =>
            rw [hx] at hf
            simp only [Option.map_some, Option.some.injEq, Prod.mk.injEq] at hf
            obtain ⟨h1, h2⟩ := hf
            subst h2
            exact ⟨F, fl, hD, by simpa using hx, h1, rfl, hs⟩
      · cases h
    · cases h
  · cases h
theorem idx_ok (hT : TabOK P T) {i : AV} {k : Nat} (h : vIdx T t i = some k) : ∃ len E size m kk, P.underlying t = some (.array len E) ∧ SizeOf P E size ∧ i = .lit (.int kk (m : Nat)) ∧ m < len ∧ k = m * size := by
  unfold vIdx at h
  split at h
  · rename_i len E z hl
    obtain ⟨⟨D, hD, hk⟩, _⟩ := Tab.ok hT hl
    have := kOf_arr hk; subst this
    split at h
    · rename_i kk m
      split at h
      · rename_i z2 size hl2
        obtain ⟨_, hs⟩ := Tab.ok hT hl2
        cases hb : Nat.blt m len with
        | false => rw [hb] at h; cases h
        | true =>
          rw [hb] at h
          cases h
          exact ⟨len, E, size, m, kk, hD, hs, rfl, Nat.le_of_ble_eq_true hb, rfl⟩
      · cases h
    · cases h
  · cases h

theorem stepV_ok (hT : TabOK P T) {op : Op} (ho : o.op = op) (h : stepV T s.eval s.loc op = some v) : Reader P n s o d v := by
  subst ho
  unfold stepV at h
  split at h
  · rename_i x ho
    cases hb : Operand.ok x with
    | false => rw [hb] at h; cases h
    | true =>
      rw [hb] at h
      simp only [cond_true, AV.force_eq] at h
      exact Reader.move (.inl ho) (ok_const hb) (Option.some.inj h)
  · rename_i x ho
    cases hb : Operand.ok x with
    | false => rw [hb] at h; cases h
    | true =>
      rw [hb] at h
      simp only [cond_true, AV.force_eq] at h
      exact Reader.move (.inr ho) (ok_const hb) (Option.some.inj h)
  · rename_i ho; exact vBin_ok hT ho h
  · rename_i ho; exact vUn_ok ho h
  · rename_i ho; exact vConv_ok hT ho h
  · rename_i t x f ho
    split at h
    · rename_i k hf
      obtain ⟨ft, size, h1, h0⟩ := fld_ok hT hf
      unfold addP at h
      split at h
      · rename_i b oo hx; cases h; exact Reader.fieldL ho h1 h0 hx
      · rename_i b oo hx; cases h; exact Reader.fieldE ho h1 h0 hx
      · rename_i b oo hx; cases h; exact Reader.fieldG ho h1 h0 hx
      · cases h
    · cases h
  · rename_i t x i ho
    split at h
    · rename_i k hf
      obtain ⟨len, E, size, m, kk, h1, h2, h3, h4, rfl⟩ := idx_ok hT hf
      unfold addP at h
      split at h
      · rename_i b oo hx; cases h; exact Reader.indexL ho h1 h2 hx h3 rfl h4
      · rename_i b oo hx; cases h; exact Reader.indexE ho h1 h2 hx h3 rfl h4
      · rename_i b oo hx; cases h; exact Reader.indexG ho h1 h2 hx h3 rfl h4
      · cases h
    · cases h
  · rename_i t x ho
    split at h
    · rename_i e k hx
      split at h
      · rename_i v' hv
        obtain ⟨D, size, h1, h2, h3⟩ := vLoad_ok hT hv
        cases hb : v'.flat with
        | false => rw [hb] at h; cases h
        | true => rw [hb] at h; cases h; exact Reader.loadE ho h1 h2 hx h3 hb
      · cases h
    · rename_i b k hx
      split at h
      · rename_i cs hc
        split at h
        · rename_i v' hv
          obtain ⟨D, size, h1, h2, h3⟩ := vLoad_ok hT hv
          cases hb : v'.flat with
          | false => rw [hb] at h; cases h
          | true => rw [hb] at h; cases h; exact Reader.loadL ho h1 h2 hx hc h3 hb
        · cases h
      · cases h
    · cases h
  · rename_i x ho
    split at h
    · rename_i b k hx; cases h; exact Reader.nilCheck ho hx (.inl ⟨_, _, rfl⟩)
    · rename_i b k hx; cases h; exact Reader.nilCheck ho hx (.inr (.inl ⟨_, _, rfl⟩))
    · rename_i b k hx; cases h; exact Reader.nilCheck ho hx (.inr (.inr ⟨_, _, rfl⟩))
    · cases h
  · rename_i x m ho
    split at h
    · rename_i t
      split at h
      · rename_i cs hx
        split at h
        · rename_i c hc
          rw [AV.force_eq] at h
          cases hb : c.un.flat with
          | false => rw [hb] at h; cases h
          | true => rw [hb] at h; cases h; exact Reader.extract ho hx hc hb
        · cases h
      · cases h
    · cases h
  · rename_i t x f ho
    cases hi : isTmp x with
    | false => rw [hi] at h; cases h
    | true =>
      rw [hi] at h
      simp only [cond_true] at h
      have hxc : ∃ r, x = .tmp r := by cases x <;> first | exact ⟨_, rfl⟩ | cases hi
      split at h
      · rename_i cs hx
        split at h
        · rename_i fs z hl
          obtain ⟨⟨D, hD, hk⟩, _⟩ := Tab.ok hT hl
          obtain ⟨F, rfl, hF⟩ := kOf_struct hk
          split at h
          · rename_i off ft hf
            unfold vPart at h
            split at h
            · rename_i K size hl2
              obtain ⟨⟨D2, hD2, hk2⟩, hs⟩ := Tab.ok hT hl2
              have hfo : fieldOf P t f off ft size := by
                rw [← hF, List.getElem?_map] at hf
                cases hx : F.toList[f]? with
                | none => rw [hx] at hf; cases hf
                | some fl =>
                  rw [hx] at hf
                  simp only [Option.map_some, Option.some.injEq, Prod.mk.injEq] at hf
                  obtain ⟨h1, h2⟩ := hf
                  subst h2
                  exact ⟨F, fl, hD, by simpa using hx, h1, rfl, hs⟩
              cases hA : K.agg with
              | true =>
                rw [hA] at h
                simp only [cond_true] at h
                cases hb : Nat.ble (off + size) cs.length with
                | false => rw [hb] at h; cases h
                | true =>
                  rw [hb] at h
                  simp only [cond_true, forceL_eq] at h
                  cases h
                  refine Reader.field (v := .agg ((cs.drop off).take size)) ho hfo hD2 hx hxc ?_ rfl
                  unfold partOf
                  rw [kOf_agg, hk2, hA, if_pos rfl, if_pos (Nat.le_of_ble_eq_true hb)]
              | false =>
                rw [hA] at h
                simp only [cond_false] at h
                split at h
                · rename_i c hc
                  rw [AV.force_eq] at h
                  cases hb : c.un.flat with
                  | false => rw [hb] at h; cases h
                  | true =>
                    rw [hb] at h; cases h
                    refine Reader.field (v := c) ho hfo hD2 hx hxc ?_ hb
                    unfold partOf
                    rw [kOf_agg, hk2, hA, if_neg (by decide)]; exact hc
                · cases h
            · cases h
          · cases h
        · cases h
      · cases h
  · rename_i t x i ho
    cases hi : isTmp x with
    | false => rw [hi] at h; cases h
    | true =>
      rw [hi] at h
      simp only [cond_true] at h
      have hxc : ∃ r, x = .tmp r := by cases x <;> first | exact ⟨_, rfl⟩ | cases hi
      split at h
      · rename_i cs hx
        split at h
        · rename_i len E z hl
          obtain ⟨⟨D, hD, hk⟩, _⟩ := Tab.ok hT hl
          have := kOf_arr hk; subst this
          split at h
          · rename_i m hm
            cases hb : Nat.blt m len with
            | false => rw [hb] at h; cases h
            | true =>
              rw [hb] at h
              simp only [cond_true] at h
              split at h
              · rename_i K size hl2
                obtain ⟨⟨D2, hD2, hk2⟩, hs⟩ := Tab.ok hT hl2
                unfold i' at hm
                split at hm
                · rename_i kk m' hm'
                  cases hm
                  unfold vElem at h
                  cases hA : K.agg with
                  | true =>
                    rw [hA] at h
                    simp only [cond_true] at h
                    cases hb2 : Nat.ble (m * size + size) cs.length with
                    | false => rw [hb2] at h; cases h
                    | true =>
                      rw [hb2] at h
                      simp only [cond_true, forceL_eq] at h
                      cases h
                      refine Reader.indexV ho hD hD2 hs hx hxc hm' rfl (Nat.le_of_ble_eq_true hb) ?_ rfl
                      unfold partOf
                      rw [kOf_agg, hk2, hA, if_pos rfl, if_pos (Nat.le_of_ble_eq_true hb2)]
                  | false =>
                    rw [hA] at h
                    simp only [cond_false] at h
                    split at h
                    · rename_i c hc
                      rw [AV.force_eq] at h
                      cases hb2 : c.flat with
                      | false => rw [hb2] at h; cases h
                      | true =>
                        rw [hb2] at h; cases h
                        refine Reader.indexV ho hD hD2 hs hx hxc hm' rfl (Nat.le_of_ble_eq_true hb) ?_ hb2
                        unfold partOf
                        rw [kOf_agg, hk2, hA, if_neg (by decide)]; exact hc
                    · cases h
                · cases hm
              · cases h
          · cases h
        · cases h
      · cases h
  · rename_i c ho
    split at h
    · rename_i hc
      split at h
      · rename_i x y ha
        split at h
        · rename_i k i hx
          split at h
          · rename_i k' j hy
            cases hb : decide (k = k') with
            | false => rw [hb] at h; cases h
            | true =>
              rw [hb] at h
              have := of_decide_eq_true hb
              subst this
              cases h
              exact Reader.maxI ho hc (Array.toList_inj.1 ha) hx hy rfl
          · cases h
        · cases h
      · cases h
    · rename_i hc
      split at h
      · rename_i x y ha
        split at h
        · rename_i k i hx
          split at h
          · rename_i k' j hy
            cases hb : decide (k = k') with
            | false => rw [hb] at h; cases h
            | true =>
              rw [hb] at h
              have := of_decide_eq_true hb
              subst this
              cases h
              exact Reader.minI ho hc (Array.toList_inj.1 ha) hx hy rfl
          · cases h
        · cases h
      · cases h
    · rename_i hc
      split at h
      · rename_i x ha
        split at h
        · rename_i l hx
          split at h
          · rename_i t hat
            split at h
            · rename_i z hl
              obtain ⟨⟨D, hD, hk⟩, _⟩ := Tab.ok hT hl
              have := kOf_str hk; subst this
              cases h
              exact Reader.lenStr ho hc (Array.toList_inj.1 ha) (Array.toList_inj.1 hat) hD hx
            · cases h
          · cases h
        · cases h
      · cases h
    · cases h
  · cases h
end
end
section
open Go.RowKit

/-- Zero cells: nil lists as lists; as what they are. -/
abbrev Zt := List (Nat × List AV × List AV)
def Zt.look : Zt → Nat → Option (List AV)
  | [], _ => none
  | (t, x, _) :: r, u => bif Nat.beq t u then some x else Zt.look r u
def Zt.lookO : Zt → Nat → Option (List AV)
  | [], _ => none
  | (t, _, x) :: r, u => bif Nat.beq t u then some x else Zt.lookO r u
def Zt1 (P : Program) (t : Nat) (cs : List AV) : Prop := ∃ z Es, (P.info? t).map (·.zero) = some (some z) ∧ z.cells.toList.all (fun c => c.oneCell') = true ∧ zcells z.cells.toList Es = cs ∧ (∀ D, P.underlying t = some D → TypeDesc.agg D = true → ∃ zs, z = .agg zs)
def ZtOK (P : Program) : Zt → Prop
  | [] => True
  | (t, cs, co) :: r => (Zt1 P t cs ∧ Zt1 P t co) ∧ ZtOK P r
theorem zz {P : Program} {t : Nat} {cs co : List AV} (z : Value) (Es Eo : List TypeId) (h : (P.info? t).map (·.zero) = some (some z)) (h1 : z.cells.toList.all (fun c => c.oneCell') = true) (h2 : zcells z.cells.toList Es = cs) (h3 : zcells z.cells.toList Eo = co)
    (h4 : ∀ D, P.underlying t = some D → TypeDesc.agg D = true → ∃ zs, z = .agg zs) : Zt1 P t cs ∧ Zt1 P t co := ⟨⟨z, Es, h, h1, h2, h4⟩, ⟨z, Eo, h, h1, h3, h4⟩⟩
theorem zD {P : Program} {t : Nat} {D0 : TypeDesc} {X : Prop} (h : P.underlying t = some D0) (ha : TypeDesc.agg D0 = false := by rfl) : ∀ D, P.underlying t = some D → TypeDesc.agg D = true → X := fun D h1 h2 => by
  rw [h] at h1
  cases h1
  rw [ha] at h2
  cases h2
theorem zTab {P : Program} {t n : Nat} {D0 : TypeDesc} {k : TK} (h : P.underlying t = some D0) (hk : kOf D0 = k) (hs : (P.info? t).map (·.size) = some n) : (∃ D, P.underlying t = some D ∧ kOf D = k) ∧ SizeOf P t n := ⟨⟨_, h, hk⟩, hs⟩
theorem Zt.ok {P : Program} {t : Nat} {cs : List AV} : ∀ {Z : Zt}, ZtOK P Z → Z.look t = some cs → Zt1 P t cs
  | (u, cs', co) :: r, h, hl => by
    simp only [Zt.look] at hl
    cases e : Nat.beq u t with
    | true => rw [e] at hl; cases hl; rw [← Nat.eq_of_beq_eq_true e]; exact h.1.1
    | false => rw [e] at hl; exact Zt.ok h.2 hl
  | [], _, hl => by cases hl
theorem Zt.okO {P : Program} {t : Nat} {cs : List AV} : ∀ {Z : Zt}, ZtOK P Z → Z.lookO t = some cs → Zt1 P t cs
  | (u, cs', co) :: r, h, hl => by
    simp only [Zt.lookO] at hl
    cases e : Nat.beq u t with
    | true => rw [e] at hl; cases hl; rw [← Nat.eq_of_beq_eq_true e]; exact h.1.2
    | false => rw [e] at hl; exact Zt.okO h.2 hl
  | [], _, hl => by cases hl

def isNil : Operand → Bool
  | .const (.slice none 0 0) => true
  | _ => false
theorem isNil_eq {x : Operand} (h : isNil x = true) : x = .const (.slice none 0 0) := by
  unfold isNil at h
  split at h
  · rfl
  · cases h

/-- What is handed on: a copy; of a nil list one of that kind. -/
def vArg (ev : Operand → AV) (x : Operand) (E : Option Nat) : Option AV :=
  bif isNil x then (match E with | some E => some (.list false E []) | none => none)
  else (ev x).un.force fun v => bif v.flat && Operand.ok x then some v else none
theorem vArg_ok {s : St} {x : Operand} {E : Option Nat} {v : AV} (h : vArg s.eval x E = some v) : ArgOf s x v ∧ Operand.ok x = true := by
  unfold vArg at h
  cases hb : isNil x with
  | true =>
    rw [hb] at h
    have := isNil_eq hb
    subst this
    simp only [cond_true] at h
    split at h
    · cases h; exact ⟨.inr ⟨rfl, _, .inl rfl⟩, rfl⟩
    · cases h
  | false =>
    rw [hb] at h
    simp only [cond_false, AV.force_eq] at h
    cases hc : ((s.eval x).un.flat && Operand.ok x) with
    | false => rw [hc] at h; cases h
    | true =>
      rw [hc] at h
      simp only [Bool.and_eq_true] at hc
      cases h
      exact ⟨.inl ⟨rfl, hc.1⟩, hc.2⟩

def elemOf (T : Tab) (t : Nat) : Option Nat := match T.look t with | some (.slice E, _) => some E | _ => none
def vParts (T : Tab) (ev : Operand → AV) (ft : Nat → Option Nat) : List (Nat × Operand) → Option (List (Nat × AV))
  | [] => some []
  | (i, x) :: r => match vArg ev x (match ft i with | some t => elemOf T t | none => none) with
    | some v => bif v.part then (match vParts T ev ft r with | some q => some ((i, v) :: q) | none => none) else none
    | none => none
theorem vParts_ok {T : Tab} {s : St} {ft : Nat → Option Nat} : ∀ {l : List (Nat × Operand)} {xs : List (Nat × AV)}, vParts T s.eval ft l = some xs → PartsL s l xs
  | [], xs, h => by cases h; exact trivial
  | (i, x) :: r, xs, h => by
    unfold vParts at h
    split at h
    · rename_i v hv
      cases hp : v.part with
      | false => rw [hp] at h; cases h
      | true =>
        rw [hp] at h
        simp only [cond_true] at h
        split at h
        · rename_i q hq
          cases h
          have := vArg_ok hv
          exact ⟨⟨rfl, this.1, hp, this.2⟩, vParts_ok hq⟩
        · cases h
    · cases h

def fsPl (T : Tab) : List (Nat × Nat) → Option (List (Nat × Nat))
  | [] => some []
  | (off, ft) :: r => match T.look ft with
    | some (_, size) => match fsPl T r with
      | some q => some ((off, size) :: q)
      | none => none
    | none => none
theorem fsPl_run {P : Program} {T : Tab} (hT : TabOK P T) : ∀ (F : List Field) (q : List (Nat × Nat)), fsPl T (F.map fun f => (f.offset, f.type)) = some q → ∀ w : World, (F.mapM fun f => (do pure (f.offset, ← sizeOf f.type) : Sem (Nat × Nat))).run P w = .ok q w
  | [], q, h, w => by cases h; rfl
  | f :: r, q, h, w => by
    simp only [List.map_cons, fsPl] at h
    split at h
    · rename_i k size hl
      split at h
      · rename_i q' hq
        cases h
        obtain ⟨_, hs⟩ := Tab.ok hT hl
        have ih := fsPl_run hT r q' hq w
        rw [List.mapM_cons]
        simp only [Sem.run_bind, run_size hs, Result.andThen, Sem.run_pure]
        rw [ih]
      · cases h
    · cases h
theorem fsPl_runA {P : Program} {T : Tab} (hT : TabOK P T) {F : Array Field} {q : List (Nat × Nat)} (h : fsPl T (F.toList.map fun f => (f.offset, f.type)) = some q) (w : World) : (F.mapM fun f => (do pure (f.offset, ← sizeOf f.type) : Sem (Nat × Nat))).run P w = .ok q.toArray w := by
  have := fsPl_run hT F.toList q h w
  rw [Array.mapM_eq_mapM_toList]
  show ((F.toList.mapM fun f => (do pure (f.offset, ← sizeOf f.type) : Sem (Nat × Nat))) >>= fun x => pure x.toArray).run P w = _
  rw [Sem.run_bind, this]; rfl

/-- A choice of two truths, each told where it is taken. -/
def vPick (fr : Fr) (C : Cnd) (c x y : Operand) : Option AV :=
  match c with
  | .tmp t => match getV fr C t with
    | .lit (.bool b) => match evE fr ((t, true) :: C) x with
      | .lit (.bool p) => match evE fr ((t, false) :: C) y with
        | .lit (.bool q) => bif isC x then (match p with
            | true => some (.lit (.bool (b || q)))
            | false => some (.lit (.bool (!b && q))))
          else bif isC y then (match q with
            | false => some (.lit (.bool (b && p)))
            | true => some (.lit (.bool (!b || p))))
          else some (.lit (.bool (bif b then p else q)))
        | _ => none
      | _ => none
    | _ => none
  | _ => none

section
variable {P : Program} {n : Nat} {e e' : Es} {ops : Array Oper} {l rest : List Oper} {o : Oper} {Q : Es → Prop} {d : Nat} {T : Tab} {Z : Zt} {v : AV} {C : Cnd} {t : TypeId}

theorem condOK_cons {t : Nat} {b : Bool} {a : Act} (hC : condOK C a) (h : a.tmps.getD t undef = .bool b) : condOK ((t, b) :: C) a := by
  intro p hp
  rcases List.mem_cons.1 hp with h1 | h1
  · subst h1; exact h
  · exact hC p h1

theorem COps.pick {c x y : Operand} (ho : o.op = .pick c x y) (hv : vPick e.fr C c x y = some v) (hC : cndOf ops e.fr o = some C) (hd : o.dst = some d) (hn : d < n) (hg : memN d (gsOf C e.gs) = false) (k : COps P n ops rest (e.put d C v) Q) : COps P n ops (o :: rest) e Q := by
  refine COps.yield hC hd hn hg (fun G a w hr hc => ?_) k
  unfold vPick at hv
  split at hv
  · rename_i t
    split at hv
    · rename_i b hb
      have hs := (hr.st hc).slot t
      rw [st_get, hb] at hs
      have htb := RelS.lit hs
      split at hv
      · rename_i p hp
        split at hv
        · rename_i q hq
          have hrun : (execOp a.eval o).run P w = .ok (.value (if b then a.eval x else a.eval y)) w := by
            have : a.eval (.tmp t) = .bool b := htb
            simp [execOp, ho, this, asBool]
          refine ⟨_, ?_, hrun⟩
          have hval : (if b then a.eval x else a.eval y) = .bool (bif b then p else q) := by
            cases b with
            | true =>
              rw [evE_eq] at hp
              exact (hr.st (condOK_cons hc htb)).evLit hp
            | false =>
              rw [evE_eq] at hq
              exact (hr.st (condOK_cons hc htb)).evLit hq
          rw [hval]
          have hlit : v = .lit (.bool (bif b then p else q)) := by
            cases h1 : isC x with
            | true =>
              rw [h1] at hv
              simp only [cond_true] at hv
              cases p <;> cases hv <;> cases b <;> rfl
            | false =>
              rw [h1] at hv
              simp only [cond_false] at hv
              cases h2 : isC y with
              | true =>
                rw [h2] at hv
                simp only [cond_true] at hv
                cases q <;> cases hv <;> cases b <;> simp
              | false =>
                rw [h2] at hv
                simp only [cond_false] at hv
                cases hv; rfl
          rw [hlit]
          exact lit_toS _
        · cases hv
      · cases hv
    · cases hv
  · cases hv

/-- A literal of a struct, of an array. -/
def vBuild (T : Tab) (Z : Zt) (own : Bool) (ev : Operand → AV) (t : Nat) (ps : List (Nat × Operand)) : Option AV :=
  match (bif own then Z.lookO t else Z.look t) with
  | some zc => match T.look t with
    | some (.struct fs, _) => match fsPl T fs with
      | some pl => match vParts T ev (fun i => match fs[i]? with | some (_, ft) => some ft | none => none) ps with
        | some xs => match fillA (pl[·]?) zc xs with
          | some cs => forceL cs fun cs => some (.agg cs)
          | none => none
        | none => none
      | none => none
    | some (.arr _ E, _) => match T.look E with
      | some (_, size) => match vParts T ev (fun _ => some E) ps with
        | some xs => match fillA (fun i => some (i * size, size)) zc xs with
          | some cs => forceL cs fun cs => some (.agg cs)
          | none => none
        | none => none
      | none => none
    | _ => none
  | none => none
theorem vBuild_ok {s : St} {own : Bool} (hT : TabOK P T) (hZ : ZtOK P Z) {ps : Array (Nat × Operand)} (ho : o.op = .build t ps) (h : vBuild T Z own s.eval t ps.toList = some v) : Reader P n s o d v := by
  unfold vBuild at h
  split at h
  · rename_i zc hz
    obtain ⟨z, Es, h1, h2, rfl, h4⟩ : Zt1 P t zc := by
      cases own with
      | true => exact Zt.okO hZ hz
      | false => exact Zt.ok hZ hz
    split at h
    · rename_i fs size hl
      obtain ⟨⟨D, hD, hk⟩, _⟩ := Tab.ok hT hl
      obtain ⟨F, rfl, rfl⟩ := kOf_struct hk
      obtain ⟨zs, rfl⟩ := h4 _ hD rfl
      split at h
      · rename_i pl hpl
        split at h
        · rename_i xs hxs
          split at h
          · rename_i cs hcs
            rw [forceL_eq] at h
            cases h
            exact Reader.build (places := pl) ho hD (vParts_ok hxs).of h1 h2 (fsPl_runA hT hpl) hcs
          · cases h
        · cases h
      · cases h
    · rename_i m E size0 hl
      obtain ⟨⟨D, hD, hk⟩, _⟩ := Tab.ok hT hl
      have := kOf_arr hk; subst this
      obtain ⟨zs, rfl⟩ := h4 _ hD rfl
      split at h
      · rename_i z2 size hl2
        obtain ⟨_, hs⟩ := Tab.ok hT hl2
        split at h
        · rename_i xs hxs
          split at h
          · rename_i cs hcs
            rw [forceL_eq] at h
            cases h
            exact Reader.buildA ho hD hs (vParts_ok hxs).of h1 h2 hcs
          · cases h
        · cases h
      · cases h
    · cases h
  · cases h
end
end
section
open Go.RowKit

/-- An object's cells may be read one by one. -/
def scl : List AV → Bool
  | [] => false
  | c :: r => (c :: r).all AV.scalar
theorem scl_ok {cs : List AV} (h : scl cs = true) : cs.all AV.scalar = true ∧ cs ≠ [] := by
  cases cs with
  | nil => cases h
  | cons c r => exact ⟨h, by simp⟩

theorem lay_nth {base : Nat → Option (List AV)} : ∀ {objs : Ob} {j id : Nat} {cs : List AV}, (objs.map (·.1)).Nodup → objs[j]? = some (id, cs) → lay objs base id = some cs
  | (i, c) :: r, 0, id, cs, _, h => by simp at h; obtain ⟨rfl, rfl⟩ := h; exact setM_get
  | (i, c) :: r, j + 1, id, cs, hn, h => by
    simp only [List.getElem?_cons_succ] at h
    simp only [List.map_cons, List.nodup_cons] at hn
    have : id ≠ i := by
      rintro rfl
      exact hn.1 (List.mem_map.2 ⟨_, List.mem_of_getElem? h, rfl⟩)
    show setM (lay r base) i c id = _
    rw [setM_ne this]
    exact lay_nth hn.2 h
  | [], j, id, cs, _, h => by simp at h
theorem lay_set {base : Nat → Option (List AV)} : ∀ {objs : Ob} {j id : Nat} {cs cs' : List AV}, (objs.map (·.1)).Nodup → objs[j]? = some (id, cs) → setM (lay objs base) id cs' = lay (objs.set j (id, cs')) base
  | (i, c) :: r, 0, id, cs, cs', _, h => by simp at h; obtain ⟨rfl, rfl⟩ := h; exact setM_setM
  | (i, c) :: r, j + 1, id, cs, cs', hn, h => by
    simp only [List.getElem?_cons_succ] at h
    simp only [List.map_cons, List.nodup_cons] at hn
    have hne : id ≠ i := by
      rintro rfl
      exact hn.1 (List.mem_map.2 ⟨_, List.mem_of_getElem? h, rfl⟩)
    show setM (setM (lay r base) i c) id cs' = setM (lay (r.set j (id, cs')) base) i c
    rw [setM_swap' hne (lay_set hn.2 h)]
  | [], j, id, cs, cs', _, h => by simp at h
theorem ndO_set {objs : Ob} {base : Nat → Option (List AV)} {objs' : Ob} (h : ndO objs base) (e : objs'.map (·.1) = objs.map (·.1)) : ndO objs' base := by
  unfold ndO
  rw [e]; exact h
theorem map_set_fst {objs : Ob} {j id : Nat} {cs cs' : List AV} (h : objs[j]? = some (id, cs)) : (objs.set j (id, cs')).map (·.1) = objs.map (·.1) := by
  rw [List.map_set]
  apply List.ext_getElem?
  intro i
  rw [List.getElem?_set]
  split
  · rename_i e
    subst e
    split
    · rw [List.getElem?_map, h]; rfl
    · rename_i hlt
      rw [List.getElem?_eq_none]
      omega
  · rfl

def allEq : List (Nat × Nat) → Prop
  | [] => True
  | (a, b) :: r => a = b ∧ allEq r

abbrev Out := Option (Es × List (Nat × Nat) × List Nat)
def setO {α : Type _} : Ob → Nat → (Nat × List AV) → (Ob → α) → α
  | [], _, _, k => k []
  | _ :: r, 0, p, k => k (p :: r)
  | a :: r, j + 1, p, k => setO r j p fun r => k (a :: r)
theorem setO_eq {α : Type _} : ∀ (l : Ob) (j : Nat) (p : Nat × List AV) (k : Ob → α), setO l j p k = k (l.set j p)
  | [], _, _, k => rfl
  | _ :: r, 0, p, k => rfl
  | a :: r, j + 1, p, k => by unfold setO; rw [setO_eq r]; rfl
def ok0 (x : Option Es) (H : List Nat) : Out := match x with | some e => some (e, [], H) | none => none

/-- A value that is yielded under whatever conditions. -/
def putE (n : Nat) (e : Es) (d : Nat) (C : Cnd) (v : Option AV) : Option Es :=
  match e with
  | ⟨fr, gs, loc, objs, base⟩ => bif Nat.blt d n && !(memN d (gsOf C gs)) then (match v with
    | some v => match C with
      | [] => some ⟨(d, [], v) :: fr, gs, loc, objs, base⟩
      | (t, w) :: D => some ⟨(d, (t, w) :: D, v) :: fr, t :: gs, loc, objs, base⟩
    | none => none) else none
/-- What is done only where nothing hangs on conditions. -/
def plain (e : Es) (C : Cnd) : Bool := e.gs.isEmpty && C.isEmpty

/-- A row of cells that are told one by one. -/
def vRow (T : Tab) (ev : Operand → AV) (E size : Nat) : Nat → List (Nat × Operand) → Option (List AV)
  | _, [] => some []
  | j, (i, x) :: r => bif Nat.beq i j then (match vArg ev x (elemOf T E) with
    | some v => bif v.part && Nat.beq v.cells.length size then (match vRow T ev E size (j + 1) r with | some q => some (v :: q) | none => none) else none
    | none => none) else none

def noLB (d : Nat) : Fr → Bool
  | [] => true
  | (_, _, v) :: r => bif v.notL d then noLB d r else false

def isEmpty' (x : Option (List AV)) : Bool := match x with | none => true | some _ => false

/-- A store into a block. -/
def vStore (T : Tab) (ev : Operand → AV) (t : Nat) (y : Operand) (cells : List AV) (off : Nat) : Option (List AV) :=
  match T.look t with
  | some (_, size) => match vArg ev y (elemOf T t) with
    | some v => bif v.part && v.cells.all AV.flat && Nat.beq v.cells.length size && Nat.ble (off + size) cells.length then forceL (splice cells off v.cells) some else none
    | none => none
  | none => none

def tmpIn (L : List Nat) : Operand → Option Nat
  | .tmp r => bif memN r L then some r else none
  | _ => none
def tmpOf : Operand → Option Nat
  | .tmp r => some r
  | _ => none

/-- A copy that takes what it copies with it. -/
def sSteal (n : Nat) (e : Es) (d : Nat) (C : Cnd) (x : Operand) (ty : Option Nat) : Option Es :=
  match e with
  | ⟨fr, gs, loc, objs, base⟩ =>
      bif plain ⟨fr, gs, loc, objs, base⟩ C && Nat.blt d n then (bif isNil x then (match ty with
          | some E => some ⟨(d, [], .list true E []) :: fr, [], loc, objs, base⟩
          | none => none)
        else match tmpOf x with
          | some r => bif Nat.beq r d then none else (getV fr [] r).force fun v => v.un.force fun u => some ⟨(d, [], v) :: (r, [], u) :: fr, [], loc, objs, base⟩
          | none => none)
      else none
def sTake (n : Nat) (e : Es) (d : Nat) (C : Cnd) (x : Operand) (m : Nat) : Option Es :=
  match e with
  | ⟨fr, gs, loc, objs, base⟩ =>
      bif plain ⟨fr, gs, loc, objs, base⟩ C && Nat.blt d n then (match tmpOf x with
        | some r => bif Nat.beq r d then none else (match getV fr [] r with
          | .tuple cs => match cs[m]? with
            | some (.list true E xs) => forceL (cs.set m (.list false E xs)) fun q => some ⟨(d, [], .list true E xs) :: (r, [], .tuple q) :: fr, [], loc, objs, base⟩
            | _ => none
          | _ => none)
        | none => none)
      else none
def sVar (n : Nat) (e : Es) (d : Nat) (C : Cnd) (cs : Option (List AV)) : Option Es :=
  match e with
  | ⟨fr, gs, loc, objs, base⟩ =>
      bif plain ⟨fr, gs, loc, objs, base⟩ C && Nat.blt d n && isEmpty' (lookL loc d) && noLB d fr then (match cs with
        | some cs => bif cs.all (fun c => c.scalar && c.flat) then some ⟨(d, [], .lptr d 0) :: fr, [], (d, cs) :: loc, objs, base⟩ else none
        | none => none)
      else none
def vBox (T : Tab) (ev : Operand → AV) (t : Nat) (x : Operand) : Option (List AV) :=
  match vArg ev x (elemOf T t) with
  | some v => bif v.part then some v.cells else none
  | none => none
def vSlice (T : Tab) (Z : Zt) (ev : Operand → AV) (t len : Nat) (ps : List (Nat × Operand)) : Option AV :=
  match T.look t with
  | some (.slice E, _) => match T.look E with
    | some (_, size) => match Z.look E with
      | some zc => bif Nat.beq zc.length size && Nat.beq len ps.length && Nat.ble (len * size) 1000 && !(Nat.beq (len * size) 0) then
          (match vRow T ev E size 0 ps with
          | some xs => some (.list true E xs)
          | none => none)
        else none
      | none => none
    | none => none
  | _ => none
/-- A value that is made, whatever it hangs on. -/
def sPut (n : Nat) (e : Es) (d : Nat) (C : Cnd) (v : Option AV) : Option Es := bif subF C e.fr && truths e.fr C C then putE n e d C v else none
def sGrab (T : Tab) (n : Nat) (e : Es) (d : Nat) (C : Cnd) (t k j id : Nat) (cs : List AV) : Option Es :=
  match e with
  | ⟨fr, gs, loc, objs, base⟩ =>
      bif plain ⟨fr, gs, loc, objs, base⟩ C && Nat.blt d n && scl cs then (match T.look t with
        | some (.slice _, _) => match cs[k]? with
          | some (.list true E xs) => forceL (cs.set k (.list false E xs)) fun q => setO objs j (id, q) fun objs => some ⟨(d, [], .list true E xs) :: fr, [], loc, objs, base⟩
          | _ => none
        | _ => none)
      else none
def sOwn (T : Tab) (e : Es) (t r k j id : Nat) (cs : List AV) : Option Es :=
  match e with
  | ⟨fr, _gs, loc, objs, base⟩ =>
      match T.look t with
      | some (.slice _, 1) => match getV fr [] r with
        | .list true E xs => bif Nat.blt k cs.length then forceL (cs.set k (.list true E xs)) fun q => setO objs j (id, q) fun objs => some ⟨(r, [], .list false E xs) :: fr, [], loc, objs, base⟩ else none
        | _ => none
      | _ => none

def forceC {α : Type _} : Cnd → (Cnd → α) → α
  | [], k => k []
  | (t, w) :: r, k => forceC r fun r => k ((t, w) :: r)
theorem forceC_eq {α : Type _} : ∀ (C : Cnd) (k : Cnd → α), forceC C k = k C
  | [], k => rfl
  | (t, w) :: r, k => by unfold forceC; rw [forceC_eq r]
def stepE (T : Tab) (Z : Zt) (n : Nat) (ops : Array Oper) (L H : List Nat) (e : Es) (o : Oper) : Out :=
  match cndOf ops e.fr o with
  | none => none
  | some C => forceC C fun C => match o.dst with
    | some d => match o.op with
      | .assign x => bif isNil x || memN d L then ok0 (sSteal n e d C x (elemOf T o.type)) H else ok0 (putE n e d C (stepV T (evE e.fr C) e.loc (.assign x))) H
      | .move x => bif memN d L then ok0 (sSteal n e d C x (elemOf T o.type)) H else ok0 (putE n e d C (stepV T (evE e.fr C) e.loc (.move x))) H
      | .extract x m => bif memN d L then ok0 (sTake n e d C x m) H else ok0 (putE n e d C (stepV T (evE e.fr C) e.loc (.extract x m))) H
      | .pick c x y => ok0 (putE n e d C (vPick e.fr C c x y)) H
      | .build t ps => ok0 (putE n e d C (vBuild T Z (memN d L) (evE e.fr C) t ps.toList)) H
      | .buildSlice t len ps => ok0 (sPut n e d C (vSlice T Z (evE e.fr C) t len ps.toList)) H
      | .alloc t => ok0 (sVar n e d C (Z.look t)) H
      | .box t x => ok0 (sVar n e d C (vBox T (evE e.fr C) t x)) H
      | .load t x => match evE e.fr C x with
        | .gptr id k => match H with
          | j :: H => match e.objs[j]? with
            | some (id', cs) => bif memN d L then (match sGrab T n e d C t k j id' cs with
                | some e' => some (e', [(id, id')], H)
                | none => none)
              else match vLoad T t cs k with
              | some v => bif scl cs && v.flat then (match putE n e d C (some v) with
                | some e' => some (e', [(id, id')], H)
                | none => none) else none
              | none => none
            | none => none
          | [] => none
        | _ => ok0 (putE n e d C (stepV T (evE e.fr C) e.loc (.load t x))) H
      | .call c => match c.callee with
        | .builtin .len => match c.args.toList with
          | [x] => match evE e.fr C x with
            | .list _ _ xs => match c.argTypes.toList with
              | [t] => match elemOf T t with
                | some _ => match H with
                  | m :: H => match putE n e d C (some (.lit (.int .i64 (m : Int)))) with
                    | some e' => some (e', [(xs.length, m)], H)
                    | none => none
                  | [] => none
                | none => none
              | _ => none
            | _ => ok0 (putE n e d C (stepV T (evE e.fr C) e.loc (.call c))) H
          | _ => none
        | _ => ok0 (putE n e d C (stepV T (evE e.fr C) e.loc (.call c))) H
      | op => ok0 (putE n e d C (stepV T (evE e.fr C) e.loc op)) H
    | none => match o.op with
      | .store t x y => bif plain e C then (match evE e.fr C x with
        | .lptr b k => match lookL e.loc b with
          | some cs => match vStore T (evE e.fr C) t y cs k with
            | some cs' => (match e with | ⟨fr, _, loc, objs, base⟩ => some (⟨fr, [], (b, cs') :: loc, objs, base⟩, [], H))
            | none => none
          | none => none
        | .gptr id k => match H with
          | j :: H => match e.objs[j]? with
            | some (id', cs) => bif scl cs then (match tmpIn L y with
              | some r => match sOwn T e t r k j id' cs with
                | some e' => some (e', [(id, id')], H)
                | none => none
              | none => match vStore T (evE e.fr C) t y cs k with
                | some cs' => (match e with | ⟨fr, _, loc, objs, base⟩ => setO objs j (id', cs') fun objs => some (⟨fr, [], loc, objs, base⟩, [(id, id')], H))
                | none => none) else none
            | none => none
          | [] => none
        | _ => none) else none
      | _ => none

def runE (T : Tab) (Z : Zt) (n : Nat) (ops : Array Oper) (L : List Nat) : Nat → List Nat → List Oper → Es → List (Nat × Nat) → Option (List Oper × Es × List (Nat × Nat))
  | 0, [], l, e, q => some (l, e, q)
  | k + 1, H, o :: l, e, q => match stepE T Z n ops L H e o with
    | some (e', q', H') => runE T Z n ops L k H' l e' (q' ++ q)
    | none => none
  | _, _, _, _, _ => none

section
variable {P : Program} {n : Nat} {e e' : Es} {ops : Array Oper} {l rest : List Oper} {o : Oper} {Q : Es → Prop} {d : Nat} {T : Tab} {Z : Zt} {v : AV} {C : Cnd} {t : TypeId} {H H' L : List Nat} {q : List (Nat × Nat)}

theorem putE_ok {v : Option AV} (h : putE n e d C v = some e') : ∃ v', v = some v' ∧ e' = e.put d C v' ∧ d < n ∧ memN d (gsOf C e.gs) = false := by
  obtain ⟨fr, gs, loc, objs, base⟩ := e
  unfold putE at h
  simp only at h
  cases hb : (Nat.blt d n && !(memN d (gsOf C gs))) with
  | false => rw [hb] at h; cases h
  | true =>
    rw [hb] at h
    simp only [Bool.and_eq_true, Bool.not_eq_true'] at hb
    simp only [cond_true] at h
    cases v with
    | none => cases h
    | some v => cases C <;> (cases h; exact ⟨v, rfl, rfl, Nat.le_of_ble_eq_true hb.1, hb.2⟩)
theorem plain_ok (h : plain e C = true) : e.gs = [] ∧ C = [] := by
  unfold plain at h
  simp only [Bool.and_eq_true, List.isEmpty_iff] at h
  exact h
theorem ok0_ok {x : Option Es} (h : ok0 x H = some (e', q, H')) : x = some e' ∧ q = [] := by
  cases x with
  | none => cases h
  | some y => cases h; exact ⟨rfl, rfl⟩
theorem cnd_none (h : cndOf ops e.fr o = some []) : o.guard = none := by
  unfold cndOf at h
  split at h
  · assumption
  · split at h <;> cases h
theorem wants0 (s : St) (h : cndOf ops e.fr o = some []) : Wants ops s o := by
  unfold Wants; rw [cnd_none h]; trivial

theorem put_step {v : Option AV} (hC : cndOf ops e.fr o = some C) (hd : o.dst = some d) (h : putE n e d C v = some e') (hv : ∀ v', v = some v' → Reader P n (e.st C) o d v') (k : COps P n ops rest e' Q) : COps P n ops (o :: rest) e Q := by
  obtain ⟨v', rfl, rfl, h1, h2⟩ := putE_ok h
  exact COps.read hC hd h1 h2 (hv v' rfl) k
theorem evE_fun (e : Es) (C : Cnd) : evE e.fr C = (e.st C).eval := funext fun x => evE_eq e C x
theorem put_stepV (hT : TabOK P T) {op : Op} (hC : cndOf ops e.fr o = some C) (hd : o.dst = some d) (ho : o.op = op) (h : putE n e d C (stepV T (evE e.fr C) e.loc op) = some e') (k : COps P n ops rest e' Q) : COps P n ops (o :: rest) e Q := by
  refine put_step hC hd h (fun v' hv => ?_) k
  rw [evE_fun] at hv
  exact stepV_ok (s := e.st C) hT ho hv

theorem steal_step (hC : cndOf ops e.fr o = some C) (hd : o.dst = some d) {x : Operand} {ty : Option Nat} (ho : o.op = .move x ∨ o.op = .assign x) (h : sSteal n e d C x ty = some e') (k : COps P n ops rest e' Q) : COps P n ops (o :: rest) e Q := by
  obtain ⟨fr, gs, loc, objs, base⟩ := e
  unfold sSteal at h
  simp only at h
  cases hb : (plain ⟨fr, gs, loc, objs, base⟩ C && Nat.blt d n) with
  | false => rw [hb] at h; cases h
  | true =>
    rw [hb] at h
    simp only [Bool.and_eq_true] at hb
    obtain ⟨hb1, hb2⟩ := hb
    have hn : d < n := Nat.le_of_ble_eq_true hb2
    obtain ⟨hgs, rfl⟩ := plain_ok hb1
    simp only [cond_true] at h
    cases hx : isNil x with
    | true =>
      rw [hx] at h
      have := isNil_eq hx
      subst this
      simp only [cond_true] at h
      split at h
      · rename_i E
        cases h
        refine COps.eff0 (add := [(d, .list true E [])]) hgs (fun Q' hk => AOps.nilList E (wants0 _ hC) hd hn ho.symm ?_) id k
        exact hk
      · cases h
    | false =>
      rw [hx] at h
      simp only [cond_false] at h
      split at h
      · rename_i r hr
        have hxr : x = .tmp r := by cases x <;> first | (cases hr; rfl) | cases hr
        subst hxr
        cases hrd : Nat.beq r d with
        | true => rw [hrd] at h; cases h
        | false =>
          rw [hrd] at h
          simp only [cond_false, AV.force_eq] at h
          cases h
          refine COps.eff0 (add := [(d, getV fr [] r), (r, (getV fr [] r).un)]) hgs (fun Q' hk => AOps.steal (v := getV fr [] r) (wants0 _ hC) hd hn (fun e => by subst e; rw [Nat.beq_refl] at hrd; cases hrd) ho (st_get _ [] r) ?_) id k
          exact hk
      · cases h

theorem take_step (hC : cndOf ops e.fr o = some C) (hd : o.dst = some d) {x : Operand} {m : Nat} (ho : o.op = .extract x m) (h : sTake n e d C x m = some e') (k : COps P n ops rest e' Q) : COps P n ops (o :: rest) e Q := by
  obtain ⟨fr, gs, loc, objs, base⟩ := e
  unfold sTake at h
  simp only at h
  cases hb : (plain ⟨fr, gs, loc, objs, base⟩ C && Nat.blt d n) with
  | false => rw [hb] at h; cases h
  | true =>
    rw [hb] at h
    simp only [Bool.and_eq_true] at hb
    obtain ⟨hb1, hb2⟩ := hb
    have hn : d < n := Nat.le_of_ble_eq_true hb2
    obtain ⟨hgs, rfl⟩ := plain_ok hb1
    simp only [cond_true] at h
    split at h
    · rename_i r hr
      have hxr : x = .tmp r := by cases x <;> first | (cases hr; rfl) | cases hr
      subst hxr
      cases hrd : Nat.beq r d with
      | true => rw [hrd] at h; cases h
      | false =>
        rw [hrd] at h
        simp only [cond_false] at h
        split at h
        · rename_i cs hg
          split at h
          · rename_i E xs hcs
            rw [forceL_eq] at h
            cases h
            refine COps.eff0 (add := [(d, .list true E xs), (r, .tuple (cs.set m (.list false E xs)))]) hgs (fun Q' hk => AOps.take (v := .list true E xs) (wants0 _ hC) hd hn (fun e => by subst e; rw [Nat.beq_refl] at hrd; cases hrd) ho ((st_get _ [] r).trans hg) hcs (.inr ⟨_, _, rfl⟩) ?_) id k
            exact hk
          · cases h
        · cases h
    · cases h

theorem noLB_ok {d : Nat} : ∀ {fr : Fr}, noLB d fr = true → (fr.map fun p => (p.1, valE [] p.2)).all (fun p => p.2.notL d) = true
  | [], _ => rfl
  | (i, D, v) :: r, h => by
    simp only [noLB] at h
    cases hv : v.notL d with
    | false => rw [hv] at h; cases h
    | true =>
      rw [hv] at h
      simp only [cond_true] at h
      simp only [List.map_cons, List.all_cons, Bool.and_eq_true]
      refine ⟨?_, noLB_ok h⟩
      unfold valE
      cases subC (D, v).1 [] with
      | true => exact hv
      | false => rfl

theorem var_step (hC : cndOf ops e.fr o = some C) (_hd : o.dst = some d) {cs : Option (List AV)} (h : sVar n e d C cs = some e')
    (hv : ∀ cells, cs = some cells → plain e C = true → d < n → lookL e.loc d = none → (∀ i off, (e.st []).get i ≠ .lptr d off) → (∀ c ∈ cells, c.scalar = true) → (∀ c ∈ cells, c.flat = true) → ∀ Q', AOps P n ops rest ⟨(d, .lptr d 0) :: (e.st []).fr, (d, cells) :: e.loc, lay e.objs e.base⟩ Q' → AOps P n ops (o :: rest) (e.st []) Q')
    (k : COps P n ops rest e' Q) : COps P n ops (o :: rest) e Q := by
  obtain ⟨fr, gs, loc, objs, base⟩ := e
  unfold sVar at h
  simp only at h
  cases hb : (plain ⟨fr, gs, loc, objs, base⟩ C && Nat.blt d n && isEmpty' (lookL loc d) && noLB d fr) with
  | false => rw [hb] at h; cases h
  | true =>
    rw [hb] at h
    simp only [Bool.and_eq_true] at hb
    obtain ⟨⟨⟨hb1, hb2⟩, hb3⟩, hb4⟩ := hb
    have hn : d < n := Nat.le_of_ble_eq_true hb2
    have hp := hb1
    obtain ⟨hgs, rfl⟩ := plain_ok hb1
    simp only [cond_true] at h
    split at h
    · rename_i cells
      cases hc : cells.all (fun c => c.scalar && c.flat) with
      | false => rw [hc] at h; cases h
      | true =>
        rw [hc] at h
        cases h
        have hall : ∀ c ∈ cells, c.scalar = true ∧ c.flat = true := fun c hm => by simpa using List.all_eq_true.1 hc c hm
        have hl : lookL loc d = none := by cases hx : lookL loc d <;> first | rfl | (rw [hx] at hb3; cases hb3)
        exact COps.eff0 (add := [(d, .lptr d 0)]) hgs (hv cells rfl hp hn hl (noL (noLB_ok hb4)) (fun c hm => (hall c hm).1) (fun c hm => (hall c hm).2)) id k
    · cases h

theorem vStore_ok (hT : TabOK P T) {s : St} {y : Operand} {cells cs' : List AV} {off : Nat} (h : vStore T s.eval t y cells off = some cs') :
    ∃ size v, SizeOf P t size ∧ ArgOf s y v ∧ Operand.ok y = true ∧ v.part = true ∧ (∀ c ∈ v.cells, c.flat = true) ∧ v.cells.length = size ∧ off + size ≤ cells.length ∧ cs' = splice cells off v.cells := by
  unfold vStore at h
  split at h
  · rename_i K size hl
    obtain ⟨_, hs⟩ := Tab.ok hT hl
    split at h
    · rename_i v hv
      obtain ⟨h1, h2⟩ := vArg_ok hv
      cases hb : (v.part && v.cells.all AV.flat && Nat.beq v.cells.length size && Nat.ble (off + size) cells.length) with
      | false => rw [hb] at h; cases h
      | true =>
        rw [hb] at h
        simp only [Bool.and_eq_true] at hb
        simp only [cond_true, forceL_eq] at h
        cases h
        exact ⟨size, v, hs, h1, h2, hb.1.1.1, List.all_eq_true.1 hb.1.1.2, Nat.eq_of_beq_eq_true hb.1.2, Nat.le_of_ble_eq_true hb.2, rfl⟩
    · cases h
  · cases h

theorem fillA_all {size : Nat} : ∀ (vs : List AV) (j : Nat) (A B : List AV), A.length = j * size → B.length = vs.length * size → (∀ v ∈ vs, v.cells.length = size) →
    fillA (fun i => some (i * size, size)) (A ++ B) (ysOf j vs) = some (A ++ vs.flatMap AV.cells)
  | [], j, A, B, hA, hB, hv => by
    have : B = [] := List.length_eq_zero_iff.1 (by simpa using hB)
    subst this; simp [ysOf, fillA]
  | v :: r, j, A, B, hA, hB, hv => by
    have h1 : v.cells.length = size := hv v (List.mem_cons_self ..)
    have hB' : B.length = r.length * size + size := by rw [hB, List.length_cons, Nat.add_mul, Nat.one_mul]
    simp only [ysOf, fillA]
    rw [if_pos ⟨h1, by rw [List.length_append, hA, hB']; omega⟩]
    have e1 : (A ++ B).take (j * size) = A := by rw [← hA, List.take_left]
    have e2 : (A ++ B).drop (j * size + size) = B.drop size := by rw [← hA, ← List.drop_drop, List.drop_left]
    rw [e1, e2, fillA_all r (j + 1) (A ++ v.cells) (B.drop size) (by rw [List.length_append, hA, h1, Nat.add_mul, Nat.one_mul]) (by rw [List.length_drop, hB']; omega) (fun v hv' => hv v (List.mem_cons_of_mem _ hv'))]
    rw [List.flatMap_cons, List.append_assoc]
theorem vRow_ok {s : St} {E size : Nat} : ∀ {ps : List (Nat × Operand)} {j : Nat} {xs : List AV}, vRow T s.eval E size j ps = some xs → PartsL s ps (ysOf j xs) ∧ (∀ v ∈ xs, v.cells.length = size ∧ v.part = true) ∧ xs.length = ps.length
  | [], j, xs, h => by cases h; exact ⟨trivial, ⟨(fun v hv => nomatch hv), rfl⟩⟩
  | (i, x) :: r, j, xs, h => by
    unfold vRow at h
    cases hij : Nat.beq i j with
    | false => rw [hij] at h; cases h
    | true =>
      rw [hij] at h
      simp only [cond_true] at h
      split at h
      · rename_i v hv
        cases hb : (v.part && Nat.beq v.cells.length size) with
        | false => rw [hb] at h; cases h
        | true =>
          rw [hb] at h
          simp only [Bool.and_eq_true] at hb
          simp only [cond_true] at h
          split at h
          · rename_i q hq
            cases h
            obtain ⟨h1, h2, h3⟩ := vRow_ok hq
            have h4 := vArg_ok hv
            refine ⟨⟨⟨Nat.eq_of_beq_eq_true hij, h4.1, hb.1, h4.2⟩, h1⟩, fun u hu => ?_, by rw [List.length_cons, List.length_cons, h3]⟩
            rcases List.mem_cons.1 hu with e | e
            · subst e; exact ⟨Nat.eq_of_beq_eq_true hb.2, hb.1⟩
            · exact h2 u e
          · cases h
      · cases h
theorem zcells_len (zs : List Value) (Es : List TypeId) : (zcells zs Es).length = zs.length := by
  fun_induction zcells zs Es <;> simp_all
theorem rep_len {α : Type _} (l : List α) : ∀ m : Nat, (List.replicate m l).flatten.length = m * l.length
  | 0 => by simp
  | m + 1 => by rw [List.replicate_succ, List.flatten_cons, List.length_append, rep_len l m, Nat.add_mul, Nat.one_mul, Nat.add_comm]
theorem slice_step (hT : TabOK P T) (hZ : ZtOK P Z) (hC : cndOf ops e.fr o = some C) (hd : o.dst = some d) {len : Nat} {ps : Array (Nat × Operand)} (ho : o.op = .buildSlice t len ps) (h : sPut n e d C (vSlice T Z (evE e.fr C) t len ps.toList) = some e') (k : COps P n ops rest e' Q) : COps P n ops (o :: rest) e Q := by
  unfold sPut at h
  cases hb : (subF C e.fr && truths e.fr C C) with
  | false => rw [hb] at h; cases h
  | true =>
    rw [hb] at h
    simp only [Bool.and_eq_true] at hb
    simp only [cond_true] at h
    obtain ⟨v, hv, rfl, hn, hg⟩ := putE_ok h
    rw [evE_fun] at hv
    unfold vSlice at hv
    split at hv
    · rename_i E z1 hl
      obtain ⟨⟨D, hD, hk⟩, _⟩ := Tab.ok hT hl
      have := kOf_slice hk; subst this
      split at hv
      · rename_i z2 size hl2
        obtain ⟨_, hs⟩ := Tab.ok hT hl2
        split at hv
        · rename_i zc hz
          obtain ⟨z, Es, h1, h2, rfl, _⟩ := Zt.ok hZ hz
          cases hc : (Nat.beq (zcells z.cells.toList Es).length size && Nat.beq len ps.toList.length && Nat.ble (len * size) 1000 && !(Nat.beq (len * size) 0)) with
          | false => rw [hc] at hv; cases hv
          | true =>
            rw [hc] at hv
            simp only [Bool.and_eq_true, Bool.not_eq_true'] at hc
            obtain ⟨⟨⟨c1, c2⟩, c3⟩, c4⟩ := hc
            simp only [cond_true] at hv
            split at hv
            · rename_i xs hxs
              cases hv
              obtain ⟨p1, p2, p3⟩ := vRow_ok hxs
              have hlen : xs.length = len := by rw [p3]; exact (Nat.eq_of_beq_eq_true c2).symm
              have hzs : z.cells.size = size := by have := Nat.eq_of_beq_eq_true c1; rw [zcells_len] at this; simpa using this
              have hne : ¬ len * size = 0 := fun e => by rw [e] at c4; cases c4
              have hle : len * size ≤ 1000 := Nat.le_of_ble_eq_true c3
              obtain ⟨i, hi, hisz⟩ := sizeOf_some hs
              have hiz : i.zero = some z := by rw [hi] at h1; simpa using h1
              refine COps.eff hC hd hn hg hb.1 hb.2 (fun _ Q' hk => AOps.buildSlice (i := i) (z := z) (Es := []) (cs := xs.flatMap AV.cells) (ys := ysOf 0 xs) trivial hd hn ho hD hi hisz hiz h2 ⟨by omega, hne⟩ p1.of ?_ hzs rfl (fun x hx => (p2 x hx).1) (fun x hx c hcm => ?_) hlen hk) rfl k
              · have := fillA_all (size := size) xs 0 [] (zcells (List.replicate len z.cells.toList).flatten []) (by simp) (by rw [zcells_len, rep_len, hlen, Array.length_toList, hzs]) (fun v hv => (p2 v hv).1)
                simpa using this
              · have := (p2 x hx).2
                cases x with
                | agg cs => exact List.all_eq_true.1 (show cs.all AV.scalar = true from this) c hcm
                | _ => simp only [AV.cells, List.mem_singleton] at hcm; subst hcm; exact this
            · cases hv
        · cases hv
      · cases hv
    · cases hv
theorem allEq_app {a b : List (Nat × Nat)} (h : allEq (a ++ b)) : allEq a ∧ allEq b := by
  induction a with
  | nil => exact ⟨trivial, h⟩
  | cons x r ih => exact ⟨⟨h.1, (ih h.2).1⟩, (ih h.2).2⟩

theorem COps.nd (h : e.nd → COps P n ops l e Q) : COps P n ops l e Q := fun G a w K hr hfx hK => h hr.nd G a w K hr hfx hK
theorem grab_step (hT : TabOK P T) (hC : cndOf ops e.fr o = some C) (hd : o.dst = some d) {x : Operand} {j id k : Nat} {cs : List AV} (ho : o.op = .load t x) (hx : (e.st C).eval x = .gptr id k) (hj : e.objs[j]? = some (id, cs)) (h : sGrab T n e d C t k j id cs = some e') (k' : COps P n ops rest e' Q) : COps P n ops (o :: rest) e Q := by
  obtain ⟨fr, gs, loc, objs, base⟩ := e
  unfold sGrab at h
  simp only at h
  cases hb : (plain ⟨fr, gs, loc, objs, base⟩ C && Nat.blt d n && scl cs) with
  | false => rw [hb] at h; cases h
  | true =>
    rw [hb] at h
    simp only [Bool.and_eq_true] at hb
    obtain ⟨⟨hb1, hb2⟩, hb3⟩ := hb
    have hn : d < n := Nat.le_of_ble_eq_true hb2
    obtain ⟨hgs, rfl⟩ := plain_ok hb1
    simp only [cond_true] at h
    split at h
    · rename_i E z hl
      obtain ⟨⟨D, hD, hk⟩, _⟩ := Tab.ok hT hl
      have := kOf_slice hk; subst this
      split at h
      · rename_i E2 xs hcs
        rw [forceL_eq, setO_eq] at h
        cases h
        refine COps.nd fun hnd => COps.eff0 (add := [(d, .list true E2 xs)]) (objs' := objs.set j (id, cs.set k (.list false E2 xs))) hgs (fun Q' hk => AOps.grabG (wants0 _ hC) hd hn ho hD hx (lay_nth hnd.1 hj) hcs rfl (lay_set hnd.1 hj) hk (scl_ok hb3).1 (scl_ok hb3).2) (fun h => ndO_set h (map_set_fst hj)) k'
      · cases h
    · cases h

theorem own_step (hT : TabOK P T) (hC : cndOf ops e.fr o = some []) (hd : o.dst = none) (hgs : e.gs = []) {x : Operand} {r j id k : Nat} {cs : List AV} (ho : o.op = .store t x (.tmp r)) (hx : (e.st []).eval x = .gptr id k) (hj : e.objs[j]? = some (id, cs)) (hall : cs.all AV.scalar = true) (hne : cs ≠ []) (h : sOwn T e t r k j id cs = some e') (k' : COps P n ops rest e' Q) : COps P n ops (o :: rest) e Q := by
  obtain ⟨fr, gs, loc, objs, base⟩ := e
  unfold sOwn at h
  simp only at h
  split at h
  · rename_i E hl
    obtain ⟨_, hs⟩ := Tab.ok hT hl
    split at h
    · rename_i E2 xs hg
      cases hb : Nat.blt k cs.length with
      | false => rw [hb] at h; cases h
      | true =>
        rw [hb] at h
        simp only [cond_true, forceL_eq, setO_eq] at h
        cases h
        refine COps.nd fun hnd => COps.eff0 (add := [(r, .list false E2 xs)]) (objs' := objs.set j (id, cs.set k (.list true E2 xs))) hgs (fun Q' hk => AOps.storeOwn (wants0 _ hC) hd ho hx (lay_nth hnd.1 hj) hs ((st_get _ [] r).trans hg) (Nat.le_of_ble_eq_true hb) (lay_set hnd.1 hj) hk hall hne) (fun h => ndO_set h (map_set_fst hj)) k'
    · cases h
  · cases h

theorem stepE_ok (hT : TabOK P T) (hZ : ZtOK P Z) (h : stepE T Z n ops L H e o = some (e', q, H')) (hq : allEq q) (k : COps P n ops rest e' Q) : COps P n ops (o :: rest) e Q := by
  unfold stepE at h
  split at h
  · cases h
  rename_i C hC
  rw [forceC_eq] at h
  split at h
  · rename_i d hd
    split at h
    · rename_i x ho
      cases hb : (isNil x || memN d L) with
      | true => rw [hb] at h; exact steal_step hC hd (.inr ho) (ok0_ok h).1 k
      | false => rw [hb] at h; exact put_stepV hT hC hd ho (ok0_ok h).1 k
    · rename_i x ho
      cases hb : memN d L with
      | true => rw [hb] at h; exact steal_step hC hd (.inl ho) (ok0_ok h).1 k
      | false => rw [hb] at h; exact put_stepV hT hC hd ho (ok0_ok h).1 k
    · rename_i x m ho
      cases hb : memN d L with
      | true => rw [hb] at h; exact take_step hC hd ho (ok0_ok h).1 k
      | false => rw [hb] at h; exact put_stepV hT hC hd ho (ok0_ok h).1 k
    · rename_i c x y ho
      obtain ⟨v', hv, rfl, h1, h2⟩ := putE_ok (ok0_ok h).1
      exact COps.pick ho hv hC hd h1 h2 k
    · rename_i t ps ho
      refine put_step hC hd (ok0_ok h).1 (fun v' hv => ?_) k
      rw [evE_fun] at hv
      exact vBuild_ok hT hZ ho hv
    · rename_i t len ps ho
      exact slice_step hT hZ hC hd ho (ok0_ok h).1 k
    · rename_i t ho
      refine var_step hC hd (ok0_ok h).1 (fun cells hc hp hn hl hnl hsc hfl Q' hk => ?_) k
      obtain ⟨z, Es, h1, h2, h3, _⟩ := Zt.ok hZ hc
      have := (plain_ok hp).2
      subst this
      exact AOps.alloc (wants0 _ hC) hd hn hl hnl ho h1 h2 h3 hsc hfl hk
    · rename_i t x ho
      refine var_step hC hd (ok0_ok h).1 (fun cells hc hp hn hl hnl hsc hfl Q' hk => ?_) k
      have := (plain_ok hp).2
      subst this
      rw [evE_fun] at hc
      unfold vBox at hc
      split at hc
      · rename_i v hv
        obtain ⟨h1, h2⟩ := vArg_ok hv
        cases hp : v.part with
        | false => rw [hp] at hc; cases hc
        | true =>
          rw [hp] at hc; cases hc
          exact AOps.box (v := v) (wants0 _ hC) hd hn hl hnl ho h1 h2 hp hfl hk
      · cases hc
    · rename_i t x ho
      split at h
      · rename_i id kk hx
        rw [evE_eq] at hx
        split at h
        · rename_i H0 j H1
          split at h
          · rename_i id' cs hj
            cases hb : memN d L with
            | true =>
              rw [hb] at h
              simp only [cond_true] at h
              split at h
              · rename_i e2 hs
                cases h
                have : id = id' := hq.1
                subst this
                exact grab_step hT hC hd ho hx hj hs k
              · cases h
            | false =>
              rw [hb] at h
              simp only [cond_false] at h
              split at h
              · rename_i v hv
                cases hc : (scl cs && v.flat) with
                | false => rw [hc] at h; cases h
                | true =>
                  rw [hc] at h
                  simp only [Bool.and_eq_true] at hc
                  simp only [cond_true] at h
                  split at h
                  · rename_i e2 hs
                    cases h
                    have : id = id' := hq.1
                    subst this
                    refine COps.nd fun hnd => put_step hC hd hs (fun v' hv' => ?_) k
                    cases hv'
                    obtain ⟨D, size, h1, h2, h3⟩ := vLoad_ok hT hv
                    exact Reader.loadG ho h1 h2 hx (lay_nth hnd.1 hj) h3 hc.2 (scl_ok hc.1).1 (scl_ok hc.1).2
                  · cases h
              · cases h
          · cases h
        · cases h
      · exact put_stepV hT hC hd ho (ok0_ok h).1 k
    · rename_i c ho
      split at h
      · rename_i hc
        split at h
        · rename_i x ha
          split at h
          · rename_i o2 E2 xs hx
            rw [evE_eq] at hx
            split at h
            · rename_i t hat
              split at h
              · rename_i E hel
                unfold elemOf at hel
                split at hel
                · rename_i E3 z hl
                  obtain ⟨⟨D, hD, hk⟩, _⟩ := Tab.ok hT hl
                  have := kOf_slice hk; subst this
                  split at h
                  · rename_i H0 m H1
                    split at h
                    · rename_i e2 hs
                      cases h
                      have : xs.length = m := hq.1
                      refine put_step hC hd hs (fun v' hv' => ?_) k
                      cases hv'
                      exact Reader.len' ho hc (Array.toList_inj.1 ha) (Array.toList_inj.1 hat) hD hx this
                    · cases h
                  · cases h
                · cases hel
              · cases h
            · cases h
          · exact put_stepV hT hC hd ho (ok0_ok h).1 k
        · cases h
      · exact put_stepV hT hC hd ho (ok0_ok h).1 k
    · rename_i h1 h2 h3 h4 h5 h6 h7 h8 h9 h10
      exact put_stepV hT hC hd rfl (ok0_ok h).1 k
  · rename_i hd
    split at h
    · rename_i t x y ho
      cases hb : plain e C with
      | false => rw [hb] at h; cases h
      | true =>
        rw [hb] at h
        obtain ⟨hgs, rfl⟩ := plain_ok hb
        simp only [cond_true] at h
        split at h
        · rename_i b kk hx
          rw [evE_eq] at hx
          split at h
          · rename_i cs hc
            split at h
            · rename_i cs' hs
              obtain ⟨fr, gs, loc, objs, base⟩ := e
              cases h
              rw [evE_fun] at hs
              obtain ⟨size, v, g1, g2, g3, g4, g5, g6, g7, rfl⟩ := vStore_ok hT hs
              exact COps.eff0 (add := []) hgs (fun Q' hk => AOps.storeL (wants0 _ hC) hd ho hx hc g1 g2 g3 g4 g5 g6 g7 hk) id k
            · cases h
          · cases h
        · rename_i id kk hx
          rw [evE_eq] at hx
          split at h
          · rename_i H0 j H1
            split at h
            · rename_i id' cs hj
              cases hc : scl cs with
              | false => rw [hc] at h; cases h
              | true =>
                rw [hc] at h
                simp only [cond_true] at h
                split at h
                · rename_i r hr
                  have hyr : y = .tmp r := by
                    unfold tmpIn at hr
                    split at hr
                    · rename_i r'
                      cases hm : memN r' L with
                      | true => rw [hm] at hr; cases hr; rfl
                      | false => rw [hm] at hr; cases hr
                    · cases hr
                  subst hyr
                  split at h
                  · rename_i e2 hs
                    cases h
                    have : id = id' := hq.1
                    subst this
                    exact own_step hT hC hd hgs ho hx hj (scl_ok hc).1 (scl_ok hc).2 hs k
                  · cases h
                · split at h
                  · rename_i cs' hs
                    obtain ⟨fr, gs, loc, objs, base⟩ := e
                    simp only [setO_eq] at h
                    cases h
                    have : id = id' := hq.1
                    subst this
                    rw [evE_fun] at hs
                    obtain ⟨size, v, g1, g2, g3, g4, g5, g6, g7, rfl⟩ := vStore_ok hT hs
                    exact COps.nd fun hnd => COps.eff0 (add := []) hgs (fun Q' hk => AOps.storeG (wants0 _ hC) hd ho hx (lay_nth hnd.1 hj) g1 g2 g3 g4 g5 g6 g7 (lay_set hnd.1 hj) hk (scl_ok hc).1 (scl_ok hc).2) (fun h => ndO_set h (map_set_fst hj)) k
                  · cases h
            · cases h
          · cases h
        · cases h
    · cases h

theorem runE_ok (hT : TabOK P T) (hZ : ZtOK P Z) : ∀ (m : Nat) (H : List Nat) (l : List Oper) (e : Es) (q0 : List (Nat × Nat)) {l' : List Oper} {e' : Es} {q : List (Nat × Nat)}, runE T Z n ops L m H l e q0 = some (l', e', q) → (allEq q → allEq q0) ∧ (allEq q → COps P n ops l' e' Q → COps P n ops l e Q)
  | 0, [], l, e, q0, l', e', q, h => by cases h; exact ⟨id, fun _ k => k⟩
  | m + 1, H, o :: l, e, q0, l', e', q, h => by
    unfold runE at h
    split at h
    · rename_i e1 q1 H1 hs
      obtain ⟨h1, h2⟩ := runE_ok hT hZ m H1 l e1 (q1 ++ q0) h
      exact ⟨fun hq => (allEq_app (h1 hq)).2, fun hq k => stepE_ok hT hZ hs (allEq_app (h1 hq)).1 (h2 hq k)⟩
    · cases h
  | 0, _ :: _, l, e, q0, l', e', q, h => by cases h
  | m + 1, H, [], e, q0, l', e', q, h => by cases h
/-- Some operations, one behind the other. -/
theorem COps.run (hT : TabOK P T) (hZ : ZtOK P Z) (m : Nat) (H L : List Nat) {l' : List Oper} {q : List (Nat × Nat)} (h : runE T Z n ops L m H l e [] = some (l', e', q)) (hq : allEq q) (k : COps P n ops l' e' Q) : COps P n ops l e Q := (runE_ok hT hZ m H l e [] h).2 hq k
/-- Fewer slots are spoken of, with what they hang on. -/
def keepGF {α : Type _} (fr : Fr) : List Nat → (Fr → α) → α
  | [], k => k []
  | i :: r, k => match getE fr i with
    | (D, v) => forceC D fun D => v.force fun v => keepGF fr r fun q => k ((i, D, v) :: q)
def keepGE : Es → List Nat → Option Es
  | ⟨fr, gs, loc, objs, base⟩, ls => keepGF fr ls fun fr => some ⟨fr, gs, loc, objs, base⟩
theorem keepGF_eq {α : Type _} (fr : Fr) : ∀ (ls : List Nat) (k : Fr → α), keepGF fr ls k = k (ls.map fun i => (i, getE fr i))
  | [], k => rfl
  | i :: r, k => by unfold keepGF; simp only [forceC_eq, AV.force_eq]; rw [keepGF_eq fr r]; rfl
theorem getE_keepG (fr : Fr) (i : Nat) : ∀ ls : List Nat, getE (ls.map fun i => (i, getE fr i)) i = getE fr i ∨ getE (ls.map fun i => (i, getE fr i)) i = ([], .any)
  | [] => .inr rfl
  | j :: r => by
    simp only [List.map_cons, getE]
    cases h : Nat.beq j i with
    | true => rw [Nat.eq_of_beq_eq_true h]; exact .inl rfl
    | false => exact getE_keepG fr i r
theorem COps.keepG (ls : List Nat) (h : keepGE e ls = some e') (k : COps P n ops l e' Q) : COps P n ops l e Q := by
  obtain ⟨fr, gs, loc, objs, base⟩ := e
  unfold keepGE at h
  simp only [keepGF_eq] at h
  cases h
  intro G a w K hr hfx hK
  refine k G a w K ⟨hr.size, hr.defers, fun i hc => ?_, fun i hc => ?_, fun i p hp => ?_, hr.loc, hr.mem, hr.nd⟩ hfx hK
  · rcases getE_keepG fr i ls with e | e
    · have := hr.slot i
      simp only at hc ⊢
      rw [e] at hc ⊢
      exact this hc
    · simp only
      rw [e]; exact RelV.any _
  · rcases getE_keepG fr i ls with e | e
    · simp only at hc
      rw [e] at hc
      exact hr.off i hc
    · simp only at hc
      rw [e] at hc
      exact absurd condOK_nil hc
  · rcases getE_keepG fr i ls with e | e
    · simp only at hp
      rw [e] at hp
      exact hr.gs i p hp
    · simp only at hp
      rw [e] at hp; cases hp
end
end
section
open Go.RowKit

def BtOK (P : Program) : List Nat → Prop
  | [] => True
  | E :: r => (∃ ti z, P.info? E = some ti ∧ ti.zero = some z ∧ z.cells.size = ti.size ∧ Nat.ble ti.bytes 2048 = true) ∧ BtOK P r
theorem BtOK.at {P : Program} {E : Nat} : ∀ {B : List Nat}, BtOK P B → memN E B = true → ∃ ti z, P.info? E = some ti ∧ ti.zero = some z ∧ z.cells.size = ti.size ∧ ti.bytes ≤ 2048
  | F :: r, h, hm => by
    simp only [memN] at hm
    cases e : Nat.beq E F with
    | true =>
      rw [Nat.eq_of_beq_eq_true e]
      obtain ⟨ti, z, h1, h2, h3, h4⟩ := h.1
      exact ⟨ti, z, h1, h2, h3, Nat.le_of_ble_eq_true h4⟩
    | false => rw [e] at hm; exact BtOK.at h.2 hm
  | [], _, hm => by cases hm
/-- A program's types, told. -/
class HasTab (P : Program) where
  T : Tab
  Z : Zt
  B : List Nat
  tok : TabOK P T
  zok : ZtOK P Z
  bok : BtOK P B

def bO {α β : Type _} (x : Option α) (k : α → Option β) : Option β := match x with
  | some a => k a
  | none => none
theorem bI {α β : Type _} {x : Option α} {k : α → Option β} {r : β} (h : bO x k = some r) : ∃ v, x = some v ∧ k v = some r := by
  cases x with
  | none => cases h
  | some v => exact ⟨v, rfl, h⟩
@[simp] theorem bO_some {α β : Type _} (a : α) (k : α → Option β) : bO (some a) k = k a := rfl
@[simp] theorem bO_none {α β : Type _} (k : α → Option β) : bO none k = none := rfl
theorem gd {α : Type _} {b : Bool} {X Y : Option α} {r : α} (h : (bif b then X else Y) = some r) (hb : b = true) : X = some r := by subst hb; exact h
theorem gdf {α : Type _} {b : Bool} {X Y : Option α} {r : α} (h : (bif b then X else Y) = some r) (hb : b = false) : Y = some r := by subst hb; exact h

def idx {α : Type _} (l : List α) (i : Int) : Option α := if 0 ≤ i then l[i.toNat]? else none
theorem idx_of {α : Type _} {l : List α} {i : Int} {c : α} (h : idx l i = some c) : ∃ m : Nat, i = m ∧ l[m]? = some c := by
  unfold idx at h
  split at h
  · exact ⟨i.toNat, by omega, h⟩
  · cases h
def slO {α : Type _} (l : List α) (i j : Int) : Option (List α) := if 0 ≤ i ∧ i ≤ j ∧ j ≤ l.length then some ((l.take j.toNat).drop i.toNat) else none
theorem slO_ok {α : Type _} {l m : List α} {i j : Int} (h : slO l i j = some m) : ∃ a b : Nat, i = a ∧ j = b ∧ a ≤ b ∧ b ≤ l.length ∧ m = (l.take b).drop a := by
  unfold slO at h
  split at h
  · cases h; exact ⟨i.toNat, j.toNat, by omega, by omega, by omega, by omega, rfl⟩
  · cases h
abbrev lim : Nat := 68719476736
def appO {α : Type _} (l m : List α) : Option (List α) := if l.length + m.length ≤ lim then some (l ++ m) else none
theorem appO_ok {α : Type _} {l m r : List α} (h : appO l m = some r) : l.length + m.length ≤ lim ∧ r = l ++ m := by
  unfold appO at h
  split at h
  · cases h; exact ⟨‹_›, rfl⟩
  · cases h
theorem appO_eq {α : Type _} {l m : List α} (h : l.length + m.length ≤ lim) : appO l m = some (l ++ m) := if_pos h

abbrev zU8 (b : UInt8) : AV := .lit (.int .u8 (b.toNat : Int))
section
variable {P : Program} {n : Nat} {e e' : Es} {ops : Array Oper} {l rest : List Oper} {o : Oper} {Q : Es → Prop} {QE : Exit → Es → Prop} {d : Nat} {T : Tab} {Z : Zt} {v : AV} {C : Cnd} {t E : Nat} {x y : Operand} {k : IntKind} {i : Int}

/-- A step that reads, in the shape that printed walks use: under no condition; under some. -/
theorem rd {fr : Fr} {gs : List Nat} {loc : List (Nat × List AV)} {objs : Ob} {base : Nat → Option (List AV)} (h : Reader P n ((⟨fr, gs, loc, objs, base⟩ : Es).st []) o d v) (g : COps P n ops rest ⟨(d, [], v) :: fr, gs, loc, objs, base⟩ Q)
    (hC : cndOf ops fr o = some [] := by rfl) (hd : o.dst = some d := by rfl) (hn : Nat.blt d n = true := by rfl) (hg : memN d gs = false := by rfl) : COps P n ops (o :: rest) ⟨fr, gs, loc, objs, base⟩ Q :=
  COps.readG (e := ⟨fr, gs, loc, objs, base⟩) hC hd (Nat.le_of_ble_eq_true hn) hg (fun _ => h) g
theorem rdg {fr : Fr} {gs : List Nat} {loc : List (Nat × List AV)} {objs : Ob} {base : Nat → Option (List AV)} (t : Nat) (b : Bool) (D : Cnd) (h : truthsP fr ((t, b) :: D) ((t, b) :: D) → Reader P n ((⟨fr, gs, loc, objs, base⟩ : Es).st ((t, b) :: D)) o d v) (g : COps P n ops rest ⟨(d, (t, b) :: D, v) :: fr, t :: gs, loc, objs, base⟩ Q)
    (hC : cndOf ops fr o = some ((t, b) :: D) := by rfl) (hd : o.dst = some d := by rfl) (hn : Nat.blt d n = true := by rfl) (hg : memN d (t :: gs) = false := by rfl) : COps P n ops (o :: rest) ⟨fr, gs, loc, objs, base⟩ Q :=
  COps.readG (e := ⟨fr, gs, loc, objs, base⟩) hC hd (Nat.le_of_ble_eq_true hn) hg h g

theorem ev_st (h : evE e.fr C x = v) : (e.st C).eval x = v := (evE_eq e C x).symm.trans h
/-- An element's address. -/
theorem rIx [I : HasTab P] {α : Type} {l : List α} {f : α → AV} {c : α} {ow : Bool} {s z : Nat} {kk : TK} (he : idx l i = some c) (ho : o.op = .indexAddr t x y := by rfl) (h1 : (HasTab.T P).look t = some (.slice E, z) := by rfl) (h2 : (HasTab.T P).look E = some (kk, s) := by rfl)
    (hx : evE e.fr C x = .list ow E (l.map f) := by rfl) (hy : evE e.fr C y = .lit (.int k i) := by rfl) : Reader P n (e.st C) o d (.eptr (f c) 0) := by
  obtain ⟨⟨D, hD, hk⟩, _⟩ := Tab.ok I.tok h1
  have := kOf_slice hk; subst this
  obtain ⟨m, hm, hc⟩ := idx_of (he)
  exact Reader.elemAddr ho hD (Tab.ok I.tok h2).2 (ev_st hx) (ev_st hy) hm (map_at hc)
/-- A text's byte. -/
theorem rBy [I : HasTab P] {l : List UInt8} {c : UInt8} {z : Nat} (he : idx l i = some c) (ho : o.op = .index t x y := by rfl) (h1 : (HasTab.T P).look t = some (.str, z) := by rfl)
    (hx : evE e.fr C x = .str l := by rfl) (hy : evE e.fr C y = .lit (.int k i) := by rfl) : Reader P n (e.st C) o d (zU8 c) := by
  obtain ⟨⟨D, hD, hk⟩, _⟩ := Tab.ok I.tok h1
  have := kOf_str hk; subst this
  obtain ⟨m, hm, hc⟩ := idx_of (he)
  exact Reader.byte ho hD (ev_st hx) (ev_st hy) hm hc
/-- Texts, one behind the other. -/
theorem rCat {l m r : List UInt8} {t' : Nat} (he : appO l m = some r) (ho : o.op = .binOp .add t x y t' := by rfl) (hx : evE e.fr C x = .str l := by rfl) (hy : evE e.fr C y = .str m := by rfl) : Reader P n (e.st C) o d (.str r) := by
  obtain ⟨h1, rfl⟩ := appO_ok (he)
  exact Reader.cat ho (ev_st hx) (ev_st hy) (Nat.le_trans h1 (by decide)) rfl
def bndE (ev : Operand → AV) (x : Option Operand) (v : Int) : Prop := match x with
  | none => True
  | some x => ∃ k, ev x = .lit (.int k v)
theorem bnd_of {x : Option Operand} {df m : Nat} {v : Int} (h : bndE (evE e.fr C) x v) (h0 : x = none → df = m) (hv : v = m) : bnd (e.st C) x df m := by
  cases x with
  | none => exact (h0 rfl).symm
  | some x => obtain ⟨k, h⟩ := h; exact ⟨k, v, ev_st h, hv⟩
/-- A piece of a text. -/
theorem rSub [I : HasTab P] {l m : List UInt8} {z : Nat} {lo hi : Option Operand} {i j : Int} (he : slO l i j = some m) (ho : o.op = .slice t x lo hi none := by rfl) (h1 : (HasTab.T P).look t = some (.str, z) := by rfl) (hx : evE e.fr C x = .str l := by rfl)
    (hl : bndE (evE e.fr C) lo i := by first | exact trivial | exact ⟨_, rfl⟩) (hh : bndE (evE e.fr C) hi j := by first | exact trivial | exact ⟨_, rfl⟩) (hl0 : lo = none → i = 0 := by first | (intro _; rfl) | (intro h; cases h)) (hh0 : hi = none → j = (l.length : Int) := by first | (intro _; rfl) | (intro h; cases h)) : Reader P n (e.st C) o d (.str m) := by
  obtain ⟨⟨D, hD, hk⟩, _⟩ := Tab.ok I.tok h1
  have := kOf_str hk; subst this
  obtain ⟨a, b, rfl, rfl, h3, h4, rfl⟩ := slO_ok (he)
  exact Reader.sub ho hD (ev_st hx) (bnd_of hl (fun h => by have := hl0 h; omega) rfl) (bnd_of hh (fun h => by have := hh0 h; omega) rfl) h3 h4 rfl
/-- A piece of a list. -/
theorem rPc [I : HasTab P] {α : Type} {l m : List α} {f : α → AV} {ow : Bool} {z s : Nat} {kk : TK} {lo hi : Option Operand} {i j : Int} (he : slO l i j = some m) (ho : o.op = .slice t x lo hi none := by rfl) (h1 : (HasTab.T P).look t = some (.slice E, z) := by rfl) (h2 : (HasTab.T P).look E = some (kk, s) := by rfl) (hx : evE e.fr C x = .list ow E (l.map f) := by rfl)
    (hl : bndE (evE e.fr C) lo i := by first | exact trivial | exact ⟨_, rfl⟩) (hh : bndE (evE e.fr C) hi j := by first | exact trivial | exact ⟨_, rfl⟩) (hl0 : lo = none → i = 0 := by first | (intro _; rfl) | (intro h; cases h)) (hh0 : hi = none → j = (l.length : Int) := by first | (intro _; rfl) | (intro h; cases h)) : Reader P n (e.st C) o d (.list false E (m.map f)) := by
  obtain ⟨⟨D, hD, hk⟩, _⟩ := Tab.ok I.tok h1
  have := kOf_slice hk; subst this
  obtain ⟨a, b, rfl, rfl, h3, h4, rfl⟩ := slO_ok (he)
  exact Reader.piece ho hD (Tab.ok I.tok h2).2 (ev_st hx) (bnd_of hl (fun h => by have := hl0 h; omega) rfl) (bnd_of hh (fun h => by have := hh0 h; rw [List.length_map]; omega) rfl) h3 (by rw [List.length_map]; exact h4) (by rw [List.map_drop, List.map_take])
/-- A division by what isn't 0. -/
def quoO (k : IntKind) (i j : Int) : Option Int := if j = 0 then none else some (k.wrap (i.tdiv j))
def remO (i j : Int) : Option Int := if j = 0 then none else some (i.tmod j)
theorem rQuo {i j r : Int} {t' : Nat} (he : quoO k i j = some r) (ho : o.op = .binOp .quo t x y t' := by rfl) (hx : evE e.fr C x = .lit (.int k i) := by rfl) (hy : evE e.fr C y = .lit (.int k j) := by rfl) : Reader P n (e.st C) o d (.lit (.int k r)) := by
  have h := he
  unfold quoO at h
  split at h
  · cases h
  · cases h; exact Reader.quo ho (ev_st hx) (ev_st hy) ‹_› rfl
theorem rRem {i j r : Int} {t' : Nat} (he : remO i j = some r) (ho : o.op = .binOp .rem t x y t' := by rfl) (hx : evE e.fr C x = .lit (.int k i) := by rfl) (hy : evE e.fr C y = .lit (.int k j) := by rfl) : Reader P n (e.st C) o d (.lit (.int k r)) := by
  have h := he
  unfold remO at h
  split at h
  · cases h
  · cases h; exact Reader.rem ho (ev_st hx) (ev_st hy) ‹_› rfl
/-- Bytes as a text. -/
theorem rStr [I : HasTab P] {l : List UInt8} {ow : Bool} {t' z z2 z3 : Nat} (ho : o.op = .convert t t' x := by rfl) (h1 : (HasTab.T P).look t = some (.slice E, z) := by rfl) (h2 : (HasTab.T P).look t' = some (.str, z2) := by rfl) (h3 : (HasTab.T P).look E = some (.int .u8, z3) := by rfl) (hx : evE e.fr C x = .list ow E (l.map zU8) := by rfl) :
    Reader P n (e.st C) o d (.str l) := by
  obtain ⟨⟨D, hD, hk⟩, _⟩ := Tab.ok I.tok h1
  have := kOf_slice hk; subst this
  obtain ⟨⟨D2, hD2, hk2⟩, _⟩ := Tab.ok I.tok h2
  have := kOf_str hk2; subst this
  obtain ⟨⟨D3, hD3, hk3⟩, _⟩ := Tab.ok I.tok h3
  have := kOf_int hk3; subst this
  exact Reader.ofBytes ho hD hD2 hD3 (ev_st hx)

/-- Lists, one behind the other: the first is owned. -/
theorem cApp [I : HasTab P] {fr : Fr} {loc : List (Nat × List AV)} {objs : Ob} {base : Nat → Option (List AV)} {α : Type} {f : α → AV} {l m r : List α} {o2 : Bool} {rs t tx z1 z2 : Nat} {c : Call} (he : appO l m = some r) (g : COps P n ops rest ⟨(d, [], .list true E (r.map f)) :: (rs, [], .list false E (l.map f)) :: fr, [], loc, objs, base⟩ Q)
    (hC : cndOf ops fr o = some [] := by rfl) (hd : o.dst = some d := by rfl) (hn : Nat.blt d n = true := by rfl) (ho : o.op = .call c := by rfl) (hc : c.callee = .builtin .append := by rfl) (ha : c.args = #[.tmp rs, y] := by rfl) (hat : c.argTypes = #[t, tx] := by rfl) (hrd : Nat.beq rs d = false := by rfl)
    (h1 : (HasTab.T P).look t = some (.slice E, z1) := by rfl) (h2 : (HasTab.T P).look tx = some (.slice E, z2) := by rfl) (hB : memN E (HasTab.B P) = true := by rfl) (hx : getV fr [] rs = .list true E (l.map f) := by rfl) (hy : evE fr [] y = .list o2 E (m.map f) := by rfl) : COps P n ops (o :: rest) ⟨fr, [], loc, objs, base⟩ Q := by
  obtain ⟨⟨D, hD, hk⟩, _⟩ := Tab.ok I.tok h1
  have := kOf_slice hk; subst this
  obtain ⟨⟨D2, hD2, hk2⟩, _⟩ := Tab.ok I.tok h2
  have := kOf_slice hk2; subst this
  obtain ⟨ti, z, hi, hz, hzs, hb⟩ := BtOK.at I.bok hB
  obtain ⟨hl, rfl⟩ := appO_ok he
  refine COps.eff0 (add := [(d, .list true E ((l ++ m).map f)), (rs, .list false E (l.map f))]) rfl (fun Q' hk => AOps.appL (wants0 (e := ⟨fr, [], loc, objs, base⟩) _ hC) hd (Nat.le_of_ble_eq_true hn) (fun e => by subst e; rw [Nat.beq_refl] at hrd; cases hrd) ho hc ha hat hD hD2 hi hz rfl rfl hzs ((st_get _ [] rs).trans hx) (ev_st hy) (m1 := l.length) (m2 := m.length) (List.length_map ..) (List.length_map ..)
    (Nat.le_trans hl (by decide)) (Nat.le_trans (Nat.mul_le_mul hl hb) (by decide)) List.map_append.symm hk) id g
/-- A text's bytes. -/
theorem cBytes [I : HasTab P] {fr : Fr} {loc : List (Nat × List AV)} {objs : Ob} {base : Nat → Option (List AV)} {l : List UInt8} {t t' z1 z2 : Nat} (he : l.length ≤ lim) (g : COps P n ops rest ⟨(d, [], .list false E (l.map zU8)) :: fr, [], loc, objs, base⟩ Q)
    (hC : cndOf ops fr o = some [] := by rfl) (hd : o.dst = some d := by rfl) (hn : Nat.blt d n = true := by rfl) (ho : o.op = .convert t t' x := by rfl) (h1 : (HasTab.T P).look t = some (.str, z1) := by rfl) (h2 : (HasTab.T P).look t' = some (.slice E, z2) := by rfl) (h3 : (HasTab.T P).look E = some (.int .u8, 1) := by rfl)
    (hx : evE fr [] x = .str l := by rfl) : COps P n ops (o :: rest) ⟨fr, [], loc, objs, base⟩ Q := by
  obtain ⟨⟨D, hD, hk⟩, _⟩ := Tab.ok I.tok h1
  have := kOf_str hk; subst this
  obtain ⟨⟨D2, hD2, hk2⟩, _⟩ := Tab.ok I.tok h2
  have := kOf_slice hk2; subst this
  obtain ⟨⟨D3, hD3, hk3⟩, hs⟩ := Tab.ok I.tok h3
  have := kOf_int hk3; subst this
  exact COps.eff0 (add := [(d, .list false E (l.map zU8))]) rfl (fun Q' hk => AOps.toBytes (_D := .bool) (wants0 (e := ⟨fr, [], loc, objs, base⟩) _ hC) hd (Nat.le_of_ble_eq_true hn) ho hD hD2 hD3 (ev_st hx) hs (Nat.le_trans he (by decide)) hk) id g
def bytesO (l : List UInt8) : Option (List UInt8) := if l.length ≤ lim then some l else none
theorem bytesO_ok {l m : List UInt8} (h : bytesO l = some m) : l.length ≤ lim ∧ m = l := by
  unfold bytesO at h
  split at h
  · cases h; exact ⟨‹_›, rfl⟩
  · cases h

/-- What a call comes to: what it answers, and the objects that it was handed, behind it. -/
def FCall (P : Program) (f : FuncId) (args : List AV) (ins : Ob) (R : AV → Ob → Prop) : Prop :=
  ∀ base, ndO ins base → ACall P f args (lay ins base) fun r M' => ∃ outs, R r outs ∧ M' = lay outs base ∧ ndO outs base
/-- .. of a function that touches none. -/
def PCall (P : Program) (f : FuncId) (args : List AV) (v : AV) : Prop := FCall P f args [] fun r outs => r = v ∧ outs = []
theorem PCall.all {f : FuncId} {args : List AV} {v : AV} (h : PCall P f args v) (M : Nat → Option (List AV)) : ACall P f args M fun r M' => r = v ∧ M = M' := by
  refine (h M ⟨List.nodup_nil, fun i hi => by cases hi⟩).mono ?_
  rintro r M' ⟨outs, ⟨rfl, rfl⟩, rfl, _⟩
  exact ⟨rfl, rfl⟩
theorem PCall.of {f : FuncId} {args : List AV} {v : AV} (h : ∀ M, ACall P f args M fun r M' => r = v ∧ M = M') : PCall P f args v := by
  intro base hnd
  refine (h base).mono ?_
  rintro r M' ⟨rfl, rfl⟩
  exact ⟨[], ⟨rfl, rfl⟩, rfl, hnd⟩

theorem lay_app (base : Nat → Option (List AV)) : ∀ (A B : Ob), lay (A ++ B) base = lay A (lay B base)
  | [], B => rfl
  | (i, c) :: r, B => by show setM (lay (r ++ B) base) i c = _; rw [lay_app base r B]; rfl
theorem lay_none {base : Nat → Option (List AV)} {i : Nat} : ∀ {A : Ob}, i ∉ A.map (·.1) → lay A base i = base i
  | [], _ => rfl
  | (j, c) :: r, h => by
    simp only [List.map_cons, List.mem_cons, not_or] at h
    show setM (lay r base) j c i = _
    rw [setM_ne h.1, lay_none h.2]
/-- Some objects ahead of the others. -/
def pickO : List Nat → Ob → Option (Ob × Ob)
  | [], objs => some ([], objs)
  | j :: r, objs => match objs[j]? with
    | some p => match pickO r (objs.eraseIdx j) with
      | some (a, b) => some (p :: a, b)
      | none => none
    | none => none
theorem erase_perm {α : Type _} : ∀ {l : List α} {j : Nat} {p : α}, l[j]? = some p → (p :: l.eraseIdx j).Perm l
  | a :: r, 0, p, h => by simp at h; subst h; exact List.Perm.refl _
  | a :: r, j + 1, p, h => by
    simp only [List.getElem?_cons_succ] at h
    simp only [List.eraseIdx_cons_succ]
    exact (List.Perm.swap a p _).trans (List.Perm.cons a (erase_perm h))
  | [], j, p, h => by simp at h
theorem pickO_perm : ∀ {sel : List Nat} {objs A B : Ob}, pickO sel objs = some (A, B) → (A ++ B).Perm objs
  | [], objs, A, B, h => by cases h; exact List.Perm.refl _
  | j :: r, objs, A, B, h => by
    unfold pickO at h
    split at h
    · rename_i p hp
      split at h
      · rename_i a b hab
        cases h
        have := pickO_perm hab
        exact (List.Perm.cons _ this).trans (erase_perm hp)
      · cases h
    · cases h
theorem lay_perm {base : Nat → Option (List AV)} {A B : Ob} (h : A.Perm B) (hn : (A.map (·.1)).Nodup) : lay A base = lay B base := by
  induction h with
  | nil => rfl
  | cons x _ ih =>
    simp only [List.map_cons, List.nodup_cons] at hn
    show setM (lay _ base) x.1 x.2 = setM (lay _ base) x.1 x.2
    rw [ih hn.2]
  | swap x y l =>
    simp only [List.map_cons, List.nodup_cons, List.mem_cons, not_or] at hn
    show setM (setM (lay l base) x.1 x.2) y.1 y.2 = setM (setM (lay l base) y.1 y.2) x.1 x.2
    exact (setM_swap' hn.1.1 rfl)
  | trans h1 h2 ih1 ih2 =>
    rw [ih1 hn, ih2 ((h1.map _).nodup_iff.1 hn)]
theorem ndO_perm {base : Nat → Option (List AV)} {A B : Ob} (h : A.Perm B) (hn : ndO A base) : ndO B base := ⟨(h.map _).nodup_iff.1 hn.1, fun i hi => hn.2 i ((h.map _).mem_iff.2 hi)⟩
theorem ndO_app {base : Nat → Option (List AV)} {A B : Ob} (h : ndO (A ++ B) base) : ndO A (lay B base) ∧ ndO B base := by
  obtain ⟨h1, h2⟩ := h
  rw [List.map_append] at h1 h2
  obtain ⟨a1, a2, a3⟩ := List.nodup_append.1 h1
  refine ⟨⟨a1, fun i hi => ?_⟩, a2, fun i hi => h2 i (List.mem_append_right _ hi)⟩
  rw [lay_none (fun hb => a3 i hi i hb rfl)]
  exact h2 i (List.mem_append_left _ hi)
theorem lay_some {base : Nat → Option (List AV)} {i : Nat} : ∀ {A : Ob}, i ∈ A.map (·.1) → lay A base i ≠ none
  | (j, c) :: r, h => by
    show setM (lay r base) j c i ≠ none
    by_cases e : i = j
    · subst e; rw [setM_get]; simp
    · rw [setM_ne e]
      simp only [List.map_cons, List.mem_cons] at h
      exact lay_some (h.resolve_left e)
  | [], h => by cases h
theorem ndO_join {base : Nat → Option (List AV)} {A B : Ob} (ha : ndO A (lay B base)) (hb : ndO B base) : ndO (A ++ B) base := by
  refine ⟨?_, fun i hi => ?_⟩
  · rw [List.map_append, List.nodup_append]
    refine ⟨ha.1, hb.1, fun i hi j hj e => ?_⟩
    subst e
    exact lay_some hj (ha.2 i hi)
  · rw [List.map_append] at hi
    rcases List.mem_append.1 hi with h | h
    · have := ha.2 i h
      by_cases hc : i ∈ B.map (·.1)
      · exact hb.2 i hc
      · rwa [lay_none hc] at this
    · exact hb.2 i h

/-- What a call is handed. -/
def vArgs (T : Tab) (ev : Operand → AV) : List Operand → List Nat → Option (List AV)
  | [], _ => some []
  | x :: r, t :: ts => match vArg ev x (elemOf T t) with
    | some v => match vArgs T ev r ts with
      | some q => some (v :: q)
      | none => none
    | none => none
  | _, _ => none
theorem vArgs_ok {T : Tab} {s : St} : ∀ {l : List Operand} {ts : List Nat} {vs : List AV}, vArgs T s.eval l ts = some vs → ArgsL s l vs ∧ l.all Operand.ok = true
  | [], ts, vs, h => by cases h; exact ⟨trivial, rfl⟩
  | x :: r, t :: ts, vs, h => by
    unfold vArgs at h
    split at h
    · rename_i v hv
      split at h
      · rename_i q hq
        cases h
        obtain ⟨h1, h2⟩ := vArg_ok hv
        obtain ⟨h3, h4⟩ := vArgs_ok hq
        exact ⟨⟨h1, h3⟩, by simp [h2, h4]⟩
      · cases h
    · cases h
  | x :: r, [], vs, h => by cases h

def Enters (P : Program) (f : FuncId) : Prop := ∀ (vs : Array Value) (w : World), (callFunc f vs).run P w = .ok (.enter f vs) w

/-- A call: the objects that it is handed stand ahead. -/
theorem cCallR {fr : Fr} {loc : List (Nat × List AV)} {objs : Ob} {base : Nat → Option (List AV)} {f : FuncId} {c : Call} {args : List AV} {A B : Ob} {R : AV → Ob → Prop} (sel : List Nat) (he : Enters P f) (h : FCall P f args A R) (hs : pickO sel objs = some (A, B)) (ha : ArgsL ((⟨fr, [], loc, objs, base⟩ : Es).st []) c.args.toList args ∧ c.args.toList.all Operand.ok = true)
    (g : ∀ r outs, R r outs → COps P n ops rest ⟨(d, [], r) :: fr, [], loc, outs ++ B, base⟩ Q)
    (hC : cndOf ops fr o = some [] := by rfl) (hd : o.dst = some d := by rfl) (hn : Nat.blt d n = true := by rfl) (ho : o.op = .call c := by rfl) (hc : c.callee = .value (.func f) := by rfl) : COps P n ops (o :: rest) ⟨fr, [], loc, objs, base⟩ Q := by
  intro G a w K hr hfx hK
  have hnd := hr.nd
  have hp := pickO_perm hs
  have hAB : ndO (A ++ B) base := ndO_perm hp.symm hnd
  obtain ⟨hA, hB⟩ := ndO_app hAB
  have hlay : lay objs base = lay A (lay B base) := by rw [← lay_app, lay_perm hp.symm hnd.1]
  have hfl : ∀ i, (getE fr i).1 = [] := by
    intro i
    cases hx : (getE fr i).1 with
    | nil => rfl
    | cons p r =>
      have := hr.gs i p (by rw [hx]; exact List.mem_cons_self ..)
      cases this
  obtain ⟨h1, h2⟩ := ha
  have hcall := h (lay B base) hA
  have key := AOps.call (P := P) (n := n) (ops := ops) (o := o) (rest := rest) (s := (⟨fr, [], loc, objs, base⟩ : Es).st []) (Q := fun s'' => ∃ e'', e''.st [] = s'' ∧ e''.nd ∧ Q e'') (wants0 (e := ⟨fr, [], loc, objs, base⟩) _ hC) hd (Nat.le_of_ble_eq_true hn) ho hc he (args_ok h2) (by simpa using h1.len) (fun j x v hj hv => h1.at j x v (by simpa using hj) hv)
    (R := fun r M' => ∃ outs, R r outs ∧ M' = lay outs (lay B base) ∧ ndO outs (lay B base)) (by show ACall P f args (lay objs base) _; rw [hlay]; exact hcall) ?_
  · refine key G a w K (hr.st condOK_nil) hfx ?_
    rintro s'' G' a' w' ⟨e'', rfl, hn2, hq⟩ hr' hk
    exact hK e'' G' a' w' hq ⟨hr', hn2⟩ hk
  · rintro r M' ⟨outs, hR, rfl, hno⟩ G1 a1 w1 K1 hr1 hfx1 hK1
    have hn2 : ndO (outs ++ B) base := ndO_join hno hB
    refine g r outs hR G1 a1 w1 K1 ⟨hr1.size, hr1.defers, fun i _ => ?_, fun i hne => ?_, fun i p hp => ?_, hr1.loc, by show RelM P G1 w1 (lay (outs ++ B) base); rw [lay_app]; exact hr1.mem, hn2⟩ hfx1 (fun e2 G2 a2 w2 hq hr2 hk2 => hK1 _ G2 a2 w2 ⟨e2, rfl, hr2.2, hq⟩ hr2.1 hk2)
    · have h3 := hr1.slot i
      have e1 : St.get { ((⟨fr, [], loc, objs, base⟩ : Es).st []).put d r with mem := lay outs (lay B base) } i = valE [] (getE ((d, [], r) :: fr) i) := look_st [] ((d, [], r) :: fr) i
      rw [e1] at h3
      unfold valE at h3
      rw [show (getE ((d, [], r) :: fr) i).1 = [] from addF_get hfl [(d, r)] i] at h3
      exact h3
    · rw [show (getE ((d, [], r) :: fr) i).1 = [] from addF_get hfl [(d, r)] i] at hne
      exact absurd condOK_nil hne
    · rw [show (getE ((d, [], r) :: fr) i).1 = [] from addF_get hfl [(d, r)] i] at hp; cases hp
theorem cCall [I : HasTab P] {fr : Fr} {loc : List (Nat × List AV)} {objs : Ob} {base : Nat → Option (List AV)} {f : FuncId} {c : Call} {args : List AV} {A B : Ob} {R : AV → Ob → Prop} (sel : List Nat) (he : Enters P f) (h : FCall P f args A R) (hs : pickO sel objs = some (A, B)) (ha : vArgs (HasTab.T P) (evE fr []) c.args.toList c.argTypes.toList = some args)
    (g : ∀ r outs, R r outs → COps P n ops rest ⟨(d, [], r) :: fr, [], loc, outs ++ B, base⟩ Q)
    (hC : cndOf ops fr o = some [] := by rfl) (hd : o.dst = some d := by rfl) (hn : Nat.blt d n = true := by rfl) (ho : o.op = .call c := by rfl) (hc : c.callee = .value (.func f) := by rfl) : COps P n ops (o :: rest) ⟨fr, [], loc, objs, base⟩ Q :=
  cCallR sel he h hs (by
    rw [show evE fr [] = ((⟨fr, [], loc, objs, base⟩ : Es).st []).eval from evE_fun ⟨fr, [], loc, objs, base⟩ []] at ha
    exact vArgs_ok ha) g hC hd hn ho hc
/-- .. of a function that touches none, under whatever conditions. -/
theorem pCallC [I : HasTab P] {f : FuncId} {c : Call} {args : List AV} (C : Cnd) (he : Enters P f) (h : truthsP e.fr C C → PCall P f args v) (ha : vArgs (HasTab.T P) (evE e.fr C) c.args.toList c.argTypes.toList = some args)
    (g : COps P n ops rest (e.put d C v) Q)
    (hC : cndOf ops e.fr o = some C := by rfl) (hsub : subF C e.fr = true := by rfl) (ht : truths e.fr C C = true := by rfl) (hg : memN d (gsOf C e.gs) = false := by rfl) (hd : o.dst = some d := by rfl) (hn : Nat.blt d n = true := by rfl) (ho : o.op = .call c := by rfl) (hc : c.callee = .value (.func f) := by rfl) : COps P n ops (o :: rest) e Q := by
  rw [evE_fun] at ha
  obtain ⟨h1, h2⟩ := vArgs_ok ha
  refine COps.eff (v := v) hC hd (Nat.le_of_ble_eq_true hn) hg hsub ht (fun htr Q' hk => AOps.call (R := fun r M' => r = v ∧ lay e.objs e.base = M') (o := { o with guard := none }) trivial hd (Nat.le_of_ble_eq_true hn) ho hc he (args_ok h2) (by simpa using h1.len) (fun j x v hj hv => h1.at j x v (by simpa using hj) hv) ((h htr).all _) ?_) rfl g
  rintro r M ⟨rfl, rfl⟩
  exact hk
theorem pCall [I : HasTab P] {fr : Fr} {gs : List Nat} {loc : List (Nat × List AV)} {objs : Ob} {base : Nat → Option (List AV)} {f : FuncId} {c : Call} {args : List AV} (he : Enters P f) (h : PCall P f args v) (ha : vArgs (HasTab.T P) (evE fr []) c.args.toList c.argTypes.toList = some args)
    (g : COps P n ops rest ⟨(d, [], v) :: fr, gs, loc, objs, base⟩ Q)
    (hC : cndOf ops fr o = some [] := by rfl) (hsub : subF [] fr = true := by rfl) (hd : o.dst = some d := by rfl) (hg : memN d gs = false := by rfl) (hn : Nat.blt d n = true := by rfl) (ho : o.op = .call c := by rfl) (hc : c.callee = .value (.func f) := by rfl) : COps P n ops (o :: rest) ⟨fr, gs, loc, objs, base⟩ Q :=
  pCallC (e := ⟨fr, gs, loc, objs, base⟩) [] he (fun _ => h) ha g hC hsub rfl hg hd hn ho hc
theorem pCallg [I : HasTab P] {fr : Fr} {gs : List Nat} {loc : List (Nat × List AV)} {objs : Ob} {base : Nat → Option (List AV)} {f : FuncId} {c : Call} {args : List AV} (t : Nat) (b : Bool) (D : Cnd) (he : Enters P f) (h : truthsP fr ((t, b) :: D) ((t, b) :: D) → PCall P f args v) (ha : vArgs (HasTab.T P) (evE fr ((t, b) :: D)) c.args.toList c.argTypes.toList = some args)
    (g : COps P n ops rest ⟨(d, (t, b) :: D, v) :: fr, t :: gs, loc, objs, base⟩ Q)
    (hC : cndOf ops fr o = some ((t, b) :: D) := by rfl) (hsub : subF ((t, b) :: D) fr = true := by rfl) (ht : truths fr ((t, b) :: D) ((t, b) :: D) = true := by rfl) (hd : o.dst = some d := by rfl) (hg : memN d (t :: gs) = false := by rfl) (hn : Nat.blt d n = true := by rfl) (ho : o.op = .call c := by rfl) (hc : c.callee = .value (.func f) := by rfl) : COps P n ops (o :: rest) ⟨fr, gs, loc, objs, base⟩ Q :=
  pCallC (e := ⟨fr, gs, loc, objs, base⟩) ((t, b) :: D) he h ha g hC hsub ht hg hd hn ho hc
end
end
end Go.Proofs.YtdjojfibjbjpdaaGreatDoor
