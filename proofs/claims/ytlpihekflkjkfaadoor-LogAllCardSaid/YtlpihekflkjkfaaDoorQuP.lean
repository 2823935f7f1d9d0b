/- The plain law of quant: quantities. No program in sight. -/
import Derived.Test.YtlpihekflkjkfaaDoorAvAux
import Derived.Lib.ItoaMem
import Derived.Lib.ItoaLen
namespace Go.Proofs.YtlpihekflkjkfaaDoor

/-- Up to the greatest. -/
def satN (x : Nat) : Nat := if x ≤ 9223372036854775807 then x else 9223372036854775807
theorem satN_le (x : Nat) : satN x ≤ 9223372036854775807 := by unfold satN; split <;> omega
theorem satN_of {x : Nat} (h : x ≤ 9223372036854775807) : satN x = x := if_pos h
theorem satN_mono {x y : Nat} (h : x ≤ y) : satN x ≤ satN y := by unfold satN; (repeat' split) <;> omega
theorem satN_sat (x : Nat) : satN (satN x) = satN x := satN_of (satN_le x)
theorem satN_add (x y : Nat) : satN (satN x + y) = satN (x + y) := by unfold satN; (repeat' split) <;> omega
theorem satN_add2 (x y : Nat) : satN (x + satN y) = satN (x + y) := by rw [Nat.add_comm, satN_add, Nat.add_comm]
theorem satN_mul (x y : Nat) : satN (satN x * y) = satN (x * y) := by
  rcases Nat.eq_zero_or_pos y with h | h
  · subst h; simp
  · by_cases hx : x ≤ 9223372036854775807
    · rw [satN_of hx]
    · have e : satN x = 9223372036854775807 := if_neg hx
      have h1 : 9223372036854775807 ≤ 9223372036854775807 * y := Nat.le_mul_of_pos_right _ h
      have h2 : 9223372036854775807 * y ≤ x * y := Nat.mul_le_mul_right _ (by omega)
      rw [e]
      generalize 9223372036854775807 * y = p at h1 h2
      generalize x * y = q at h2
      unfold satN; (repeat' split) <;> omega
theorem satN_mul2 (x y : Nat) : satN (x * satN y) = satN (x * y) := by rw [Nat.mul_comm, satN_mul, Nat.mul_comm]

/-- All units, the greatest first. -/
def unitL : List (List UInt8 × Nat) := [([84, 105], 1099511627776), ([84], 1000000000000), ([71, 105], 1073741824), ([71], 1000000000), ([77, 105], 1048576), ([77], 1000000), ([75, 105], 1024), ([107], 1000)]
def unitOf (s : List UInt8) : Nat := if s = [] then 1 else match unitL.find? (fun u => u.1 == s) with | some u => u.2 | none => 0
def isD (c : UInt8) : Bool := [48, 49, 50, 51, 52, 53, 54, 55, 56, 57].contains c
theorem isD_iff (c : UInt8) : isD c = (decide (48 ≤ c.toNat) && decide (c.toNat ≤ 57)) := by
  have h : ∀ n : _root_.Fin 256, isD (UInt8.ofNat n.val) = (decide (48 ≤ n.val) && decide (n.val ≤ 57)) := by decide +kernel
  have := h ⟨c.toNat, c.toNat_lt⟩
  simpa using this
def decV (l : List UInt8) : Nat := l.foldl (fun n c => satN (n * 10 + (c.toNat - 48))) 0
/-- What a text is as a quantity. -/
def quantV (s : List UInt8) : Option Nat := if s.takeWhile isD = [] ∨ unitOf (s.dropWhile isD) = 0 then none else some (satN (decV (s.takeWhile isD) * unitOf (s.dropWhile isD)))
def qv (s : List UInt8) : Nat := (quantV s).getD 0
def qe (s : List UInt8) : Int := if (quantV s).isSome then 0 else 2

/-- Digits. -/
def digs (n : Nat) : List UInt8 := if h : n < 10 then [UInt8.ofNat (48 + n)] else digs (n / 10) ++ [UInt8.ofNat (48 + n % 10)]
termination_by n
decreasing_by omega
theorem digs_small {n : Nat} (h : n < 10) : digs n = [UInt8.ofNat (48 + n)] := by rw [digs, dif_pos h]
theorem digs_big {n : Nat} (h : ¬ n < 10) : digs n = digs (n / 10) ++ digs (n % 10) := by
  rw [digs, dif_neg h, digs_small (n := n % 10) (by omega)]
theorem digs_snoc {n : Nat} (h : ¬ n < 10) : digs n = digs (n / 10) ++ [UInt8.ofNat (48 + n % 10)] := by rw [digs, dif_neg h]
theorem digit_isD {k : Nat} (h : k < 10) : isD (UInt8.ofNat (48 + k)) = true := by
  rw [isD_iff, UInt8.toNat_ofNat_of_lt' (by show 48 + k < 256; omega)]
  simp; omega
theorem digs_isD (n : Nat) : ∀ c ∈ digs n, isD c = true := by
  induction n using Nat.strongRecOn with
  | _ n ih =>
    intro c hc
    by_cases h : n < 10
    · rw [digs_small h] at hc; rw [List.mem_singleton.1 hc]; exact digit_isD h
    · rw [digs_snoc h] at hc
      rcases List.mem_append.1 hc with hc | hc
      · exact ih _ (by omega) c hc
      · rw [List.mem_singleton.1 hc]; exact digit_isD (by omega)
theorem digs_ne (n : Nat) : digs n ≠ [] := by
  by_cases h : n < 10
  · rw [digs_small h]; simp
  · rw [digs_snoc h]; simp
theorem decV_snoc (l : List UInt8) (c : UInt8) : decV (l ++ [c]) = satN (decV l * 10 + (c.toNat - 48)) := by simp [decV]
theorem decV_digs (n : Nat) : decV (digs n) = satN n := by
  induction n using Nat.strongRecOn with
  | _ n ih =>
    by_cases h : n < 10
    · rw [digs_small h]
      show satN (0 * 10 + ((UInt8.ofNat (48 + n)).toNat - 48)) = satN n
      rw [UInt8.toNat_ofNat_of_lt' (by show 48 + n < 256; omega)]
      congr 1; omega
    · rw [digs_snoc h, decV_snoc, ih _ (by omega), UInt8.toNat_ofNat_of_lt' (by show 48 + n % 10 < 256; omega), show 48 + n % 10 - 48 = n % 10 by omega, ← satN_add, satN_mul, satN_add]
      congr 1; omega
theorem digs_len (n : Nat) : ∀ (k : Nat), n < 10 ^ k → 1 ≤ k → (digs n).length ≤ k := by
  induction n using Nat.strongRecOn with
  | _ n ih =>
    intro k hk h1
    by_cases h : n < 10
    · rw [digs_small h]; simpa using h1
    · rw [digs_snoc h, List.length_append]
      have hk2 : 2 ≤ k := by
        rcases Nat.lt_or_ge k 2 with h2 | h2
        · have : k = 1 := by omega
          subst this; simp at hk; omega
        · exact h2
      have : n / 10 < 10 ^ (k - 1) := by
        rw [Nat.div_lt_iff_lt_mul (by decide)]
        have e : 10 ^ k = 10 ^ (k - 1) * 10 := by rw [← Nat.pow_succ]; congr 1; omega
        omega
      have := ih _ (by omega) (k - 1) this (by omega)
      simp; omega
theorem digs_dec (n : Nat) : digs n = Lib.decDigits n := by
  induction n using Nat.strongRecOn with
  | _ n ih =>
    by_cases h : n < 10
    · rw [digs_small h, Lib.decDigits, dif_pos h]
    · rw [digs_snoc h, Lib.decDigits, dif_neg h, ih _ (by omega)]
theorem itoa_digs (n : Nat) : Lib.itoa (n : Int) = digs n := by rw [Lib.itoa_nonneg, digs_dec]

theorem tw_app (p : UInt8 → Bool) : ∀ (w s : List UInt8), (∀ c ∈ w, p c = true) → (∀ c r, s = c :: r → p c = false) → (w ++ s).takeWhile p = w ∧ (w ++ s).dropWhile p = s
  | [], [], _, _ => by simp
  | [], c :: r, _, h => by simp [h c r rfl]
  | c :: w, s, hw, h => by
    have h0 := hw c (List.mem_cons_self ..)
    have ih := tw_app p w s (fun c hc => hw c (List.mem_cons_of_mem _ hc)) h
    simp [h0, ih]
/-- A unit's name begins with no digit. -/
theorem unit_head {u : List UInt8 × Nat} (h : u ∈ unitL) : ∀ c r, u.1 = c :: r → isD c = false := by
  simp only [unitL, List.mem_cons, List.mem_nil_iff, or_false] at h
  rcases h with rfl | rfl | rfl | rfl | rfl | rfl | rfl | rfl <;> (intro c r e; cases e; rfl)
theorem unit_of {u : List UInt8 × Nat} (h : u ∈ unitL) : unitOf u.1 = u.2 := by
  simp only [unitL, List.mem_cons, List.mem_nil_iff, or_false] at h
  rcases h with rfl | rfl | rfl | rfl | rfl | rfl | rfl | rfl <;> rfl
theorem unit_pos {u : List UInt8 × Nat} (h : u ∈ unitL) : 1000 ≤ u.2 ∧ u.2 ≤ 1099511627776 := by
  simp only [unitL, List.mem_cons, List.mem_nil_iff, or_false] at h
  rcases h with rfl | rfl | rfl | rfl | rfl | rfl | rfl | rfl <;> decide
theorem unitOf_nil : unitOf [] = 1 := rfl
/-- Digits, and a unit behind. -/
theorem quantV_app {ds nm : List UInt8} (hd : ∀ c ∈ ds, isD c = true) (h0 : ds ≠ []) (hn : ∀ c r, nm = c :: r → isD c = false) (hu : unitOf nm ≠ 0) : quantV (ds ++ nm) = some (satN (decV ds * unitOf nm)) := by
  obtain ⟨h1, h2⟩ := tw_app isD ds nm hd hn
  unfold quantV
  rw [h1, h2, if_neg]
  rintro (h | h)
  · exact h0 h
  · exact hu h
theorem decV_foldl (l : List UInt8) : ∀ a, l.foldl (fun n c => satN (n * 10 + (c.toNat - 48))) a = l.foldl (fun n c => satN (n * 10 + (c.toNat - 48))) a := fun _ => rfl
theorem decV_zeros (k : Nat) (l : List UInt8) : decV (List.replicate k 48 ++ l) = decV l := by
  induction k with
  | zero => rfl
  | succ k ih =>
    have : decV (List.replicate (k + 1) 48 ++ l) = decV (List.replicate k 48 ++ l) := by
      rw [List.replicate_succ, List.cons_append]
      show List.foldl _ (satN (0 * 10 + ((48 : UInt8).toNat - 48))) _ = _
      rfl
    rw [this, ih]

/-- A number, printed. -/
def printV (n : Nat) : List UInt8 := if n = 0 then [48] else match unitL.find? (fun u => n % u.2 == 0) with | some u => digs (n / u.2) ++ u.1 | none => digs n
theorem printV_cases (n : Nat) : ∃ (m k : Nat) (nm : List UInt8), printV n = digs m ++ nm ∧ unitOf nm = k ∧ k ≠ 0 ∧ m * k = n ∧ (∀ c r, nm = c :: r → isD c = false) ∧ nm.length ≤ 2 := by
  unfold printV
  split
  · rename_i h; subst h; exact ⟨0, 1, [], by rw [digs_small (by decide)]; rfl, rfl, by decide, rfl, by simp, by simp⟩
  · split
    · rename_i u hu
      have hm := List.mem_of_find?_eq_some hu
      have hp := List.find?_some hu
      have hpos := unit_pos hm
      refine ⟨n / u.2, u.2, u.1, rfl, unit_of hm, by omega, ?_, unit_head hm, ?_⟩
      · have : n % u.2 = 0 := by simpa using hp
        have := Nat.div_add_mod n u.2
        rw [Nat.mul_comm]; omega
      · simp only [unitL, List.mem_cons, List.mem_nil_iff, or_false] at hm
        rcases hm with rfl | rfl | rfl | rfl | rfl | rfl | rfl | rfl <;> decide
    · exact ⟨n, 1, [], by simp, rfl, by decide, by simp, by simp, by simp⟩
theorem printV_read (n k : Nat) (hn : n ≤ 9223372036854775807) : quantV (List.replicate k 48 ++ printV n) = some n := by
  obtain ⟨m, u, nm, h1, h2, h3, h4, h5, _⟩ := printV_cases n
  rw [h1, ← List.append_assoc, quantV_app (fun c hc => ?_) (by simp [digs_ne]) h5 (by rw [h2]; exact h3), decV_zeros, decV_digs, h2, satN_mul, h4, satN_of hn]
  rcases List.mem_append.1 hc with hc | hc
  · rw [List.eq_of_mem_replicate hc]; rfl
  · exact digs_isD _ c hc
theorem printV_len (n : Nat) (hn : n ≤ 9223372036854775807) : (printV n).length ≤ 21 := by
  obtain ⟨m, u, nm, h1, h2, h3, h4, h5, h6⟩ := printV_cases n
  have hm : m ≤ n := by rw [← h4]; exact Nat.le_mul_of_pos_right _ (by omega)
  have := digs_len m 19 (by omega) (by decide)
  rw [h1, List.length_append]; omega
end Go.Proofs.YtlpihekflkjkfaaDoor
