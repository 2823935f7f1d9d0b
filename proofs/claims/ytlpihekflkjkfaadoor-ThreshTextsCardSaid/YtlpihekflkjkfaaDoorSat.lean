/- Walks over abstract values, printed by my program av.py. -/
import Derived.Test.YtlpihekflkjkfaaDoorFacts
import Derived.Test.YtlpihekflkjkfaaDoorQuP
namespace Go.Proofs.YtlpihekflkjkfaaDoor
open Go.RowKit

theorem satN_over {x : Nat} (h : x > 9223372036854775807) : satN x = 9223372036854775807 := if_neg (by omega)
theorem add_sat {a b : Nat} (ha : a ≤ 9223372036854775807) : a + min b (9223372036854775807 - a) = satN (a + b) := by unfold satN; split <;> omega
theorem mul_over {a b : Nat} (h : (bif decide ((b : Int) > 0) then decide ((a : Int) > ((9223372036854775807 / b : Nat) : Int)) else false) = true) : a * b > 9223372036854775807 := by
  by_cases hb : (b : Int) > 0
  · rw [decide_eq_true hb, cond_true] at h
    have h1 := of_decide_eq_true h
    have h2 : 9223372036854775807 / b < a := by omega
    exact (Nat.div_lt_iff_lt_mul (by omega : 0 < b)).1 h2
  · rw [decide_eq_false hb, cond_false] at h; cases h
theorem mul_fits {a b : Nat} (ha : a ≤ 9223372036854775807) (h : (bif decide ((b : Int) > 0) then decide ((a : Int) > ((9223372036854775807 / b : Nat) : Int)) else false) = false) : a * b ≤ 9223372036854775807 := by
  by_cases hb : (b : Int) > 0
  · rw [decide_eq_true hb, cond_true] at h
    have h1 := of_decide_eq_false h
    have h2 : a ≤ 9223372036854775807 / b := by omega
    exact (Nat.le_div_iff_mul_le (by omega : 0 < b)).1 h2
  · have : b = 0 := by omega
    subst this; simp
theorem mul_done {o x y c : Nat} (h : satN (o + x * y) = satN c) (hy : ¬ y > 0) (ho : o ≤ 9223372036854775807) : o = satN c := by
  have : y = 0 := by omega
  subst this
  rw [Nat.mul_zero, Nat.add_zero, satN_of ho] at h
  exact h
theorem mul_even {o x y c : Nat} (h : satN (o + x * y) = satN c) (hy : ¬ y % 2 = 1) : satN (o + satN (x + x) * (y / 2)) = satN c := by
  rw [← h, ← satN_add2, satN_mul, satN_add2]
  have e : y = y / 2 + y / 2 := by omega
  have : (x + x) * (y / 2) = x * y := by rw [Nat.add_mul, ← Nat.mul_add, ← e]
  rw [this]
theorem mul_odd {o x y c : Nat} (h : satN (o + x * y) = satN c) (hy : y % 2 = 1) : satN (satN (o + x) + satN (x + x) * (y / 2)) = satN c := by
  rw [satN_add, ← h, ← satN_add2, satN_mul, satN_add2]
  have e : y = y / 2 + y / 2 + 1 := by omega
  have : x + (x + x) * (y / 2) = x * y := by
    have h2 : x * y = x * (y / 2 + y / 2 + 1) := by rw [← e]
    rw [h2, Nat.mul_add, Nat.mul_add, Nat.mul_one, Nat.add_mul]; omega
  rw [Nat.add_assoc, this]

set_option maxRecDepth 20000 in
theorem satnum_any (a : Int) (M : Nat → Option (List AV)) : ACall Tryd.prog 78 [.lit (.int .i64 a)] M (fun r M' => r = .lit (.int .i64 ((a.toNat : Nat) : Int)) ∧ M = M') := by
  refine ACall.of Tryd.func78 rfl (n := 5) rfl rfl rfl ?_
  refine AWp.seq (AWp.region ?_)
  refine AOps.read trivial rfl (by decide) (Reader.move (.inr rfl) (ok_const rfl) (v := .lit (.int .i64 0)) rfl) ?_
  refine AOps.nil ?_
  refine AWp.seq (AWp.region ?_)
  refine AOps.read trivial rfl (by decide) (Reader.move (.inl rfl) (ok_const rfl) (v := .lit (.int .i64 a)) rfl) ?_
  refine AOps.read trivial rfl (by decide) (Reader.maxI rfl rfl rfl rfl rfl (m := (a.toNat : Int)) (by omega)) ?_
  refine AOps.read trivial rfl (by decide) (Reader.move (.inr rfl) (ok_const rfl) (v := .lit (.int .i64 (a.toNat : Int))) rfl) ?_
  refine AOps.nil ?_
  refine AWp.ret ?_
  exact ⟨.inl rfl, _, ResOf.one 2 (.lit (.int .i64 (a.toNat : Int))) rfl rfl, ⟨rfl, rfl⟩⟩

set_option maxRecDepth 20000 in
theorem sat_add (a b : Int) (ha : a.toNat ≤ 9223372036854775807) (hb : b.toNat ≤ 9223372036854775807) (M : Nat → Option (List AV)) : ACall Tryd.prog 46 [.lit (.int .i64 a), .lit (.int .i64 b)] M (fun r M' => r = .lit (.int .i64 ((satN (a.toNat + b.toNat) : Nat) : Int)) ∧ M = M') := by
  refine ACall.of Tryd.func46 rfl (n := 15) rfl rfl rfl ?_
  refine AWp.seq (AWp.region ?_)
  refine AOps.read trivial rfl (by decide) (Reader.move (.inr rfl) (ok_const rfl) (v := .lit (.int .i64 0)) rfl) ?_
  refine AOps.nil ?_
  refine AWp.seq (AWp.region ?_)
  refine AOps.read trivial rfl (by decide) (Reader.move (.inl rfl) (ok_const rfl) (v := .lit (.int .i64 a)) rfl) ?_
  refine AOps.call (args := [.lit (.int .i64 a)]) trivial rfl (by decide) rfl rfl Tryd.call78 (args_ok rfl) rfl (by intro j x v hx hv; match j, hx, hv with | 0, hx, hv => cases hx; cases hv; exact .inl ⟨rfl, rfl⟩ | _ + 1, hx, hv => cases hx) (satnum_any a M) ?_
  rintro _ _ ⟨rfl, rfl⟩
  refine AOps.read trivial rfl (by decide) (Reader.move (.inl rfl) (ok_const rfl) (v := .lit (.int .i64 b)) rfl) ?_
  refine AOps.call (args := [.lit (.int .i64 b)]) trivial rfl (by decide) rfl rfl Tryd.call78 (args_ok rfl) rfl (by intro j x v hx hv; match j, hx, hv with | 0, hx, hv => cases hx; cases hv; exact .inl ⟨rfl, rfl⟩ | _ + 1, hx, hv => cases hx) (satnum_any b M) ?_
  rintro _ _ ⟨rfl, rfl⟩
  refine AOps.read trivial rfl (by decide) (Reader.move (.inr rfl) (ok_const rfl) (v := .lit (.int .i64 (a.toNat : Int))) rfl) ?_
  refine AOps.read trivial rfl (by decide) (Reader.move (.inr rfl) (ok_const rfl) (v := .lit (.int .i64 (b.toNat : Int))) rfl) ?_
  refine AOps.nil ?_
  refine AWp.seq (AWp.region ?_)
  refine AOps.read trivial rfl (by decide) (Reader.move (.inl rfl) (ok_const rfl) (v := .lit (.int .i64 (a.toNat : Int))) rfl) ?_
  refine AOps.read trivial rfl (by decide) (Reader.move (.inl rfl) (ok_const rfl) (v := .lit (.int .i64 (b.toNat : Int))) rfl) ?_
  refine AOps.read trivial rfl (by decide) (Reader.move (.inl rfl) (ok_const rfl) (v := .lit (.int .i64 (a.toNat : Int))) rfl) ?_
  refine AOps.read trivial rfl (by decide) (Reader.sum rfl rfl rfl (m := 9223372036854775807 - (a.toNat : Int)) (c := ((9223372036854775807 - a.toNat : Nat) : Int)) rfl (by rw [IntWalk.i64_in _ (by omega)]; omega)) ?_
  refine AOps.read trivial rfl (by decide) (Reader.minI rfl rfl rfl rfl rfl (m := ((min b.toNat (9223372036854775807 - a.toNat) : Nat) : Int)) (by omega)) ?_
  refine AOps.read trivial rfl (by decide) (Reader.sum rfl rfl rfl (m := (a.toNat : Int) + ((min b.toNat (9223372036854775807 - a.toNat) : Nat) : Int)) (c := ((a.toNat + (min b.toNat (9223372036854775807 - a.toNat)) : Nat) : Int)) rfl (by first | exact IntWalk.i64_in _ (by omega) | exact IntWalk.i64_in _ (by constructor <;> omega) | (simp only [];omega))) ?_
  refine AOps.read trivial rfl (by decide) (Reader.move (.inr rfl) (ok_const rfl) (v := .lit (.int .i64 ((a.toNat + (min b.toNat (9223372036854775807 - a.toNat)) : Nat) : Int))) rfl) ?_
  refine AOps.nil ?_
  refine AWp.ret ?_
  exact ⟨.inl rfl, _, ResOf.one 4 (.lit (.int .i64 ((a.toNat + (min b.toNat (9223372036854775807 - a.toNat)) : Nat) : Int))) rfl rfl, ⟨congrArg (fun x : Nat => AV.lit (.int .i64 (x : Int))) (add_sat ha), rfl⟩⟩

set_option maxRecDepth 20000 in
theorem sat_mul (a b : Int) (ha : a.toNat ≤ 9223372036854775807) (hb : b.toNat ≤ 9223372036854775807) (M : Nat → Option (List AV)) : ACall Tryd.prog 47 [.lit (.int .i64 a), .lit (.int .i64 b)] M (fun r M' => r = .lit (.int .i64 ((satN (a.toNat * b.toNat) : Nat) : Int)) ∧ M = M') := by
  refine ACall.of Tryd.func47 rfl (n := 20) rfl rfl rfl ?_
  refine AWp.seq (AWp.region ?_)
  refine AOps.read trivial rfl (by decide) (Reader.move (.inr rfl) (ok_const rfl) (v := .lit (.int .i64 0)) rfl) ?_
  refine AOps.nil ?_
  refine AWp.seq (AWp.region ?_)
  refine AOps.read trivial rfl (by decide) (Reader.move (.inl rfl) (ok_const rfl) (v := .lit (.int .i64 a)) rfl) ?_
  refine AOps.call (args := [.lit (.int .i64 a)]) trivial rfl (by decide) rfl rfl Tryd.call78 (args_ok rfl) rfl (by intro j x v hx hv; match j, hx, hv with | 0, hx, hv => cases hx; cases hv; exact .inl ⟨rfl, rfl⟩ | _ + 1, hx, hv => cases hx) (satnum_any a M) ?_
  rintro _ _ ⟨rfl, rfl⟩
  refine AOps.read trivial rfl (by decide) (Reader.move (.inl rfl) (ok_const rfl) (v := .lit (.int .i64 b)) rfl) ?_
  refine AOps.call (args := [.lit (.int .i64 b)]) trivial rfl (by decide) rfl rfl Tryd.call78 (args_ok rfl) rfl (by intro j x v hx hv; match j, hx, hv with | 0, hx, hv => cases hx; cases hv; exact .inl ⟨rfl, rfl⟩ | _ + 1, hx, hv => cases hx) (satnum_any b M) ?_
  rintro _ _ ⟨rfl, rfl⟩
  refine AOps.read trivial rfl (by decide) (Reader.move (.inr rfl) (ok_const rfl) (v := .lit (.int .i64 (a.toNat : Int))) rfl) ?_
  refine AOps.read trivial rfl (by decide) (Reader.move (.inr rfl) (ok_const rfl) (v := .lit (.int .i64 (b.toNat : Int))) rfl) ?_
  refine AOps.nil ?_
  refine AWp.seq ?_
  refine AWp.regionJ [16, 0, 1, 4] [] (fun z => ⟨(16, .lit (.bool z)) :: [(0, .lit (.int .i64 (a.toNat : Int))), (1, .lit (.int .i64 (b.toNat : Int))), (4, .lit (.int .i64 0))], [], M⟩) (z := bif (decide ((b.toNat : Int) > 0)) then (decide ((a.toNat : Int) > ((9223372036854775807 / b.toNat : Nat) : Int))) else false) ?_ ?_
  · skip
    refine AOps.read trivial rfl (by decide) (Reader.move (.inl rfl) (ok_const rfl) (v := .lit (.int .i64 (b.toNat : Int))) rfl) ?_
    refine AOps.read trivial rfl (by decide) (Reader.int rfl rfl rfl (r := .bool (decide ((b.toNat : Int) > 0))) rfl) ?_
    refine AOps.read trivial rfl (by decide) (Reader.move (.inl rfl) (ok_const rfl) (v := .lit (.bool (decide ((b.toNat : Int) > 0)))) rfl) ?_
    refine AOps.splitJ (t := 11) (b := decide ((b.toNat : Int) > 0)) (x := (decide ((a.toNat : Int) > ((9223372036854775807 / b.toNat : Nat) : Int)))) (y := false) rfl (fun h1 => ?_) (fun h1 => ?_)
    · skip
      have h1' : b.toNat > 0 := (by have hh := of_decide_eq_true h1; omega)
      clear h1
      refine AOps.read ⟨11, rfl, rfl⟩ rfl (by decide) (Reader.move (.inl rfl) (ok_const rfl) (v := .lit (.int .i64 (a.toNat : Int))) rfl) ?_
      refine AOps.read ⟨11, rfl, rfl⟩ rfl (by decide) (Reader.move (.inl rfl) (ok_const rfl) (v := .lit (.int .i64 (b.toNat : Int))) rfl) ?_
      refine AOps.read ⟨11, rfl, rfl⟩ rfl (by decide) (Reader.quo rfl rfl rfl (by omega) (c := ((9223372036854775807 / b.toNat : Nat) : Int)) (by rw [show (9223372036854775807 : Int) = ((9223372036854775807 : Nat) : Int) from rfl, nat_quo]; exact IntWalk.i64_in _ (by have hq := Nat.div_le_self 9223372036854775807 b.toNat; generalize 9223372036854775807 / b.toNat = q at hq ⊢; omega))) ?_
      refine AOps.read ⟨11, rfl, rfl⟩ rfl (by decide) (Reader.int rfl rfl rfl (r := .bool (decide ((a.toNat : Int) > ((9223372036854775807 / b.toNat : Nat) : Int)))) rfl) ?_
      refine AOps.read trivial rfl (by decide) (Reader.pick rfl (b := true) rfl (ok_const rfl) (ok_const rfl) (v := .lit (.bool (decide ((a.toNat : Int) > ((9223372036854775807 / b.toNat : Nat) : Int))))) rfl) ?_
      exact AOps.nil rfl
    · skip
      have h1' : ¬ (b.toNat > 0) := (by have hh := of_decide_eq_false h1; omega)
      clear h1
      refine AOps.skip ⟨2, true, 11, _, rfl, rfl, rfl, by simp⟩ rfl (by decide) ?_
      refine AOps.skip ⟨2, true, 11, _, rfl, rfl, rfl, by simp⟩ rfl (by decide) ?_
      refine AOps.skip ⟨2, true, 11, _, rfl, rfl, rfl, by simp⟩ rfl (by decide) ?_
      refine AOps.skip ⟨2, true, 11, _, rfl, rfl, rfl, by simp⟩ rfl (by decide) ?_
      refine AOps.read trivial rfl (by decide) (Reader.pick rfl (b := false) rfl (ok_const rfl) (ok_const rfl) (v := .lit (.bool false)) rfl) ?_
      exact AOps.nil rfl
  refine AWp.cond (b := bif (decide ((b.toNat : Int) > 0)) then (decide ((a.toNat : Int) > ((9223372036854775807 / b.toNat : Nat) : Int))) else false) rfl (fun h2 => ?_) (fun h2 => ?_)
  · skip
    have h2' : a.toNat * b.toNat > 9223372036854775807 := (mul_over h2)
    clear h2
    refine AWp.seq (AWp.region ?_)
    refine AOps.read trivial rfl (by decide) (Reader.move (.inr rfl) (ok_const rfl) (v := .lit (.int .i64 9223372036854775807)) rfl) ?_
    refine AOps.nil ?_
    refine AWp.ret ?_
    exact ⟨.inl rfl, _, ResOf.one 4 (.lit (.int .i64 9223372036854775807)) rfl rfl, ⟨congrArg (fun x : Nat => AV.lit (.int .i64 (x : Int))) ((satN_over (by assumption)).symm), rfl⟩⟩
  · skip
    have h2' : a.toNat * b.toNat ≤ 9223372036854775807 := (mul_fits ha h2)
    clear h2
    refine AWp.skip ?_
    refine AWp.seq (AWp.region ?_)
    refine AOps.read trivial rfl (by decide) (Reader.move (.inl rfl) (ok_const rfl) (v := .lit (.int .i64 (a.toNat : Int))) rfl) ?_
    refine AOps.read trivial rfl (by decide) (Reader.move (.inl rfl) (ok_const rfl) (v := .lit (.int .i64 (b.toNat : Int))) rfl) ?_
    refine AOps.read trivial rfl (by decide) (Reader.sum rfl rfl rfl (m := (a.toNat : Int) * (b.toNat : Int)) (c := ((a.toNat * b.toNat : Nat) : Int)) rfl (by first | exact IntWalk.i64_in _ (by omega) | exact IntWalk.i64_in _ (by constructor <;> omega) | (simp only [];omega))) ?_
    refine AOps.read trivial rfl (by decide) (Reader.move (.inr rfl) (ok_const rfl) (v := .lit (.int .i64 ((a.toNat * b.toNat : Nat) : Int))) rfl) ?_
    refine AOps.nil ?_
    refine AWp.ret ?_
    exact ⟨.inl rfl, _, ResOf.one 4 (.lit (.int .i64 ((a.toNat * b.toNat : Nat) : Int))) rfl rfl, ⟨congrArg (fun x : Nat => AV.lit (.int .i64 (x : Int))) ((satN_of (by assumption)).symm), rfl⟩⟩

set_option maxRecDepth 20000 in
theorem refnum_any (a : Int) (ha : a.toNat ≤ 9223372036854775807) (M : Nat → Option (List AV)) : ACall Tryd.prog 114 [.lit (.int .i64 a)] M (fun r M' => r = .lit (.int .u64 ((a.toNat : Nat) : Int)) ∧ M = M') := by
  refine ACall.of Tryd.func114 rfl (n := 7) rfl rfl rfl ?_
  refine AWp.seq (AWp.region ?_)
  refine AOps.read trivial rfl (by decide) (Reader.move (.inr rfl) (ok_const rfl) (v := .lit (.int .u64 0)) rfl) ?_
  refine AOps.nil ?_
  refine AWp.seq ?_
  refine AWp.seq (AWp.region ?_)
  refine AOps.read trivial rfl (by decide) (Reader.move (.inl rfl) (ok_const rfl) (v := .lit (.int .i64 a)) rfl) ?_
  refine AOps.read trivial rfl (by decide) (Reader.int rfl rfl rfl (r := .bool (decide (a < 0))) rfl) ?_
  refine AOps.nil ?_
  refine AWp.cond (b := decide (a < 0)) rfl (fun h1 => ?_) (fun h1 => ?_)
  · skip
    have h1' : a < 0 := (by have hh := of_decide_eq_true h1; omega)
    clear h1
    refine AWp.seq (AWp.region ?_)
    refine AOps.read trivial rfl (by decide) (Reader.move (.inr rfl) (ok_const rfl) (v := .lit (.int .u64 0)) rfl) ?_
    refine AOps.nil ?_
    refine AWp.ret ?_
    exact ⟨.inl rfl, _, ResOf.one 2 (.lit (.int .u64 0)) rfl rfl, ⟨congrArg (fun x : Int => AV.lit (.int .u64 x)) (by omega), rfl⟩⟩
  · skip
    have h1' : ¬ (a < 0) := (by have hh := of_decide_eq_false h1; omega)
    clear h1
    refine AWp.skip ?_
    refine AWp.seq (AWp.region ?_)
    refine AOps.read trivial rfl (by decide) (Reader.move (.inl rfl) (ok_const rfl) (v := .lit (.int .i64 a)) rfl) ?_
    refine AOps.read trivial rfl (by decide) (Reader.conv rfl Tryd.underlying3 Tryd.underlying121 (by simp) rfl (c := a) (by first | exact IntWalk.u64_in _ (by omega) | exact IntWalk.u64_in _ (by constructor <;> omega) | (simp only [];omega))) ?_
    refine AOps.read trivial rfl (by decide) (Reader.move (.inr rfl) (ok_const rfl) (v := .lit (.int .u64 a)) rfl) ?_
    refine AOps.nil ?_
    refine AWp.ret ?_
    exact ⟨.inl rfl, _, ResOf.one 2 (.lit (.int .u64 a)) rfl rfl, ⟨congrArg (fun x : Int => AV.lit (.int .u64 x)) (by omega), rfl⟩⟩

set_option maxRecDepth 20000 in
theorem held_any (x : Nat) (hx : x ≤ 18446744073709551615) (M : Nat → Option (List AV)) : ACall Tryd.prog 113 [.lit (.int .u64 (x : Int))] M (fun r M' => r = .lit (.int .i64 ((satN x : Nat) : Int)) ∧ M = M') := by
  refine ACall.of Tryd.func113 rfl (n := 7) rfl rfl rfl ?_
  refine AWp.seq (AWp.region ?_)
  refine AOps.read trivial rfl (by decide) (Reader.move (.inr rfl) (ok_const rfl) (v := .lit (.int .i64 0)) rfl) ?_
  refine AOps.nil ?_
  refine AWp.seq ?_
  refine AWp.seq (AWp.region ?_)
  refine AOps.read trivial rfl (by decide) (Reader.move (.inl rfl) (ok_const rfl) (v := .lit (.int .u64 (x : Int))) rfl) ?_
  refine AOps.read trivial rfl (by decide) (Reader.int rfl rfl rfl (r := .bool (decide ((x : Int) > 9223372036854775807))) rfl) ?_
  refine AOps.nil ?_
  refine AWp.cond (b := decide ((x : Int) > 9223372036854775807)) rfl (fun h1 => ?_) (fun h1 => ?_)
  · skip
    have h1' : x > 9223372036854775807 := (by have hh := of_decide_eq_true h1; omega)
    clear h1
    refine AWp.seq (AWp.region ?_)
    refine AOps.read trivial rfl (by decide) (Reader.move (.inr rfl) (ok_const rfl) (v := .lit (.int .i64 9223372036854775807)) rfl) ?_
    refine AOps.nil ?_
    refine AWp.ret ?_
    exact ⟨.inl rfl, _, ResOf.one 2 (.lit (.int .i64 9223372036854775807)) rfl rfl, ⟨congrArg (fun x : Nat => AV.lit (.int .i64 (x : Int))) ((satN_over (by omega)).symm), rfl⟩⟩
  · skip
    have h1' : ¬ (x > 9223372036854775807) := (by have hh := of_decide_eq_false h1; omega)
    clear h1
    refine AWp.skip ?_
    refine AWp.seq (AWp.region ?_)
    refine AOps.read trivial rfl (by decide) (Reader.move (.inl rfl) (ok_const rfl) (v := .lit (.int .u64 (x : Int))) rfl) ?_
    refine AOps.read trivial rfl (by decide) (Reader.conv rfl Tryd.underlying121 Tryd.underlying3 (by simp) rfl (c := (x : Int)) (by first | exact IntWalk.i64_in _ (by omega) | exact IntWalk.i64_in _ (by constructor <;> omega) | (simp only [];omega))) ?_
    refine AOps.read trivial rfl (by decide) (Reader.move (.inr rfl) (ok_const rfl) (v := .lit (.int .i64 (x : Int))) rfl) ?_
    refine AOps.nil ?_
    refine AWp.ret ?_
    exact ⟨.inl rfl, _, ResOf.one 2 (.lit (.int .i64 (x : Int))) rfl rfl, ⟨congrArg (fun x : Nat => AV.lit (.int .i64 (x : Int))) ((satN_of (by omega)).symm), rfl⟩⟩

set_option maxRecDepth 20000 in
theorem ref_add (a b : Int) (ha : a.toNat ≤ 9223372036854775807) (hb : b.toNat ≤ 9223372036854775807) (M : Nat → Option (List AV)) : ACall Tryd.prog 89 [.lit (.int .i64 a), .lit (.int .i64 b)] M (fun r M' => r = .lit (.int .i64 ((satN (a.toNat + b.toNat) : Nat) : Int)) ∧ M = M') := by
  refine ACall.of Tryd.func89 rfl (n := 11) rfl rfl rfl ?_
  refine AWp.seq (AWp.region ?_)
  refine AOps.read trivial rfl (by decide) (Reader.move (.inr rfl) (ok_const rfl) (v := .lit (.int .i64 0)) rfl) ?_
  refine AOps.nil ?_
  refine AWp.seq (AWp.region ?_)
  refine AOps.read trivial rfl (by decide) (Reader.move (.inl rfl) (ok_const rfl) (v := .lit (.int .i64 a)) rfl) ?_
  refine AOps.call (args := [.lit (.int .i64 a)]) trivial rfl (by decide) rfl rfl Tryd.call114 (args_ok rfl) rfl (by intro j x v hx hv; match j, hx, hv with | 0, hx, hv => cases hx; cases hv; exact .inl ⟨rfl, rfl⟩ | _ + 1, hx, hv => cases hx) (refnum_any a (by omega) M) ?_
  rintro _ _ ⟨rfl, rfl⟩
  refine AOps.read trivial rfl (by decide) (Reader.move (.inl rfl) (ok_const rfl) (v := .lit (.int .i64 b)) rfl) ?_
  refine AOps.call (args := [.lit (.int .i64 b)]) trivial rfl (by decide) rfl rfl Tryd.call114 (args_ok rfl) rfl (by intro j x v hx hv; match j, hx, hv with | 0, hx, hv => cases hx; cases hv; exact .inl ⟨rfl, rfl⟩ | _ + 1, hx, hv => cases hx) (refnum_any b (by omega) M) ?_
  rintro _ _ ⟨rfl, rfl⟩
  refine AOps.read trivial rfl (by decide) (Reader.sum rfl rfl rfl (m := (a.toNat : Int) + (b.toNat : Int)) (c := ((a.toNat + b.toNat : Nat) : Int)) rfl (by first | exact IntWalk.u64_in _ (by omega) | exact IntWalk.u64_in _ (by constructor <;> omega) | (simp only [];omega))) ?_
  refine AOps.call (args := [.lit (.int .u64 ((a.toNat + b.toNat : Nat) : Int))]) trivial rfl (by decide) rfl rfl Tryd.call113 (args_ok rfl) rfl (by intro j x v hx hv; match j, hx, hv with | 0, hx, hv => cases hx; cases hv; exact .inl ⟨rfl, rfl⟩ | _ + 1, hx, hv => cases hx) (held_any (a.toNat + b.toNat) (by omega) M) ?_
  rintro _ _ ⟨rfl, rfl⟩
  refine AOps.read trivial rfl (by decide) (Reader.move (.inr rfl) (ok_const rfl) (v := .lit (.int .i64 ((satN (a.toNat + b.toNat) : Nat) : Int))) rfl) ?_
  refine AOps.nil ?_
  refine AWp.ret ?_
  exact ⟨.inl rfl, _, ResOf.one 4 (.lit (.int .i64 ((satN (a.toNat + b.toNat) : Nat) : Int))) rfl rfl, ⟨rfl, rfl⟩⟩

theorem sat_addN (a b : Nat) (ha : a ≤ 9223372036854775807) (hb : b ≤ 9223372036854775807) (M : Nat → Option (List AV)) : ACall Tryd.prog 46 [.lit (.int .i64 (a : Int)), .lit (.int .i64 (b : Int))] M (fun r M' => r = .lit (.int .i64 ((satN (a + b) : Nat) : Int)) ∧ M = M') := sat_add (a : Int) (b : Int) ha hb M
theorem sat_mulN (a b : Nat) (ha : a ≤ 9223372036854775807) (hb : b ≤ 9223372036854775807) (M : Nat → Option (List AV)) : ACall Tryd.prog 47 [.lit (.int .i64 (a : Int)), .lit (.int .i64 (b : Int))] M (fun r M' => r = .lit (.int .i64 ((satN (a * b) : Nat) : Int)) ∧ M = M') := sat_mul (a : Int) (b : Int) ha hb M
theorem ref_addN (a b : Nat) (ha : a ≤ 9223372036854775807) (hb : b ≤ 9223372036854775807) (M : Nat → Option (List AV)) : ACall Tryd.prog 89 [.lit (.int .i64 (a : Int)), .lit (.int .i64 (b : Int))] M (fun r M' => r = .lit (.int .i64 ((satN (a + b) : Nat) : Int)) ∧ M = M') := ref_add (a : Int) (b : Int) ha hb M

set_option maxRecDepth 20000 in
theorem ref_mul (a b : Int) (ha : a.toNat ≤ 9223372036854775807) (hb : b.toNat ≤ 9223372036854775807) (M : Nat → Option (List AV)) : ACall Tryd.prog 90 [.lit (.int .i64 a), .lit (.int .i64 b)] M (fun r M' => r = .lit (.int .i64 ((satN (a.toNat * b.toNat) : Nat) : Int)) ∧ M = M') := by
  refine ACall.of Tryd.func90 rfl (n := 27) rfl rfl rfl ?_
  refine AWp.seq (AWp.region ?_)
  refine AOps.read trivial rfl (by decide) (Reader.move (.inr rfl) (ok_const rfl) (v := .lit (.int .i64 0)) rfl) ?_
  refine AOps.nil ?_
  refine AWp.seq (AWp.region ?_)
  refine AOps.read trivial rfl (by decide) (Reader.move (.inl rfl) (ok_const rfl) (v := .lit (.int .i64 a)) rfl) ?_
  refine AOps.call (args := [.lit (.int .i64 a)]) trivial rfl (by decide) rfl rfl Tryd.call114 (args_ok rfl) rfl (by intro j x v hx hv; match j, hx, hv with | 0, hx, hv => cases hx; cases hv; exact .inl ⟨rfl, rfl⟩ | _ + 1, hx, hv => cases hx) (refnum_any a (by omega) M) ?_
  rintro _ _ ⟨rfl, rfl⟩
  refine AOps.call (args := [.lit (.int .u64 (a.toNat : Int))]) trivial rfl (by decide) rfl rfl Tryd.call113 (args_ok rfl) rfl (by intro j x v hx hv; match j, hx, hv with | 0, hx, hv => cases hx; cases hv; exact .inl ⟨rfl, rfl⟩ | _ + 1, hx, hv => cases hx) (held_any a.toNat (by omega) M) ?_
  rintro _ _ ⟨rfl, rfl⟩
  refine AOps.read trivial rfl (by decide) (Reader.move (.inr rfl) (ok_const rfl) (v := .lit (.int .i64 ((satN a.toNat : Nat) : Int))) rfl) ?_
  refine AOps.nil ?_
  refine AWp.seq (AWp.region ?_)
  refine AOps.read trivial rfl (by decide) (Reader.move (.inl rfl) (ok_const rfl) (v := .lit (.int .i64 b)) rfl) ?_
  refine AOps.call (args := [.lit (.int .i64 b)]) trivial rfl (by decide) rfl rfl Tryd.call114 (args_ok rfl) rfl (by intro j x v hx hv; match j, hx, hv with | 0, hx, hv => cases hx; cases hv; exact .inl ⟨rfl, rfl⟩ | _ + 1, hx, hv => cases hx) (refnum_any b (by omega) M) ?_
  rintro _ _ ⟨rfl, rfl⟩
  refine AOps.read trivial rfl (by decide) (Reader.move (.inr rfl) (ok_const rfl) (v := .lit (.int .u64 (b.toNat : Int))) rfl) ?_
  refine AOps.nil ?_
  refine AWp.seq (AWp.region ?_)
  refine AOps.read trivial rfl (by decide) (Reader.move (.inr rfl) (ok_const rfl) (v := .lit (.int .i64 0)) rfl) ?_
  refine AOps.nil ?_
  refine AWp.seq ?_
  refine AWp.block ?_
  refine AWp.loopE [5, 6, 7] [] (fun m s => ∃ (x y o : Nat), m = 2 * y ∧ s = ⟨[(5, .lit (.int .i64 (x : Int))), (6, .lit (.int .u64 (y : Int))), (7, .lit (.int .i64 (o : Int)))], [], M⟩ ∧ (x ≤ 9223372036854775807) ∧ (y ≤ 9223372036854775807) ∧ (o ≤ 9223372036854775807) ∧ (satN (o + x * y) = satN (a.toNat * b.toNat))) ?_ ?_
  · exact ⟨_, satN a.toNat, b.toNat, 0, rfl, rfl, satN_le _, by omega, by omega, by rw [Nat.zero_add, satN_mul]⟩
  · rintro _ _ ⟨x, y, o, rfl, rfl, hx, hy, ho, hinv⟩
    refine AWp.seq ?_
    refine AWp.seq (AWp.region ?_)
    refine AOps.read trivial rfl (by decide) (Reader.move (.inl rfl) (ok_const rfl) (v := .lit (.int .u64 (y : Int))) rfl) ?_
    refine AOps.read trivial rfl (by decide) (Reader.int rfl rfl rfl (r := .bool (decide ((y : Int) > 0))) rfl) ?_
    refine AOps.nil ?_
    refine AWp.cond (b := decide ((y : Int) > 0)) rfl (fun h1 => ?_) (fun h1 => ?_)
    · skip
      have h1' : y > 0 := (by have hh := of_decide_eq_true h1; omega)
      clear h1
      refine AWp.skip ?_
      refine AWp.block ?_
      refine AWp.seq ?_
      refine AWp.seq (AWp.region ?_)
      refine AOps.read trivial rfl (by decide) (Reader.move (.inl rfl) (ok_const rfl) (v := .lit (.int .u64 (y : Int))) rfl) ?_
      refine AOps.read trivial rfl (by decide) (Reader.rem rfl rfl rfl (by decide) (c := ((y % 2 : Nat) : Int)) (by first | rfl | exact nat_rem _ _)) ?_
      refine AOps.read trivial rfl (by decide) (Reader.int rfl rfl rfl (r := .bool (((y % 2 : Nat) : Int) == 1)) rfl) ?_
      refine AOps.nil ?_
      refine AWp.cond (b := ((y % 2 : Nat) : Int) == 1) rfl (fun h2 => ?_) (fun h2 => ?_)
      · skip
        have h2' : (y % 2) = 1 := (by have hh := eq_of_beq h2; omega)
        clear h2
        refine AWp.region ?_
        refine AOps.read trivial rfl (by decide) (Reader.move (.inl rfl) (ok_const rfl) (v := .lit (.int .i64 (o : Int))) rfl) ?_
        refine AOps.read trivial rfl (by decide) (Reader.move (.inl rfl) (ok_const rfl) (v := .lit (.int .i64 (x : Int))) rfl) ?_
        refine AOps.call (args := [.lit (.int .i64 (o : Int)), .lit (.int .i64 (x : Int))]) trivial rfl (by decide) rfl rfl Tryd.call89 (args_ok rfl) rfl (by intro j x v hx hv; match j, hx, hv with | 0, hx, hv => cases hx; cases hv; exact .inl ⟨rfl, rfl⟩ | 1, hx, hv => cases hx; cases hv; exact .inl ⟨rfl, rfl⟩ | _ + 2, hx, hv => cases hx) (ref_addN o x (by first | assumption | omega) (by first | assumption | omega) M) ?_
        rintro _ _ ⟨rfl, rfl⟩
        refine AOps.read trivial rfl (by decide) (Reader.move (.inr rfl) (ok_const rfl) (v := .lit (.int .i64 ((satN (o + x) : Nat) : Int))) rfl) ?_
        refine AOps.nil ?_
        refine AWp.seq (AWp.region ?_)
        refine AOps.read trivial rfl (by decide) (Reader.move (.inl rfl) (ok_const rfl) (v := .lit (.int .i64 (x : Int))) rfl) ?_
        refine AOps.read trivial rfl (by decide) (Reader.move (.inl rfl) (ok_const rfl) (v := .lit (.int .i64 (x : Int))) rfl) ?_
        refine AOps.call (args := [.lit (.int .i64 (x : Int)), .lit (.int .i64 (x : Int))]) trivial rfl (by decide) rfl rfl Tryd.call89 (args_ok rfl) rfl (by intro j x v hx hv; match j, hx, hv with | 0, hx, hv => cases hx; cases hv; exact .inl ⟨rfl, rfl⟩ | 1, hx, hv => cases hx; cases hv; exact .inl ⟨rfl, rfl⟩ | _ + 2, hx, hv => cases hx) (ref_addN x x (by first | assumption | omega) (by first | assumption | omega) M) ?_
        rintro _ _ ⟨rfl, rfl⟩
        refine AOps.read trivial rfl (by decide) (Reader.move (.inr rfl) (ok_const rfl) (v := .lit (.int .i64 ((satN (x + x) : Nat) : Int))) rfl) ?_
        refine AOps.nil ?_
        refine AWp.region ?_
        refine AOps.read trivial rfl (by decide) (Reader.move (.inl rfl) (ok_const rfl) (v := .lit (.int .u64 (y : Int))) rfl) ?_
        refine AOps.read trivial rfl (by decide) (Reader.quo rfl rfl rfl (by decide) (c := ((y / 2 : Nat) : Int)) (by rw [show (2 : Int) = ((2 : Nat) : Int) from rfl, nat_quo]; exact IntWalk.u64_in _ (by omega))) ?_
        refine AOps.read trivial rfl (by decide) (Reader.move (.inr rfl) (ok_const rfl) (v := .lit (.int .u64 ((y / 2 : Nat) : Int))) rfl) ?_
        refine AOps.nil ?_
        first | exact ⟨_, by omega, satN (x + x), y / 2, satN (o + x), rfl, rfl, satN_le _, by omega, satN_le _, mul_odd hinv (by assumption)⟩ | exact ⟨_, by omega, satN (x + x), y / 2, o, rfl, rfl, satN_le _, by omega, by omega, mul_even hinv (by assumption)⟩
      · skip
        have h2' : ¬ ((y % 2) = 1) := (by have hh := beq_eq_false_iff_ne.1 h2; omega)
        clear h2
        refine AWp.skip ?_
        refine AWp.seq (AWp.region ?_)
        refine AOps.read trivial rfl (by decide) (Reader.move (.inl rfl) (ok_const rfl) (v := .lit (.int .i64 (x : Int))) rfl) ?_
        refine AOps.read trivial rfl (by decide) (Reader.move (.inl rfl) (ok_const rfl) (v := .lit (.int .i64 (x : Int))) rfl) ?_
        refine AOps.call (args := [.lit (.int .i64 (x : Int)), .lit (.int .i64 (x : Int))]) trivial rfl (by decide) rfl rfl Tryd.call89 (args_ok rfl) rfl (by intro j x v hx hv; match j, hx, hv with | 0, hx, hv => cases hx; cases hv; exact .inl ⟨rfl, rfl⟩ | 1, hx, hv => cases hx; cases hv; exact .inl ⟨rfl, rfl⟩ | _ + 2, hx, hv => cases hx) (ref_addN x x (by first | assumption | omega) (by first | assumption | omega) M) ?_
        rintro _ _ ⟨rfl, rfl⟩
        refine AOps.read trivial rfl (by decide) (Reader.move (.inr rfl) (ok_const rfl) (v := .lit (.int .i64 ((satN (x + x) : Nat) : Int))) rfl) ?_
        refine AOps.nil ?_
        refine AWp.region ?_
        refine AOps.read trivial rfl (by decide) (Reader.move (.inl rfl) (ok_const rfl) (v := .lit (.int .u64 (y : Int))) rfl) ?_
        refine AOps.read trivial rfl (by decide) (Reader.quo rfl rfl rfl (by decide) (c := ((y / 2 : Nat) : Int)) (by rw [show (2 : Int) = ((2 : Nat) : Int) from rfl, nat_quo]; exact IntWalk.u64_in _ (by omega))) ?_
        refine AOps.read trivial rfl (by decide) (Reader.move (.inr rfl) (ok_const rfl) (v := .lit (.int .u64 ((y / 2 : Nat) : Int))) rfl) ?_
        refine AOps.nil ?_
        first | exact ⟨_, by omega, satN (x + x), y / 2, satN (o + x), rfl, rfl, satN_le _, by omega, satN_le _, mul_odd hinv (by assumption)⟩ | exact ⟨_, by omega, satN (x + x), y / 2, o, rfl, rfl, satN_le _, by omega, by omega, mul_even hinv (by assumption)⟩
    · skip
      have h1' : ¬ (y > 0) := (by have hh := of_decide_eq_false h1; omega)
      clear h1
      refine AWp.exit ?_
      refine AWp.seq (AWp.region ?_)
      refine AOps.read trivial rfl (by decide) (Reader.move (.inl rfl) (ok_const rfl) (v := .lit (.int .i64 (o : Int))) rfl) ?_
      refine AOps.read trivial rfl (by decide) (Reader.move (.inr rfl) (ok_const rfl) (v := .lit (.int .i64 (o : Int))) rfl) ?_
      refine AOps.nil ?_
      refine AWp.ret ?_
      exact ⟨.inl rfl, _, ResOf.one 4 (.lit (.int .i64 (o : Int))) rfl rfl, ⟨congrArg (fun x : Nat => AV.lit (.int .i64 (x : Int))) (mul_done hinv (by omega) ho), rfl⟩⟩

theorem ref_mulN (a b : Nat) (ha : a ≤ 9223372036854775807) (hb : b ≤ 9223372036854775807) (M : Nat → Option (List AV)) : ACall Tryd.prog 90 [.lit (.int .i64 (a : Int)), .lit (.int .i64 (b : Int))] M (fun r M' => r = .lit (.int .i64 ((satN (a * b) : Nat) : Int)) ∧ M = M') := ref_mul (a : Int) (b : Int) ha hb M

end Go.Proofs.YtlpihekflkjkfaaDoor
