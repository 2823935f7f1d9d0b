/- Walks over abstract values, printed by my program av.py. -/
import Derived.Test.YtlpihekflkjkfaaDoorTh5
namespace Go.Proofs.YtlpihekflkjkfaaDoor
open Go.RowKit
theorem tra_0 (M : Nat → Option (List AV)) : ACall Tryd.prog 33 [.str [109, 101, 109, 111, 114, 121, 60, 49, 48, 37, 58, 53]] M (fun r M' => r = .tuple [encT ⟨0, 10, 0, true, 5⟩, .lit (.int .i64 0)] ∧ M = M') := by
  have h := TRead_any [109, 101, 109, 111, 114, 121, 60, 49, 48, 37, 58, 53] (by decide) M
  rw [show readT [109, 101, 109, 111, 114, 121, 60, 49, 48, 37, 58, 53] = ⟨0, 10, 0, true, 5⟩ from by decide +kernel, show errT [109, 101, 109, 111, 114, 121, 60, 49, 48, 37, 58, 53] = 0 from by decide +kernel] at h
  exact h
theorem tra_1 (M : Nat → Option (List AV)) : ACall Tryd.prog 33 [.str [100, 105, 115, 107, 60, 50, 77, 105]] M (fun r M' => r = .tuple [encT ⟨1, 0, 2097152, false, 0⟩, .lit (.int .i64 0)] ∧ M = M') := by
  have h := TRead_any [100, 105, 115, 107, 60, 50, 77, 105] (by decide) M
  rw [show readT [100, 105, 115, 107, 60, 50, 77, 105] = ⟨1, 0, 2097152, false, 0⟩ from by decide +kernel, show errT [100, 105, 115, 107, 60, 50, 77, 105] = 0 from by decide +kernel] at h
  exact h
theorem tra_2 (M : Nat → Option (List AV)) : ACall Tryd.prog 33 [.str [100, 105, 115, 107, 60, 48]] M (fun r M' => r = .tuple [encT ⟨0, 0, 0, false, 0⟩, .lit (.int .i64 2)] ∧ M = M') := by
  have h := TRead_any [100, 105, 115, 107, 60, 48] (by decide) M
  rw [show readT [100, 105, 115, 107, 60, 48] = ⟨0, 0, 0, false, 0⟩ from by decide +kernel, show errT [100, 105, 115, 107, 60, 48] = 2 from by decide +kernel] at h
  exact h
theorem tsa (M : Nat → Option (List AV)) : ACall Tryd.prog 35 [.str [112, 105, 100]] M (fun r M' => r = .tuple [.lit (.int .i64 2), .lit (.bool true)] ∧ M = M') := Signal_any [112, 105, 100] M
theorem tpa (M : Nat → Option (List AV)) : ACall Tryd.prog 38 [encT ⟨0, 10, 0, true, 5⟩] M (fun r M' => r = .str [109, 101, 109, 111, 114, 121, 60, 49, 48, 37, 58, 53] ∧ M = M') := by
  have h := TPrint_any ⟨0, 10, 0, true, 5⟩ (by decide) (by decide) M
  rw [show printT ⟨0, 10, 0, true, 5⟩ = [109, 101, 109, 111, 114, 121, 60, 49, 48, 37, 58, 53] from by decide +kernel] at h
  exact h
theorem tma1 (M : Nat → Option (List AV)) : ACall Tryd.prog 40 [encT ⟨0, 10, 0, true, 5⟩, .lit (.int .i64 100), .lit (.int .i64 9)] M (fun r M' => r = .lit (.bool true) ∧ M = M') := Met_any ⟨0, 10, 0, true, 5⟩ 100 9 (by decide) (by decide) (by decide) M
theorem tma2 (M : Nat → Option (List AV)) : ACall Tryd.prog 40 [encT ⟨0, 10, 0, true, 5⟩, .lit (.int .i64 100), .lit (.int .i64 10)] M (fun r M' => r = .lit (.bool false) ∧ M = M') := Met_any ⟨0, 10, 0, true, 5⟩ 100 10 (by decide) (by decide) (by decide) M
theorem tia (M : Nat → Option (List AV)) : ACall Tryd.prog 36 [encT ⟨1, 0, 2097152, false, 0⟩] M (fun r M' => r = .lit (.bool true) ∧ M = M') := Right_any ⟨1, 0, 2097152, false, 0⟩ M
theorem TRead_named (t : List UInt8) (hl : t.length ≤ 4294967280) (M : Nat → Option (List AV)) : ACall Tryd.prog 33 [.str t] M (fun r M' => (∃ u e, u = readT t ∧ e = errT t ∧ r = .tuple [encT u, .lit (.int .i64 e)]) ∧ M = M') :=
  (TRead_any t hl M).mono fun r M' ⟨h1, h2⟩ => ⟨⟨_, _, rfl, rfl, h1⟩, h2⟩

theorem sig_same {t : List UInt8} (h : (bif t == [109, 101, 109, 111, 114, 121] then !(decide (sigOf t ≥ 0) == true) else (bif t == [100, 105, 115, 107] then !(decide (sigOf t ≥ 0) == true) else !(decide (sigOf t ≥ 0) == (t == [112, 105, 100])))) = true) : False := by
  rcases sig_cases t with ⟨e, h0, h1, h2⟩ | ⟨e, h0⟩ | ⟨e, h0⟩ | ⟨e, h0⟩
  · rw [e, beq_eq_false_iff_ne.2 (show t ≠ [109, 101, 109, 111, 114, 121] from h0), beq_eq_false_iff_ne.2 (show t ≠ [100, 105, 115, 107] from h1), beq_eq_false_iff_ne.2 (show t ≠ [112, 105, 100] from h2)] at h
    exact absurd h (by decide)
  all_goals (subst h0; exact absurd h (by decide))
theorem treads_no {t : List UInt8} (h : ¬ OkT t) : (bif errT t == 2 then (((readT t).sig == 0) && (((readT t).pct == 0) && (((readT t).amt == 0) && (((readT t).soft == false) && (((readT t).gr == 0) && true))))) else false) = true := by
  rw [(th_no h).1, (th_no h).2]; decide
theorem treads_ok {t : List UInt8} (h : OkT t) : (bif errT t == 0 then (((readT t).sig == (readT t).sig) && (((readT t).pct == (readT t).pct) && (((readT t).amt == (readT t).amt) && (((readT t).soft == (readT t).soft) && (((readT t).gr == (readT t).gr) && true))))) else false) = true := by
  rw [(th_ok h).2]; simp
theorem tback_r {t : List UInt8} (h : (bif errT t == 0 then !(decide (RightT (readT t))) else false) = true) : False := by
  by_cases hk : OkT t
  · rw [(th_ok hk).2, decide_eq_true (read_right hk)] at h; cases h
  · rw [(th_no hk).2] at h; cases h
theorem tback_ok {u : Thr} (h : RightT u) (ha : u.amt ≤ 9223372036854775807) : (bif errT (printT u) == 0 then (bif (((readT (printT u)).sig == u.sig) && (((readT (printT u)).pct == u.pct) && (((readT (printT u)).amt == u.amt) && (((readT (printT u)).soft == u.soft) && (((readT (printT u)).gr == u.gr) && true))))) then (printT u == printT u) else false) else false) = true := by
  obtain ⟨h1, h2⟩ := back_T h ha
  rw [(th_ok h1).2, h2]; simp
theorem printT_len {u : Thr} (h : RightT u) (ha : u.amt ≤ 9223372036854775807) : (printT u).length ≤ 4294967280 := by
  obtain ⟨h0, h2, hp, hg⟩ := h
  have h1 := word_len u.sig
  have h3 := digs_len20 u.pct.toNat (by omega)
  have h4 := printV_len u.amt.toNat (by omega)
  have h5 := digs_len20 u.gr.toNat (by omega)
  unfold printT valT
  split <;> split <;> simp only [List.length_append, List.length_cons, List.length_nil] <;> omega
theorem met_n {p c x : Nat} (hp : 0 < p) : metB ⟨0, (p : Int), 0, false, 0⟩ (c : Int) (x : Int) = decide (x * 100 < c * p) := by
  unfold metB
  rw [if_pos (show (p : Int) > 0 by omega)]
  simp only [Int.toNat_natCast]
  unfold ordU
  by_cases h : x * 100 < c * p
  · simp [h]
  · by_cases h3 : c * p < x * 100 <;> simp [h, h3]
theorem tsh_f {p c m x : Nat} (h : (bif metB ⟨0, (((1 + p % 100 : Nat)) : Int), 0, false, 0⟩ (c : Int) (x : Int) then (bif !(metB ⟨0, (((1 + p % 100 : Nat)) : Int), 0, false, 0⟩ (((c + m : Nat)) : Int) (x : Int)) then true else !(metB ⟨0, 100, 0, false, 0⟩ (c : Int) (x : Int))) else false) = true) : False := by
  have e100 : metB ⟨0, 100, 0, false, 0⟩ (c : Int) (x : Int) = decide (x * 100 < c * 100) := met_n (p := 100) (by decide)
  rw [met_n (by omega), met_n (by omega), e100] at h
  by_cases h1 : x * 100 < c * (1 + p % 100)
  · have h2 : c * (1 + p % 100) ≤ (c + m) * (1 + p % 100) := Nat.mul_le_mul_right _ (by omega)
    have h3 : c * (1 + p % 100) ≤ c * 100 := Nat.mul_le_mul_left _ (by omega)
    rw [decide_eq_true h1, decide_eq_true (show x * 100 < (c + m) * (1 + p % 100) by omega), decide_eq_true (show x * 100 < c * 100 by omega)] at h
    cases h
  · rw [decide_eq_false h1] at h; cases h
theorem tsh_ok {c x : Nat} : (metB ⟨0, 100, 0, false, 0⟩ (c : Int) (x : Int) == decide ((x : Int) < (c : Int))) = true := by
  have e100 : metB ⟨0, 100, 0, false, 0⟩ (c : Int) (x : Int) = decide (x * 100 < c * 100) := met_n (p := 100) (by decide)
  rw [e100, beq_iff_eq]
  by_cases h : x < c
  · rw [decide_eq_true (show x * 100 < c * 100 by omega), decide_eq_true (show (x : Int) < (c : Int) by omega)]
  · rw [decide_eq_false (show ¬ x * 100 < c * 100 by omega), decide_eq_false (show ¬ (x : Int) < (c : Int) by omega)]
theorem texts_all (k p g : Nat) : let K : Int := ((k % 3 : Nat) : Int); let P := p % 130; let G := g % 1100
    errT (((wordOf K ++ [60]) ++ digs P) ++ [37]) = (if 1 ≤ P ∧ P ≤ 100 then 0 else 2) ∧
    errT (((((wordOf K ++ [60]) ++ digs P) ++ [37]) ++ [58]) ++ digs G) = (if (1 ≤ P ∧ P ≤ 100) ∧ 1 ≤ G ∧ G ≤ 1000 then 0 else 2) ∧
    errT (((wordOf K ++ [60, 48]) ++ digs P) ++ [37]) = 2 ∧
    errT (((((wordOf K ++ [60]) ++ digs P) ++ [37]) ++ [58, 48]) ++ digs G) = 2 ∧
    (1 ≤ P ∧ P ≤ 100 → readT (((wordOf K ++ [60]) ++ digs P) ++ [37]) = ⟨K, P, 0, false, 0⟩) ∧
    ((1 ≤ P ∧ P ≤ 100) ∧ 1 ≤ G ∧ G ≤ 1000 → readT (((((wordOf K ++ [60]) ++ digs P) ++ [37]) ++ [58]) ++ digs G) = ⟨K, P, 0, true, G⟩) := by
  intro K P G
  have hK : 0 ≤ K ∧ K ≤ 2 := by simp only [K]; omega
  have hP : P ≤ 1000000 := by simp only [P]; omega
  have hG : G ≤ 1000000 := by simp only [G]; omega
  have a1 := text_T hK.1 hK.2 P G false false false hP hG
  have a2 := text_T hK.1 hK.2 P G false false true hP hG
  have a3 := text_T hK.1 hK.2 P G true false false hP hG
  have a4 := text_T hK.1 hK.2 P G false true true hP hG
  simp only [Bool.false_eq_true, if_false, if_true, List.nil_append, List.append_nil, List.append_assoc, List.cons_append, reduceCtorEq, false_and, true_and, forall_const, false_implies, and_true, and_false, iff_false] at a1 a2 a3 a4 ⊢
  refine ⟨?_, ?_, ?_, ?_, fun h => ?_, fun h => ?_⟩
  · unfold errT
    by_cases h : 1 ≤ P ∧ P ≤ 100
    · rw [if_pos h, if_pos (a1.1.2 h)]
    · rw [if_neg h, if_neg (fun hh => h (a1.1.1 hh))]
  · unfold errT
    by_cases h : (1 ≤ P ∧ P ≤ 100) ∧ 1 ≤ G ∧ G ≤ 1000
    · rw [if_pos h, if_pos (a2.1.2 ⟨h.1.1, h.1.2, h.2⟩)]
    · rw [if_neg h, if_neg (fun hh => h (by have := a2.1.1 hh; exact ⟨⟨this.1, this.2.1⟩, this.2.2⟩))]
  · unfold errT; rw [if_neg a3.1]
  · unfold errT; rw [if_neg a4.1]
  · exact a1.2 (a1.1.2 h)
  · exact a2.2 (a2.1.2 ⟨h.1.1, h.1.2, h.2⟩)

set_option maxRecDepth 20000 in
theorem tawake_any  (M : Nat → Option (List AV)) : ACall Tryd.prog 32 [] M (fun r M' => r = .lit (.bool true) ∧ M = M') := by
  refine ACall.of Tryd.func32 rfl (n := 75) rfl rfl rfl ?_
  refine AWp.seq (AWp.region ?_)
  refine AOps.read trivial rfl (by decide) (Reader.move (.inr rfl) (ok_const rfl) (v := .lit (.bool false)) rfl) ?_
  refine AOps.nil ?_
  refine AWp.seq (AWp.region ?_)
  refine AOps.call (args := [.str [109, 101, 109, 111, 114, 121, 60, 49, 48, 37, 58, 53]]) trivial rfl (by decide) rfl rfl Tryd.call33 (args_ok rfl) rfl (by intro j x v hx hv; match j, hx, hv with | 0, hx, hv => cases hx; cases hv; exact .inl ⟨rfl, rfl⟩ | _ + 1, hx, hv => cases hx) (tra_0 M) ?_
  rintro _ _ ⟨rfl, rfl⟩
  refine AOps.read trivial rfl (by decide) (Reader.move (.inl rfl) (ok_const rfl) (v := .tuple [encT (⟨0, 10, 0, true, 5⟩ : Thr), .lit (.int .i64 0)]) rfl) ?_
  refine AOps.read trivial rfl (by decide) (Reader.extract (v := encT (⟨0, 10, 0, true, 5⟩ : Thr)) rfl rfl rfl rfl) ?_
  refine AOps.read trivial rfl (by decide) (Reader.extract (v := .lit (.int .i64 0)) rfl rfl rfl rfl) ?_
  refine AOps.alloc (Es := []) trivial rfl (by decide) rfl (noL rfl) rfl zero_65 rfl (cells := [.lit (.int .i64 0), .lit (.int .i64 0), .lit (.int .i64 0), .lit (.bool false), .lit (.int .i64 0)]) rfl (all_scalar rfl) (all_flat rfl) ?_
  refine AOps.storeL trivial rfl rfl rfl rfl sizeOf_65 (.inl ⟨rfl, rfl⟩) rfl (v := encT (⟨0, 10, 0, true, 5⟩ : Thr)) rfl (all_flat rfl) rfl (Nat.le_of_ble_eq_true rfl) ?_
  refine AOps.read trivial rfl (by decide) (Reader.move (.inr rfl) (ok_const rfl) (v := .lit (.int .i64 0)) rfl) ?_
  refine AOps.nil ?_
  refine AWp.seq (AWp.region ?_)
  refine AOps.call (args := [.str [100, 105, 115, 107, 60, 50, 77, 105]]) trivial rfl (by decide) rfl rfl Tryd.call33 (args_ok rfl) rfl (by intro j x v hx hv; match j, hx, hv with | 0, hx, hv => cases hx; cases hv; exact .inl ⟨rfl, rfl⟩ | _ + 1, hx, hv => cases hx) (tra_1 M) ?_
  rintro _ _ ⟨rfl, rfl⟩
  refine AOps.read trivial rfl (by decide) (Reader.move (.inl rfl) (ok_const rfl) (v := .tuple [encT (⟨1, 0, 2097152, false, 0⟩ : Thr), .lit (.int .i64 0)]) rfl) ?_
  refine AOps.read trivial rfl (by decide) (Reader.extract (v := encT (⟨1, 0, 2097152, false, 0⟩ : Thr)) rfl rfl rfl rfl) ?_
  refine AOps.read trivial rfl (by decide) (Reader.extract (v := .lit (.int .i64 0)) rfl rfl rfl rfl) ?_
  refine AOps.alloc (Es := []) trivial rfl (by decide) rfl (noL rfl) rfl zero_65 rfl (cells := [.lit (.int .i64 0), .lit (.int .i64 0), .lit (.int .i64 0), .lit (.bool false), .lit (.int .i64 0)]) rfl (all_scalar rfl) (all_flat rfl) ?_
  refine AOps.storeL trivial rfl rfl rfl rfl sizeOf_65 (.inl ⟨rfl, rfl⟩) rfl (v := encT (⟨1, 0, 2097152, false, 0⟩ : Thr)) rfl (all_flat rfl) rfl (Nat.le_of_ble_eq_true rfl) ?_
  refine AOps.read trivial rfl (by decide) (Reader.move (.inr rfl) (ok_const rfl) (v := .lit (.int .i64 0)) rfl) ?_
  refine AOps.nil ?_
  refine AWp.seq (AWp.region ?_)
  refine AOps.call (args := [.str [100, 105, 115, 107, 60, 48]]) trivial rfl (by decide) rfl rfl Tryd.call33 (args_ok rfl) rfl (by intro j x v hx hv; match j, hx, hv with | 0, hx, hv => cases hx; cases hv; exact .inl ⟨rfl, rfl⟩ | _ + 1, hx, hv => cases hx) (tra_2 M) ?_
  rintro _ _ ⟨rfl, rfl⟩
  refine AOps.read trivial rfl (by decide) (Reader.move (.inl rfl) (ok_const rfl) (v := .tuple [encT (⟨0, 0, 0, false, 0⟩ : Thr), .lit (.int .i64 2)]) rfl) ?_
  refine AOps.read trivial rfl (by decide) (Reader.extract (v := encT (⟨0, 0, 0, false, 0⟩ : Thr)) rfl rfl rfl rfl) ?_
  refine AOps.read trivial rfl (by decide) (Reader.extract (v := .lit (.int .i64 2)) rfl rfl rfl rfl) ?_
  refine AOps.alloc (Es := []) trivial rfl (by decide) rfl (noL rfl) rfl zero_65 rfl (cells := [.lit (.int .i64 0), .lit (.int .i64 0), .lit (.int .i64 0), .lit (.bool false), .lit (.int .i64 0)]) rfl (all_scalar rfl) (all_flat rfl) ?_
  refine AOps.storeL trivial rfl rfl rfl rfl sizeOf_65 (.inl ⟨rfl, rfl⟩) rfl (v := encT (⟨0, 0, 0, false, 0⟩ : Thr)) rfl (all_flat rfl) rfl (Nat.le_of_ble_eq_true rfl) ?_
  refine AOps.read trivial rfl (by decide) (Reader.move (.inr rfl) (ok_const rfl) (v := .lit (.int .i64 2)) rfl) ?_
  refine AOps.nil ?_
  refine AWp.seq (AWp.region ?_)
  refine AOps.call (args := [.str [112, 105, 100]]) trivial rfl (by decide) rfl rfl Tryd.call35 (args_ok rfl) rfl (by intro j x v hx hv; match j, hx, hv with | 0, hx, hv => cases hx; cases hv; exact .inl ⟨rfl, rfl⟩ | _ + 1, hx, hv => cases hx) (tsa M) ?_
  rintro _ _ ⟨rfl, rfl⟩
  refine AOps.read trivial rfl (by decide) (Reader.move (.inl rfl) (ok_const rfl) (v := .tuple [.lit (.int .i64 2), .lit (.bool true)]) rfl) ?_
  refine AOps.read trivial rfl (by decide) (Reader.extract (v := .lit (.int .i64 2)) rfl rfl rfl rfl) ?_
  refine AOps.read trivial rfl (by decide) (Reader.extract (v := .lit (.bool true)) rfl rfl rfl rfl) ?_
  refine AOps.read trivial rfl (by decide) (Reader.move (.inr rfl) (ok_const rfl) (v := .lit (.int .i64 2)) rfl) ?_
  refine AOps.read trivial rfl (by decide) (Reader.move (.inr rfl) (ok_const rfl) (v := .lit (.bool true)) rfl) ?_
  refine AOps.nil ?_
  refine AWp.regionJ [0, 1, 2, 3, 4, 6, 7, 8] [1, 3, 5] (fun z => ⟨(0, .lit (.bool z)) :: [(1, .lptr 1 0), (2, .lit (.int .i64 0)), (3, .lptr 3 0), (4, .lit (.int .i64 0)), (6, .lit (.int .i64 2)), (7, .lit (.int .i64 2)), (8, .lit (.bool true))], [(1, [.lit (.int .i64 0), .lit (.int .i64 10), .lit (.int .i64 0), .lit (.bool true), .lit (.int .i64 5)]), (3, [.lit (.int .i64 1), .lit (.int .i64 0), .lit (.int .i64 2097152), .lit (.bool false), .lit (.int .i64 0)]), (5, [.lit (.int .i64 0), .lit (.int .i64 0), .lit (.int .i64 0), .lit (.bool false), .lit (.int .i64 0)])], M⟩) (z := true) ?_ ?_
  · skip
    refine AOps.read trivial rfl (by decide) (Reader.move (.inl rfl) (ok_const rfl) (v := .lit (.int .i64 0)) rfl) ?_
    refine AOps.read trivial rfl (by decide) (Reader.int rfl rfl rfl (r := .bool true) rfl) ?_
    refine AOps.read trivial rfl (by decide) (Reader.move (.inl rfl) (ok_const rfl) (v := .lit (.bool true)) rfl) ?_
    refine AOps.read ⟨27, rfl, rfl⟩ rfl (by decide) (Reader.loadL rfl Tryd.underlying65 sizeOf_65 rfl rfl (v := .agg [.lit (.int .i64 0), .lit (.int .i64 10), .lit (.int .i64 0), .lit (.bool true), .lit (.int .i64 5)]) rfl rfl) ?_
    refine AOps.read ⟨27, rfl, rfl⟩ rfl (by decide) (Reader.build (xs := [(1, .lit (.int .i64 10)), (3, .lit (.bool true)), (4, .lit (.int .i64 5))]) (Es := []) (places := places_65) rfl Tryd.underlying65 (by refine ⟨rfl, fun j p x hp hx => ?_⟩; match j, hp, hx with | 0, hp, hx => cases hp; cases hx; exact ⟨rfl, .inl ⟨rfl, rfl⟩, rfl, rfl⟩ | 1, hp, hx => cases hp; cases hx; exact ⟨rfl, .inl ⟨rfl, rfl⟩, rfl, rfl⟩ | 2, hp, hx => cases hp; cases hx; exact ⟨rfl, .inl ⟨rfl, rfl⟩, rfl, rfl⟩ | _ + 3, hp, hx => cases hp) zero_65 rfl places_65_ok (cs := [.lit (.int .i64 0), .lit (.int .i64 10), .lit (.int .i64 0), .lit (.bool true), .lit (.int .i64 5)]) rfl) ?_
    refine AOps.read ⟨27, rfl, rfl⟩ rfl (by decide) (Reader.eqAgg (us := [(.int .i64 0), (.int .i64 10), (.int .i64 0), (.bool true), (.int .i64 5)]) (vs := [(.int .i64 0), (.int .i64 10), (.int .i64 0), (.bool true), (.int .i64 5)]) (b := ((0 == 0) && ((10 == 10) && ((0 == 0) && ((true == true) && ((5 == 5) && true)))))) (r := true) 9 rfl rfl rfl ⟨_, rfl⟩ ⟨_, rfl⟩ Tryd.underlying65 rfl eqg_65 (by decide) rfl rfl (eqV_65 0 0 10 10 0 0 true true 5 5) (.inl ⟨rfl, (by decide)⟩)) ?_
    refine AOps.read trivial rfl (by decide) (Reader.pick rfl (b := true) rfl (ok_const rfl) (ok_const rfl) (v := .lit (.bool true)) rfl) ?_
    refine AOps.read trivial rfl (by decide) (Reader.move (.inl rfl) (ok_const rfl) (v := .lit (.bool true)) rfl) ?_
    refine AOps.read ⟨32, rfl, rfl⟩ rfl (by decide) (Reader.move (.inl rfl) (ok_const rfl) (v := .lit (.int .i64 0)) rfl) ?_
    refine AOps.read ⟨32, rfl, rfl⟩ rfl (by decide) (Reader.int rfl rfl rfl (r := .bool true) rfl) ?_
    refine AOps.read trivial rfl (by decide) (Reader.pick rfl (b := true) rfl (ok_const rfl) (ok_const rfl) (v := .lit (.bool true)) rfl) ?_
    refine AOps.read trivial rfl (by decide) (Reader.move (.inl rfl) (ok_const rfl) (v := .lit (.bool true)) rfl) ?_
    refine AOps.read ⟨36, rfl, rfl⟩ rfl (by decide) (Reader.fieldL rfl ⟨_, _, Tryd.underlying65, rfl, rfl, rfl, sizeOf_3⟩ (by decide) rfl) ?_
    refine AOps.read ⟨36, rfl, rfl⟩ rfl (by decide) (Reader.loadL rfl Tryd.underlying3 sizeOf_3 rfl rfl (v := .lit (.int .i64 2097152)) rfl rfl) ?_
    refine AOps.read ⟨36, rfl, rfl⟩ rfl (by decide) (Reader.int rfl rfl rfl (r := .bool true) rfl) ?_
    refine AOps.read trivial rfl (by decide) (Reader.pick rfl (b := true) rfl (ok_const rfl) (ok_const rfl) (v := .lit (.bool true)) rfl) ?_
    refine AOps.read trivial rfl (by decide) (Reader.move (.inl rfl) (ok_const rfl) (v := .lit (.bool true)) rfl) ?_
    refine AOps.read ⟨41, rfl, rfl⟩ rfl (by decide) (Reader.move (.inl rfl) (ok_const rfl) (v := .lit (.int .i64 2)) rfl) ?_
    refine AOps.read ⟨41, rfl, rfl⟩ rfl (by decide) (Reader.int rfl rfl rfl (r := .bool true) rfl) ?_
    refine AOps.read trivial rfl (by decide) (Reader.pick rfl (b := true) rfl (ok_const rfl) (ok_const rfl) (v := .lit (.bool true)) rfl) ?_
    refine AOps.read trivial rfl (by decide) (Reader.move (.inl rfl) (ok_const rfl) (v := .lit (.bool true)) rfl) ?_
    refine AOps.read ⟨45, rfl, rfl⟩ rfl (by decide) (Reader.move (.inl rfl) (ok_const rfl) (v := .lit (.bool true)) rfl) ?_
    refine AOps.read trivial rfl (by decide) (Reader.pick rfl (b := true) rfl (ok_const rfl) (ok_const rfl) (v := .lit (.bool true)) rfl) ?_
    refine AOps.read trivial rfl (by decide) (Reader.move (.inl rfl) (ok_const rfl) (v := .lit (.bool true)) rfl) ?_
    refine AOps.read ⟨48, rfl, rfl⟩ rfl (by decide) (Reader.move (.inl rfl) (ok_const rfl) (v := .lit (.int .i64 2)) rfl) ?_
    refine AOps.read ⟨48, rfl, rfl⟩ rfl (by decide) (Reader.int rfl rfl rfl (r := .bool true) rfl) ?_
    refine AOps.read trivial rfl (by decide) (Reader.pick rfl (b := true) rfl (ok_const rfl) (ok_const rfl) (v := .lit (.bool true)) rfl) ?_
    refine AOps.read trivial rfl (by decide) (Reader.move (.inl rfl) (ok_const rfl) (v := .lit (.bool true)) rfl) ?_
    refine AOps.read ⟨52, rfl, rfl⟩ rfl (by decide) (Reader.loadL rfl Tryd.underlying65 sizeOf_65 rfl rfl (v := .agg [.lit (.int .i64 0), .lit (.int .i64 10), .lit (.int .i64 0), .lit (.bool true), .lit (.int .i64 5)]) rfl rfl) ?_
    refine AOps.call (args := [encT (⟨0, 10, 0, true, 5⟩ : Thr)]) ⟨52, rfl, rfl⟩ rfl (by decide) rfl rfl Tryd.call38 (args_ok rfl) rfl (by intro j x v hx hv; match j, hx, hv with | 0, hx, hv => cases hx; cases hv; exact .inl ⟨rfl, rfl⟩ | _ + 1, hx, hv => cases hx) (tpa M) ?_
    rintro _ _ ⟨rfl, rfl⟩
    refine AOps.read ⟨52, rfl, rfl⟩ rfl (by decide) (Reader.strs rfl rfl rfl (r := true) rfl) ?_
    refine AOps.read trivial rfl (by decide) (Reader.pick rfl (b := true) rfl (ok_const rfl) (ok_const rfl) (v := .lit (.bool true)) rfl) ?_
    refine AOps.read trivial rfl (by decide) (Reader.move (.inl rfl) (ok_const rfl) (v := .lit (.bool true)) rfl) ?_
    refine AOps.read ⟨57, rfl, rfl⟩ rfl (by decide) (Reader.loadL rfl Tryd.underlying65 sizeOf_65 rfl rfl (v := .agg [.lit (.int .i64 0), .lit (.int .i64 10), .lit (.int .i64 0), .lit (.bool true), .lit (.int .i64 5)]) rfl rfl) ?_
    refine AOps.call (args := [encT (⟨0, 10, 0, true, 5⟩ : Thr), .lit (.int .i64 100), .lit (.int .i64 9)]) ⟨57, rfl, rfl⟩ rfl (by decide) rfl rfl Tryd.call40 (args_ok rfl) rfl (by intro j x v hx hv; match j, hx, hv with | 0, hx, hv => cases hx; cases hv; exact .inl ⟨rfl, rfl⟩ | 1, hx, hv => cases hx; cases hv; exact .inl ⟨rfl, rfl⟩ | 2, hx, hv => cases hx; cases hv; exact .inl ⟨rfl, rfl⟩ | _ + 3, hx, hv => cases hx) (tma1 M) ?_
    rintro _ _ ⟨rfl, rfl⟩
    refine AOps.read trivial rfl (by decide) (Reader.pick rfl (b := true) rfl (ok_const rfl) (ok_const rfl) (v := .lit (.bool true)) rfl) ?_
    refine AOps.read trivial rfl (by decide) (Reader.move (.inl rfl) (ok_const rfl) (v := .lit (.bool true)) rfl) ?_
    refine AOps.read ⟨61, rfl, rfl⟩ rfl (by decide) (Reader.loadL rfl Tryd.underlying65 sizeOf_65 rfl rfl (v := .agg [.lit (.int .i64 0), .lit (.int .i64 10), .lit (.int .i64 0), .lit (.bool true), .lit (.int .i64 5)]) rfl rfl) ?_
    refine AOps.call (args := [encT (⟨0, 10, 0, true, 5⟩ : Thr), .lit (.int .i64 100), .lit (.int .i64 10)]) ⟨61, rfl, rfl⟩ rfl (by decide) rfl rfl Tryd.call40 (args_ok rfl) rfl (by intro j x v hx hv; match j, hx, hv with | 0, hx, hv => cases hx; cases hv; exact .inl ⟨rfl, rfl⟩ | 1, hx, hv => cases hx; cases hv; exact .inl ⟨rfl, rfl⟩ | 2, hx, hv => cases hx; cases hv; exact .inl ⟨rfl, rfl⟩ | _ + 3, hx, hv => cases hx) (tma2 M) ?_
    rintro _ _ ⟨rfl, rfl⟩
    refine AOps.read ⟨61, rfl, rfl⟩ rfl (by decide) (Reader.not (b := false) rfl rfl) ?_
    refine AOps.read trivial rfl (by decide) (Reader.pick rfl (b := true) rfl (ok_const rfl) (ok_const rfl) (v := .lit (.bool true)) rfl) ?_
    refine AOps.read trivial rfl (by decide) (Reader.move (.inl rfl) (ok_const rfl) (v := .lit (.bool true)) rfl) ?_
    refine AOps.read ⟨66, rfl, rfl⟩ rfl (by decide) (Reader.loadL rfl Tryd.underlying65 sizeOf_65 rfl rfl (v := .agg [.lit (.int .i64 0), .lit (.int .i64 10), .lit (.int .i64 0), .lit (.bool true), .lit (.int .i64 5)]) rfl rfl) ?_
    refine AOps.call (args := [.agg [.lit (.int .i64 0), .lit (.int .i64 10), .lit (.int .i64 0), .lit (.bool true), .lit (.int .i64 5)], .lit (.int .i64 100)]) ⟨66, rfl, rfl⟩ rfl (by decide) rfl rfl Tryd.call61 (args_ok rfl) rfl (by intro j x v hx hv; match j, hx, hv with | 0, hx, hv => cases hx; cases hv; exact .inl ⟨rfl, rfl⟩ | 1, hx, hv => cases hx; cases hv; exact .inl ⟨rfl, rfl⟩ | _ + 2, hx, hv => cases hx) (edge_c M) ?_
    rintro _ _ ⟨rfl, rfl⟩
    refine AOps.read ⟨66, rfl, rfl⟩ rfl (by decide) (Reader.int rfl rfl rfl (r := .bool true) rfl) ?_
    refine AOps.read trivial rfl (by decide) (Reader.pick rfl (b := true) rfl (ok_const rfl) (ok_const rfl) (v := .lit (.bool true)) rfl) ?_
    refine AOps.read trivial rfl (by decide) (Reader.move (.inl rfl) (ok_const rfl) (v := .lit (.bool true)) rfl) ?_
    refine AOps.read ⟨71, rfl, rfl⟩ rfl (by decide) (Reader.loadL rfl Tryd.underlying65 sizeOf_65 rfl rfl (v := .agg [.lit (.int .i64 1), .lit (.int .i64 0), .lit (.int .i64 2097152), .lit (.bool false), .lit (.int .i64 0)]) rfl rfl) ?_
    refine AOps.call (args := [encT (⟨1, 0, 2097152, false, 0⟩ : Thr)]) ⟨71, rfl, rfl⟩ rfl (by decide) rfl rfl Tryd.call36 (args_ok rfl) rfl (by intro j x v hx hv; match j, hx, hv with | 0, hx, hv => cases hx; cases hv; exact .inl ⟨rfl, rfl⟩ | _ + 1, hx, hv => cases hx) (tia M) ?_
    rintro _ _ ⟨rfl, rfl⟩
    refine AOps.read trivial rfl (by decide) (Reader.pick rfl (b := true) rfl (ok_const rfl) (ok_const rfl) (v := .lit (.bool true)) rfl) ?_
    refine AOps.read trivial rfl (by decide) (Reader.move (.inr rfl) (ok_const rfl) (v := .lit (.bool true)) rfl) ?_
    exact AOps.nil rfl
  refine AWp.ret ?_
  exact ⟨.inl rfl, _, ResOf.one 0 (.lit (.bool true)) rfl rfl, ⟨rfl, rfl⟩⟩

set_option maxRecDepth 20000 in
theorem ThreshReads_any (t : List UInt8) (M : Nat → Option (List AV)) : ACall Tryd.prog 12 [.str t] M (fun r M' => r = .lit (.bool true) ∧ M = M') := by
  refine ACall.of Tryd.func12 rfl (n := 60) rfl rfl rfl ?_
  refine AWp.seq (AWp.region ?_)
  refine AOps.read trivial rfl (by decide) (Reader.move (.inr rfl) (ok_const rfl) (v := .lit (.bool false)) rfl) ?_
  refine AOps.nil ?_
  refine AWp.seq ?_
  refine AWp.regionJ [15, 0, 2] [] (fun z => ⟨(15, .lit (.bool z)) :: [(0, .str t), (2, .lit (.bool false))], [], M⟩) (z := decide ((t.length : Int) > 1000)) ?_ ?_
  · skip
    refine AOps.call (args := []) trivial rfl (by decide) rfl rfl Tryd.call32 (args_ok rfl) rfl (by intro j x v hx hv; match j, hx, hv with  | _ + 0, hx, hv => cases hx) (tawake_any M) ?_
    rintro _ _ ⟨rfl, rfl⟩
    refine AOps.read trivial rfl (by decide) (Reader.not (b := true) rfl rfl) ?_
    refine AOps.read trivial rfl (by decide) (Reader.move (.inl rfl) (ok_const rfl) (v := .lit (.bool false)) rfl) ?_
    refine AOps.read ⟨11, rfl, rfl⟩ rfl (by decide) (Reader.move (.inl rfl) (ok_const rfl) (v := .str t) rfl) ?_
    refine AOps.read ⟨11, rfl, rfl⟩ rfl (by decide) (Reader.lenStr' (l := t) rfl rfl rfl rfl Tryd.underlying9 rfl (m := t.length) (by first | rfl | simp)) ?_
    refine AOps.read ⟨11, rfl, rfl⟩ rfl (by decide) (Reader.int rfl rfl rfl (r := .bool (decide ((t.length : Int) > 1000))) rfl) ?_
    refine AOps.read trivial rfl (by decide) (Reader.pick rfl (b := false) rfl (ok_const rfl) (ok_const rfl) (v := .lit (.bool (decide ((t.length : Int) > 1000)))) rfl) ?_
    exact AOps.nil rfl
  refine AWp.cond (b := decide ((t.length : Int) > 1000)) rfl (fun h1 => ?_) (fun h1 => ?_)
  · skip
    have h1' : (t.length : Int) > 1000 := (of_decide_eq_true h1)
    clear h1
    refine AWp.seq (AWp.region ?_)
    refine AOps.call (args := []) trivial rfl (by decide) rfl rfl Tryd.call32 (args_ok rfl) rfl (by intro j x v hx hv; match j, hx, hv with  | _ + 0, hx, hv => cases hx) (tawake_any M) ?_
    rintro _ _ ⟨rfl, rfl⟩
    refine AOps.read trivial rfl (by decide) (Reader.move (.inr rfl) (ok_const rfl) (v := .lit (.bool true)) rfl) ?_
    refine AOps.nil ?_
    refine AWp.ret ?_
    exact ⟨.inl rfl, _, ResOf.one 2 (.lit (.bool true)) rfl rfl, ⟨rfl, rfl⟩⟩
  · skip
    have h1' : ¬ ((t.length : Int) > 1000) := (of_decide_eq_false h1)
    clear h1
    refine AWp.skip ?_
    refine AWp.seq (AWp.region ?_)
    refine AOps.read trivial rfl (by decide) (Reader.move (.inl rfl) (ok_const rfl) (v := .str t) rfl) ?_
    refine AOps.call (args := [.str t]) trivial rfl (by decide) rfl rfl Tryd.call33 (args_ok rfl) rfl (by intro j x v hx hv; match j, hx, hv with | 0, hx, hv => cases hx; cases hv; exact .inl ⟨rfl, rfl⟩ | _ + 1, hx, hv => cases hx) (TRead_any t (by first | omega | (simp only [List.length_append, List.length_cons, List.length_nil]; omega)) M) ?_
    rintro _ _ ⟨rfl, rfl⟩
    refine AOps.read trivial rfl (by decide) (Reader.move (.inl rfl) (ok_const rfl) (v := .tuple [encT (readT t), .lit (.int .i64 (errT t))]) rfl) ?_
    refine AOps.read trivial rfl (by decide) (Reader.extract (v := encT (readT t)) rfl rfl rfl rfl) ?_
    refine AOps.read trivial rfl (by decide) (Reader.extract (v := .lit (.int .i64 (errT t))) rfl rfl rfl rfl) ?_
    refine AOps.alloc (Es := []) trivial rfl (by decide) rfl (noL rfl) rfl zero_65 rfl (cells := [.lit (.int .i64 0), .lit (.int .i64 0), .lit (.int .i64 0), .lit (.bool false), .lit (.int .i64 0)]) rfl (all_scalar rfl) (all_flat rfl) ?_
    refine AOps.storeL trivial rfl rfl rfl rfl sizeOf_65 (.inl ⟨rfl, rfl⟩) rfl (v := encT (readT t)) rfl (all_flat rfl) rfl (Nat.le_of_ble_eq_true rfl) ?_
    refine AOps.read trivial rfl (by decide) (Reader.move (.inr rfl) (ok_const rfl) (v := .lit (.int .i64 (errT t))) rfl) ?_
    refine AOps.nil ?_
    refine AWp.seq (AWp.region ?_)
    refine AOps.read trivial rfl (by decide) (Reader.move (.inl rfl) (ok_const rfl) (v := .str t) rfl) ?_
    refine AOps.call (args := [.str t]) trivial rfl (by decide) rfl rfl Tryd.call34 (args_ok rfl) rfl (by intro j x v hx hv; match j, hx, hv with | 0, hx, hv => cases hx; cases hv; exact .inl ⟨rfl, rfl⟩ | _ + 1, hx, hv => cases hx) (rTRead_any t (by omega) M) ?_
    rintro _ _ ⟨rfl, rfl⟩
    refine AOps.read trivial rfl (by decide) (Reader.move (.inl rfl) (ok_const rfl) (v := .tuple [encT (readT t), .lit (.bool (decide (OkT t)))]) rfl) ?_
    refine AOps.read trivial rfl (by decide) (Reader.extract (v := encT (readT t)) rfl rfl rfl rfl) ?_
    refine AOps.read trivial rfl (by decide) (Reader.extract (v := .lit (.bool (decide (OkT t)))) rfl rfl rfl rfl) ?_
    refine AOps.alloc (Es := []) trivial rfl (by decide) rfl (noL rfl) rfl zero_65 rfl (cells := [.lit (.int .i64 0), .lit (.int .i64 0), .lit (.int .i64 0), .lit (.bool false), .lit (.int .i64 0)]) rfl (all_scalar rfl) (all_flat rfl) ?_
    refine AOps.storeL trivial rfl rfl rfl rfl sizeOf_65 (.inl ⟨rfl, rfl⟩) rfl (v := encT (readT t)) rfl (all_flat rfl) rfl (Nat.le_of_ble_eq_true rfl) ?_
    refine AOps.read trivial rfl (by decide) (Reader.move (.inr rfl) (ok_const rfl) (v := .lit (.bool (decide (OkT t)))) rfl) ?_
    refine AOps.nil ?_
    refine AWp.seq (AWp.region ?_)
    refine AOps.read trivial rfl (by decide) (Reader.move (.inl rfl) (ok_const rfl) (v := .str t) rfl) ?_
    refine AOps.call (args := [.str t]) trivial rfl (by decide) rfl rfl Tryd.call35 (args_ok rfl) rfl (by intro j x v hx hv; match j, hx, hv with | 0, hx, hv => cases hx; cases hv; exact .inl ⟨rfl, rfl⟩ | _ + 1, hx, hv => cases hx) (Signal_any t M) ?_
    rintro _ _ ⟨rfl, rfl⟩
    refine AOps.read trivial rfl (by decide) (Reader.move (.inl rfl) (ok_const rfl) (v := .tuple [.lit (.int .i64 (((sigOf t).toNat : Nat) : Int)), .lit (.bool (decide (sigOf t ≥ 0)))]) rfl) ?_
    refine AOps.read trivial rfl (by decide) (Reader.extract (v := .lit (.int .i64 (((sigOf t).toNat : Nat) : Int))) rfl rfl rfl rfl) ?_
    refine AOps.read trivial rfl (by decide) (Reader.extract (v := .lit (.bool (decide (sigOf t ≥ 0)))) rfl rfl rfl rfl) ?_
    refine AOps.read trivial rfl (by decide) (Reader.move (.inr rfl) (ok_const rfl) (v := .lit (.int .i64 (((sigOf t).toNat : Nat) : Int))) rfl) ?_
    refine AOps.read trivial rfl (by decide) (Reader.move (.inr rfl) (ok_const rfl) (v := .lit (.bool (decide (sigOf t ≥ 0)))) rfl) ?_
    refine AOps.nil ?_
    refine AWp.seq ?_
    refine AWp.regionJ [43, 15, 0, 2, 3, 4, 5, 6, 8] [3, 5] (fun z => ⟨(43, .lit (.bool z)) :: [(15, .lit (.bool (decide ((t.length : Int) > 1000)))), (0, .str t), (2, .lit (.bool false)), (3, .lptr 3 0), (4, .lit (.int .i64 (errT t))), (5, .lptr 5 0), (6, .lit (.bool (decide (OkT t)))), (8, .lit (.bool (decide (sigOf t ≥ 0))))], [(3, [.lit (.int .i64 ((readT t).sig)), .lit (.int .i64 ((readT t).pct)), .lit (.int .i64 ((readT t).amt)), .lit (.bool ((readT t).soft)), .lit (.int .i64 ((readT t).gr))]), (5, [.lit (.int .i64 ((readT t).sig)), .lit (.int .i64 ((readT t).pct)), .lit (.int .i64 ((readT t).amt)), .lit (.bool ((readT t).soft)), .lit (.int .i64 ((readT t).gr))])], M⟩) (z := bif (t == [109, 101, 109, 111, 114, 121]) then (!((decide (sigOf t ≥ 0)) == true)) else (bif (t == [100, 105, 115, 107]) then (!((decide (sigOf t ≥ 0)) == true)) else (!((decide (sigOf t ≥ 0)) == (t == [112, 105, 100]))))) ?_ ?_
    · skip
      refine AOps.read trivial rfl (by decide) (Reader.move (.inl rfl) (ok_const rfl) (v := .lit (.bool (decide (sigOf t ≥ 0)))) rfl) ?_
      refine AOps.read trivial rfl (by decide) (Reader.move (.inl rfl) (ok_const rfl) (v := .str t) rfl) ?_
      refine AOps.read trivial rfl (by decide) (Reader.strs rfl rfl rfl (r := t == [109, 101, 109, 111, 114, 121]) rfl) ?_
      refine AOps.read trivial rfl (by decide) (Reader.move (.inl rfl) (ok_const rfl) (v := .lit (.bool (t == [109, 101, 109, 111, 114, 121]))) rfl) ?_
      refine AOps.splitJ (t := 35) (b := t == [109, 101, 109, 111, 114, 121]) (x := (!((decide (sigOf t ≥ 0)) == true))) (y := (bif (t == [100, 105, 115, 107]) then (!((decide (sigOf t ≥ 0)) == true)) else (!((decide (sigOf t ≥ 0)) == (t == [112, 105, 100]))))) rfl (fun h2 => ?_) (fun h2 => ?_)
      · skip
        have h2' : t = [109, 101, 109, 111, 114, 121] := (eq_of_beq h2)
        clear h2
        refine AOps.skip ⟨3, false, 35, _, rfl, rfl, rfl, by simp⟩ rfl (by decide) ?_
        refine AOps.skip ⟨3, false, 35, _, rfl, rfl, rfl, by simp⟩ rfl (by decide) ?_
        refine AOps.read trivial rfl (by decide) (Reader.pick rfl (b := true) rfl (ok_const rfl) (ok_const rfl) (v := .lit (.bool true)) rfl) ?_
        refine AOps.read trivial rfl (by decide) (Reader.move (.inl rfl) (ok_const rfl) (v := .lit (.bool true)) rfl) ?_
        refine AOps.skip ⟨7, false, 39, _, rfl, rfl, rfl, by simp⟩ rfl (by decide) ?_
        refine AOps.skip ⟨7, false, 39, _, rfl, rfl, rfl, by simp⟩ rfl (by decide) ?_
        refine AOps.read trivial rfl (by decide) (Reader.pick rfl (b := true) rfl (ok_const rfl) (ok_const rfl) (v := .lit (.bool true)) rfl) ?_
        refine AOps.read trivial rfl (by decide) (Reader.bools (r := !((decide (sigOf t ≥ 0)) == true)) rfl Tryd.underlying4 rfl rfl (.inr ⟨rfl, rfl⟩)) ?_
        exact AOps.nil rfl
      · skip
        have h2' : ¬ (t = [109, 101, 109, 111, 114, 121]) := (beq_eq_false_iff_ne.1 h2)
        clear h2
        refine AOps.read ⟨35, rfl, rfl⟩ rfl (by decide) (Reader.move (.inl rfl) (ok_const rfl) (v := .str t) rfl) ?_
        refine AOps.read ⟨35, rfl, rfl⟩ rfl (by decide) (Reader.strs rfl rfl rfl (r := t == [100, 105, 115, 107]) rfl) ?_
        refine AOps.read trivial rfl (by decide) (Reader.pick rfl (b := false) rfl (ok_const rfl) (ok_const rfl) (v := .lit (.bool (t == [100, 105, 115, 107]))) rfl) ?_
        refine AOps.read trivial rfl (by decide) (Reader.move (.inl rfl) (ok_const rfl) (v := .lit (.bool (t == [100, 105, 115, 107]))) rfl) ?_
        refine AOps.splitJ (t := 39) (b := t == [100, 105, 115, 107]) (x := (!((decide (sigOf t ≥ 0)) == true))) (y := (!((decide (sigOf t ≥ 0)) == (t == [112, 105, 100])))) rfl (fun h3 => ?_) (fun h3 => ?_)
        · skip
          have h3' : t = [100, 105, 115, 107] := (eq_of_beq h3)
          clear h3
          refine AOps.skip ⟨7, false, 39, _, rfl, rfl, rfl, by simp⟩ rfl (by decide) ?_
          refine AOps.skip ⟨7, false, 39, _, rfl, rfl, rfl, by simp⟩ rfl (by decide) ?_
          refine AOps.read trivial rfl (by decide) (Reader.pick rfl (b := true) rfl (ok_const rfl) (ok_const rfl) (v := .lit (.bool true)) rfl) ?_
          refine AOps.read trivial rfl (by decide) (Reader.bools (r := !((decide (sigOf t ≥ 0)) == true)) rfl Tryd.underlying4 rfl rfl (.inr ⟨rfl, rfl⟩)) ?_
          exact AOps.nil rfl
        · skip
          have h3' : ¬ (t = [100, 105, 115, 107]) := (beq_eq_false_iff_ne.1 h3)
          clear h3
          refine AOps.read ⟨39, rfl, rfl⟩ rfl (by decide) (Reader.move (.inl rfl) (ok_const rfl) (v := .str t) rfl) ?_
          refine AOps.read ⟨39, rfl, rfl⟩ rfl (by decide) (Reader.strs rfl rfl rfl (r := t == [112, 105, 100]) rfl) ?_
          refine AOps.read trivial rfl (by decide) (Reader.pick rfl (b := false) rfl (ok_const rfl) (ok_const rfl) (v := .lit (.bool (t == [112, 105, 100]))) rfl) ?_
          refine AOps.read trivial rfl (by decide) (Reader.bools (r := !((decide (sigOf t ≥ 0)) == (t == [112, 105, 100]))) rfl Tryd.underlying4 rfl rfl (.inr ⟨rfl, rfl⟩)) ?_
          exact AOps.nil rfl
    refine AWp.cond (b := bif (t == [109, 101, 109, 111, 114, 121]) then (!((decide (sigOf t ≥ 0)) == true)) else (bif (t == [100, 105, 115, 107]) then (!((decide (sigOf t ≥ 0)) == true)) else (!((decide (sigOf t ≥ 0)) == (t == [112, 105, 100]))))) rfl (fun h4 => ?_) (fun h4 => ?_)
    · skip
      have h4' : False := (sig_same h4)
      clear h4
      refine AWp.seq (AWp.region ?_)
      refine AOps.read trivial rfl (by decide) (Reader.move (.inr rfl) (ok_const rfl) (v := .lit (.bool false)) rfl) ?_
      refine AOps.nil ?_
      refine AWp.ret ?_
      exact ⟨.inl rfl, _, ResOf.one 2 (.lit (.bool false)) rfl rfl, ⟨False.elim (by assumption), rfl⟩⟩
    · skip
      have h4' : True := trivial
      clear h4
      refine AWp.skip ?_
      refine AWp.seq ?_
      refine AWp.seq (AWp.region ?_)
      refine AOps.read trivial rfl (by decide) (Reader.move (.inl rfl) (ok_const rfl) (v := .lit (.bool (decide (OkT t)))) rfl) ?_
      refine AOps.read trivial rfl (by decide) (Reader.not (b := decide (OkT t)) rfl rfl) ?_
      refine AOps.nil ?_
      refine AWp.cond (b := !(decide (OkT t))) rfl (fun h5 => ?_) (fun h5 => ?_)
      · skip
        have h5' : ¬ OkT t := (of_decide_eq_false (bnot_t h5))
        clear h5
        refine AWp.regionJ [2, 43, 15, 0, 3, 4, 5, 6, 8, 45] [3, 5] (fun z => ⟨(2, .lit (.bool z)) :: [(43, .lit (.bool (bif (t == [109, 101, 109, 111, 114, 121]) then (!((decide (sigOf t ≥ 0)) == true)) else (bif (t == [100, 105, 115, 107]) then (!((decide (sigOf t ≥ 0)) == true)) else (!((decide (sigOf t ≥ 0)) == (t == [112, 105, 100]))))))), (15, .lit (.bool (decide ((t.length : Int) > 1000)))), (0, .str t), (3, .lptr 3 0), (4, .lit (.int .i64 (errT t))), (5, .lptr 5 0), (6, .lit (.bool (decide (OkT t)))), (8, .lit (.bool (decide (sigOf t ≥ 0)))), (45, .lit (.bool (!(decide (OkT t)))))], [(3, [.lit (.int .i64 ((readT t).sig)), .lit (.int .i64 ((readT t).pct)), .lit (.int .i64 ((readT t).amt)), .lit (.bool ((readT t).soft)), .lit (.int .i64 ((readT t).gr))]), (5, [.lit (.int .i64 ((readT t).sig)), .lit (.int .i64 ((readT t).pct)), .lit (.int .i64 ((readT t).amt)), .lit (.bool ((readT t).soft)), .lit (.int .i64 ((readT t).gr))])], M⟩) (z := bif ((errT t) == 2) then ((((readT t).sig) == 0) && ((((readT t).pct) == 0) && ((((readT t).amt) == 0) && ((((readT t).soft) == false) && ((((readT t).gr) == 0) && true))))) else false) ?_ ?_
        · skip
          refine AOps.read trivial rfl (by decide) (Reader.move (.inl rfl) (ok_const rfl) (v := .lit (.int .i64 (errT t))) rfl) ?_
          refine AOps.read trivial rfl (by decide) (Reader.int rfl rfl rfl (r := .bool ((errT t) == 2)) rfl) ?_
          refine AOps.read trivial rfl (by decide) (Reader.move (.inl rfl) (ok_const rfl) (v := .lit (.bool ((errT t) == 2))) rfl) ?_
          refine AOps.splitJ (t := 48) (b := (errT t) == 2) (x := ((((readT t).sig) == 0) && ((((readT t).pct) == 0) && ((((readT t).amt) == 0) && ((((readT t).soft) == false) && ((((readT t).gr) == 0) && true)))))) (y := false) rfl (fun h6 => ?_) (fun h6 => ?_)
          · skip
            have h6' : (errT t) = 2 := (by have hh := eq_of_beq h6; omega)
            clear h6
            refine AOps.read ⟨48, rfl, rfl⟩ rfl (by decide) (Reader.loadL rfl Tryd.underlying65 sizeOf_65 rfl rfl (v := .agg [.lit (.int .i64 ((readT t).sig)), .lit (.int .i64 ((readT t).pct)), .lit (.int .i64 ((readT t).amt)), .lit (.bool ((readT t).soft)), .lit (.int .i64 ((readT t).gr))]) rfl rfl) ?_
            refine AOps.read ⟨48, rfl, rfl⟩ rfl (by decide) (Reader.build (xs := []) (Es := []) (places := places_65) rfl Tryd.underlying65 (by refine ⟨rfl, fun j p x hp hx => ?_⟩; match j, hp, hx with | _ + 0, hp, hx => cases hp) zero_65 rfl places_65_ok (cs := [.lit (.int .i64 0), .lit (.int .i64 0), .lit (.int .i64 0), .lit (.bool false), .lit (.int .i64 0)]) rfl) ?_
            refine AOps.read ⟨48, rfl, rfl⟩ rfl (by decide) (Reader.eqAgg (us := [(.int .i64 ((readT t).sig)), (.int .i64 ((readT t).pct)), (.int .i64 ((readT t).amt)), (.bool ((readT t).soft)), (.int .i64 ((readT t).gr))]) (vs := [(.int .i64 0), (.int .i64 0), (.int .i64 0), (.bool false), (.int .i64 0)]) (b := ((((readT t).sig) == 0) && ((((readT t).pct) == 0) && ((((readT t).amt) == 0) && ((((readT t).soft) == false) && ((((readT t).gr) == 0) && true)))))) (r := ((((readT t).sig) == 0) && ((((readT t).pct) == 0) && ((((readT t).amt) == 0) && ((((readT t).soft) == false) && ((((readT t).gr) == 0) && true)))))) 9 rfl rfl rfl ⟨_, rfl⟩ ⟨_, rfl⟩ Tryd.underlying65 rfl eqg_65 (by decide) rfl rfl (eqV_65 ((readT t).sig) 0 ((readT t).pct) 0 ((readT t).amt) 0 ((readT t).soft) false ((readT t).gr) 0) (.inl ⟨rfl, rfl⟩)) ?_
            refine AOps.read trivial rfl (by decide) (Reader.pick rfl (b := true) rfl (ok_const rfl) (ok_const rfl) (v := .lit (.bool ((((readT t).sig) == 0) && ((((readT t).pct) == 0) && ((((readT t).amt) == 0) && ((((readT t).soft) == false) && ((((readT t).gr) == 0) && true))))))) rfl) ?_
            refine AOps.read trivial rfl (by decide) (Reader.move (.inr rfl) (ok_const rfl) (v := .lit (.bool ((((readT t).sig) == 0) && ((((readT t).pct) == 0) && ((((readT t).amt) == 0) && ((((readT t).soft) == false) && ((((readT t).gr) == 0) && true))))))) rfl) ?_
            exact AOps.nil rfl
          · skip
            have h6' : ¬ ((errT t) = 2) := (by have hh := beq_eq_false_iff_ne.1 h6; omega)
            clear h6
            refine AOps.skip ⟨2, true, 48, _, rfl, rfl, rfl, by simp⟩ rfl (by decide) ?_
            refine AOps.skip ⟨2, true, 48, _, rfl, rfl, rfl, by simp⟩ rfl (by decide) ?_
            refine AOps.skip ⟨2, true, 48, _, rfl, rfl, rfl, by simp⟩ rfl (by decide) ?_
            refine AOps.read trivial rfl (by decide) (Reader.pick rfl (b := false) rfl (ok_const rfl) (ok_const rfl) (v := .lit (.bool false)) rfl) ?_
            refine AOps.read trivial rfl (by decide) (Reader.move (.inr rfl) (ok_const rfl) (v := .lit (.bool false)) rfl) ?_
            exact AOps.nil rfl
        refine AWp.ret ?_
        exact ⟨.inl rfl, _, ResOf.one 2 (.lit (.bool (bif ((errT t) == 2) then ((((readT t).sig) == 0) && ((((readT t).pct) == 0) && ((((readT t).amt) == 0) && ((((readT t).soft) == false) && ((((readT t).gr) == 0) && true))))) else false))) rfl rfl, ⟨congrArg (fun b => AV.lit (.bool b)) (by first | exact treads_no (by assumption) | exact treads_ok (by assumption)), rfl⟩⟩
      · skip
        have h5' : OkT t := (of_decide_eq_true (bnot_f h5))
        clear h5
        refine AWp.skip ?_
        refine AWp.regionJ [2, 43, 15, 0, 3, 4, 5, 6, 8, 45] [3, 5] (fun z => ⟨(2, .lit (.bool z)) :: [(43, .lit (.bool (bif (t == [109, 101, 109, 111, 114, 121]) then (!((decide (sigOf t ≥ 0)) == true)) else (bif (t == [100, 105, 115, 107]) then (!((decide (sigOf t ≥ 0)) == true)) else (!((decide (sigOf t ≥ 0)) == (t == [112, 105, 100]))))))), (15, .lit (.bool (decide ((t.length : Int) > 1000)))), (0, .str t), (3, .lptr 3 0), (4, .lit (.int .i64 (errT t))), (5, .lptr 5 0), (6, .lit (.bool (decide (OkT t)))), (8, .lit (.bool (decide (sigOf t ≥ 0)))), (45, .lit (.bool (!(decide (OkT t)))))], [(3, [.lit (.int .i64 ((readT t).sig)), .lit (.int .i64 ((readT t).pct)), .lit (.int .i64 ((readT t).amt)), .lit (.bool ((readT t).soft)), .lit (.int .i64 ((readT t).gr))]), (5, [.lit (.int .i64 ((readT t).sig)), .lit (.int .i64 ((readT t).pct)), .lit (.int .i64 ((readT t).amt)), .lit (.bool ((readT t).soft)), .lit (.int .i64 ((readT t).gr))])], M⟩) (z := bif ((errT t) == 0) then ((((readT t).sig) == ((readT t).sig)) && ((((readT t).pct) == ((readT t).pct)) && ((((readT t).amt) == ((readT t).amt)) && ((((readT t).soft) == ((readT t).soft)) && ((((readT t).gr) == ((readT t).gr)) && true))))) else false) ?_ ?_
        · skip
          refine AOps.read trivial rfl (by decide) (Reader.move (.inl rfl) (ok_const rfl) (v := .lit (.int .i64 (errT t))) rfl) ?_
          refine AOps.read trivial rfl (by decide) (Reader.int rfl rfl rfl (r := .bool ((errT t) == 0)) rfl) ?_
          refine AOps.read trivial rfl (by decide) (Reader.move (.inl rfl) (ok_const rfl) (v := .lit (.bool ((errT t) == 0))) rfl) ?_
          refine AOps.splitJ (t := 55) (b := (errT t) == 0) (x := ((((readT t).sig) == ((readT t).sig)) && ((((readT t).pct) == ((readT t).pct)) && ((((readT t).amt) == ((readT t).amt)) && ((((readT t).soft) == ((readT t).soft)) && ((((readT t).gr) == ((readT t).gr)) && true)))))) (y := false) rfl (fun h7 => ?_) (fun h7 => ?_)
          · skip
            have h7' : (errT t) = 0 := (by have hh := eq_of_beq h7; omega)
            clear h7
            refine AOps.read ⟨55, rfl, rfl⟩ rfl (by decide) (Reader.loadL rfl Tryd.underlying65 sizeOf_65 rfl rfl (v := .agg [.lit (.int .i64 ((readT t).sig)), .lit (.int .i64 ((readT t).pct)), .lit (.int .i64 ((readT t).amt)), .lit (.bool ((readT t).soft)), .lit (.int .i64 ((readT t).gr))]) rfl rfl) ?_
            refine AOps.read ⟨55, rfl, rfl⟩ rfl (by decide) (Reader.loadL rfl Tryd.underlying65 sizeOf_65 rfl rfl (v := .agg [.lit (.int .i64 ((readT t).sig)), .lit (.int .i64 ((readT t).pct)), .lit (.int .i64 ((readT t).amt)), .lit (.bool ((readT t).soft)), .lit (.int .i64 ((readT t).gr))]) rfl rfl) ?_
            refine AOps.read ⟨55, rfl, rfl⟩ rfl (by decide) (Reader.eqAgg (us := [(.int .i64 ((readT t).sig)), (.int .i64 ((readT t).pct)), (.int .i64 ((readT t).amt)), (.bool ((readT t).soft)), (.int .i64 ((readT t).gr))]) (vs := [(.int .i64 ((readT t).sig)), (.int .i64 ((readT t).pct)), (.int .i64 ((readT t).amt)), (.bool ((readT t).soft)), (.int .i64 ((readT t).gr))]) (b := ((((readT t).sig) == ((readT t).sig)) && ((((readT t).pct) == ((readT t).pct)) && ((((readT t).amt) == ((readT t).amt)) && ((((readT t).soft) == ((readT t).soft)) && ((((readT t).gr) == ((readT t).gr)) && true)))))) (r := ((((readT t).sig) == ((readT t).sig)) && ((((readT t).pct) == ((readT t).pct)) && ((((readT t).amt) == ((readT t).amt)) && ((((readT t).soft) == ((readT t).soft)) && ((((readT t).gr) == ((readT t).gr)) && true)))))) 9 rfl rfl rfl ⟨_, rfl⟩ ⟨_, rfl⟩ Tryd.underlying65 rfl eqg_65 (by decide) rfl rfl (eqV_65 ((readT t).sig) ((readT t).sig) ((readT t).pct) ((readT t).pct) ((readT t).amt) ((readT t).amt) ((readT t).soft) ((readT t).soft) ((readT t).gr) ((readT t).gr)) (.inl ⟨rfl, rfl⟩)) ?_
            refine AOps.read trivial rfl (by decide) (Reader.pick rfl (b := true) rfl (ok_const rfl) (ok_const rfl) (v := .lit (.bool ((((readT t).sig) == ((readT t).sig)) && ((((readT t).pct) == ((readT t).pct)) && ((((readT t).amt) == ((readT t).amt)) && ((((readT t).soft) == ((readT t).soft)) && ((((readT t).gr) == ((readT t).gr)) && true))))))) rfl) ?_
            refine AOps.read trivial rfl (by decide) (Reader.move (.inr rfl) (ok_const rfl) (v := .lit (.bool ((((readT t).sig) == ((readT t).sig)) && ((((readT t).pct) == ((readT t).pct)) && ((((readT t).amt) == ((readT t).amt)) && ((((readT t).soft) == ((readT t).soft)) && ((((readT t).gr) == ((readT t).gr)) && true))))))) rfl) ?_
            exact AOps.nil rfl
          · skip
            have h7' : ¬ ((errT t) = 0) := (by have hh := beq_eq_false_iff_ne.1 h7; omega)
            clear h7
            refine AOps.skip ⟨2, true, 55, _, rfl, rfl, rfl, by simp⟩ rfl (by decide) ?_
            refine AOps.skip ⟨2, true, 55, _, rfl, rfl, rfl, by simp⟩ rfl (by decide) ?_
            refine AOps.skip ⟨2, true, 55, _, rfl, rfl, rfl, by simp⟩ rfl (by decide) ?_
            refine AOps.read trivial rfl (by decide) (Reader.pick rfl (b := false) rfl (ok_const rfl) (ok_const rfl) (v := .lit (.bool false)) rfl) ?_
            refine AOps.read trivial rfl (by decide) (Reader.move (.inr rfl) (ok_const rfl) (v := .lit (.bool false)) rfl) ?_
            exact AOps.nil rfl
        refine AWp.ret ?_
        exact ⟨.inl rfl, _, ResOf.one 2 (.lit (.bool (bif ((errT t) == 0) then ((((readT t).sig) == ((readT t).sig)) && ((((readT t).pct) == ((readT t).pct)) && ((((readT t).amt) == ((readT t).amt)) && ((((readT t).soft) == ((readT t).soft)) && ((((readT t).gr) == ((readT t).gr)) && true))))) else false))) rfl rfl, ⟨congrArg (fun b => AV.lit (.bool b)) (by first | exact treads_no (by assumption) | exact treads_ok (by assumption)), rfl⟩⟩

set_option maxRecDepth 20000 in
theorem ThreshBack_any (u : Thr) (ha : u.amt ≤ 9223372036854775807) (t : List UInt8) (M : Nat → Option (List AV)) : ACall Tryd.prog 13 [encT u, .str t] M (fun r M' => r = .lit (.bool true) ∧ M = M') := by
  refine ACall.of Tryd.func13 rfl (n := 58) rfl rfl rfl ?_
  refine AWp.seq (AWp.region ?_)
  refine AOps.box trivial rfl (by decide) rfl (noL rfl) rfl (v := encT u) (.inl ⟨rfl, rfl⟩) rfl rfl (all_flat rfl) ?_
  refine AOps.read trivial rfl (by decide) (Reader.move (.inr rfl) (ok_const rfl) (v := .lit (.bool false)) rfl) ?_
  refine AOps.nil ?_
  refine AWp.seq ?_
  refine AWp.regionJ [16, 0, 1, 2, 4] [2] (fun z => ⟨(16, .lit (.bool z)) :: [(0, encT u), (1, .str t), (2, .lptr 2 0), (4, .lit (.bool false))], [(2, [.lit (.int .i64 u.sig), .lit (.int .i64 u.pct), .lit (.int .i64 u.amt), .lit (.bool u.soft), .lit (.int .i64 u.gr)])], M⟩) (z := decide ((t.length : Int) > 1000)) ?_ ?_
  · skip
    refine AOps.call (args := []) trivial rfl (by decide) rfl rfl Tryd.call32 (args_ok rfl) rfl (by intro j x v hx hv; match j, hx, hv with  | _ + 0, hx, hv => cases hx) (tawake_any M) ?_
    rintro _ _ ⟨rfl, rfl⟩
    refine AOps.read trivial rfl (by decide) (Reader.not (b := true) rfl rfl) ?_
    refine AOps.read trivial rfl (by decide) (Reader.move (.inl rfl) (ok_const rfl) (v := .lit (.bool false)) rfl) ?_
    refine AOps.read ⟨12, rfl, rfl⟩ rfl (by decide) (Reader.move (.inl rfl) (ok_const rfl) (v := .str t) rfl) ?_
    refine AOps.read ⟨12, rfl, rfl⟩ rfl (by decide) (Reader.lenStr' (l := t) rfl rfl rfl rfl Tryd.underlying9 rfl (m := t.length) (by first | rfl | simp)) ?_
    refine AOps.read ⟨12, rfl, rfl⟩ rfl (by decide) (Reader.int rfl rfl rfl (r := .bool (decide ((t.length : Int) > 1000))) rfl) ?_
    refine AOps.read trivial rfl (by decide) (Reader.pick rfl (b := false) rfl (ok_const rfl) (ok_const rfl) (v := .lit (.bool (decide ((t.length : Int) > 1000)))) rfl) ?_
    exact AOps.nil rfl
  refine AWp.cond (b := decide ((t.length : Int) > 1000)) rfl (fun h1 => ?_) (fun h1 => ?_)
  · skip
    have h1' : (t.length : Int) > 1000 := (of_decide_eq_true h1)
    clear h1
    refine AWp.seq (AWp.region ?_)
    refine AOps.call (args := []) trivial rfl (by decide) rfl rfl Tryd.call32 (args_ok rfl) rfl (by intro j x v hx hv; match j, hx, hv with  | _ + 0, hx, hv => cases hx) (tawake_any M) ?_
    rintro _ _ ⟨rfl, rfl⟩
    refine AOps.read trivial rfl (by decide) (Reader.move (.inr rfl) (ok_const rfl) (v := .lit (.bool true)) rfl) ?_
    refine AOps.nil ?_
    refine AWp.ret ?_
    exact ⟨.inl rfl, _, ResOf.one 4 (.lit (.bool true)) rfl rfl, ⟨rfl, rfl⟩⟩
  · skip
    have h1' : ¬ ((t.length : Int) > 1000) := (of_decide_eq_false h1)
    clear h1
    refine AWp.skip ?_
    refine AWp.seq ?_
    refine AWp.seq (AWp.drawnAll (by kernel_rfl) (by kernel_rfl) ?_)
    refine AOpsE.read trivial rfl (by decide) (Reader.loadL rfl Tryd.underlying65 sizeOf_65 rfl rfl (v := .agg [.lit (.int .i64 u.sig), .lit (.int .i64 u.pct), .lit (.int .i64 u.amt), .lit (.bool u.soft), .lit (.int .i64 u.gr)]) rfl rfl) ?_
    refine AOpsE.call (args := [.agg [.lit (.int .i64 u.sig), .lit (.int .i64 u.pct), .lit (.int .i64 u.amt), .lit (.bool u.soft), .lit (.int .i64 u.gr)]]) (v := .lit (.bool (decide (RightT ⟨u.sig, u.pct, u.amt, u.soft, u.gr⟩)))) trivial rfl (by decide) rfl rfl Tryd.call36 (args_ok rfl) rfl (by intro j x v hx hv; match j, hx, hv with | 0, hx, hv => cases hx; cases hv; exact .inl ⟨rfl, rfl⟩ | _ + 1, hx, hv => cases hx) (Right_any ⟨u.sig, u.pct, u.amt, u.soft, u.gr⟩ noM) rfl ?_
    refine AOpsE.read trivial rfl (by decide) (Reader.loadL rfl Tryd.underlying65 sizeOf_65 rfl rfl (v := .agg [.lit (.int .i64 u.sig), .lit (.int .i64 u.pct), .lit (.int .i64 u.amt), .lit (.bool u.soft), .lit (.int .i64 u.gr)]) rfl rfl) ?_
    refine AOpsE.call (args := [.agg [.lit (.int .i64 u.sig), .lit (.int .i64 u.pct), .lit (.int .i64 u.amt), .lit (.bool u.soft), .lit (.int .i64 u.gr)]]) (v := .lit (.bool (decide (RightT ⟨u.sig, u.pct, u.amt, u.soft, u.gr⟩)))) trivial rfl (by decide) rfl rfl Tryd.call37 (args_ok rfl) rfl (by intro j x v hx hv; match j, hx, hv with | 0, hx, hv => cases hx; cases hv; exact .inl ⟨rfl, rfl⟩ | _ + 1, hx, hv => cases hx) (rRight_any ⟨u.sig, u.pct, u.amt, u.soft, u.gr⟩ noM) rfl ?_
    refine AOpsE.read trivial rfl (by decide) (Reader.bools (r := !((decide (RightT ⟨u.sig, u.pct, u.amt, u.soft, u.gr⟩)) == (decide (RightT ⟨u.sig, u.pct, u.amt, u.soft, u.gr⟩)))) rfl Tryd.underlying4 rfl rfl (.inr ⟨rfl, rfl⟩)) ?_
    refine AOpsE.nil ?_
    refine AWp.cond (b := !((decide (RightT ⟨u.sig, u.pct, u.amt, u.soft, u.gr⟩)) == (decide (RightT ⟨u.sig, u.pct, u.amt, u.soft, u.gr⟩)))) rfl (fun h2 => ?_) (fun h2 => ?_)
    · skip
      refine AWp.seq (AWp.region ?_)
      refine AOps.read trivial rfl (by decide) (Reader.move (.inr rfl) (ok_const rfl) (v := .lit (.bool false)) rfl) ?_
      refine AOps.nil ?_
      refine AWp.ret ?_
      exact ⟨.inl rfl, _, ResOf.one 4 (.lit (.bool false)) rfl rfl, ⟨False.elim (by first | assumption | simp_all), rfl⟩⟩
    · skip
      refine AWp.skip ?_
      refine AWp.seq (AWp.region ?_)
      refine AOps.read trivial rfl (by decide) (Reader.move (.inl rfl) (ok_const rfl) (v := .str t) rfl) ?_
      refine AOps.call (args := [.str t]) trivial rfl (by decide) rfl rfl Tryd.call33 (args_ok rfl) rfl (by intro j x v hx hv; match j, hx, hv with | 0, hx, hv => cases hx; cases hv; exact .inl ⟨rfl, rfl⟩ | _ + 1, hx, hv => cases hx) (TRead_any t (by omega) M) ?_
      rintro _ _ ⟨rfl, rfl⟩
      refine AOps.read trivial rfl (by decide) (Reader.move (.inl rfl) (ok_const rfl) (v := .tuple [encT (readT t), .lit (.int .i64 (errT t))]) rfl) ?_
      refine AOps.read trivial rfl (by decide) (Reader.extract (v := encT (readT t)) rfl rfl rfl rfl) ?_
      refine AOps.read trivial rfl (by decide) (Reader.extract (v := .lit (.int .i64 (errT t))) rfl rfl rfl rfl) ?_
      refine AOps.alloc (Es := []) trivial rfl (by decide) rfl (noL rfl) rfl zero_65 rfl (cells := [.lit (.int .i64 0), .lit (.int .i64 0), .lit (.int .i64 0), .lit (.bool false), .lit (.int .i64 0)]) rfl (all_scalar rfl) (all_flat rfl) ?_
      refine AOps.storeL trivial rfl rfl rfl rfl sizeOf_65 (.inl ⟨rfl, rfl⟩) rfl (v := encT (readT t)) rfl (all_flat rfl) rfl (Nat.le_of_ble_eq_true rfl) ?_
      refine AOps.read trivial rfl (by decide) (Reader.move (.inr rfl) (ok_const rfl) (v := .lit (.int .i64 (errT t))) rfl) ?_
      refine AOps.nil ?_
      refine AWp.seq ?_
      refine AWp.regionJ [34, 16, 0, 1, 2, 4, 22, 5, 6] [2, 5] (fun z => ⟨(34, .lit (.bool z)) :: [(16, .lit (.bool (decide ((t.length : Int) > 1000)))), (0, encT u), (1, .str t), (2, .lptr 2 0), (4, .lit (.bool false)), (22, .lit (.bool (!((decide (RightT ⟨u.sig, u.pct, u.amt, u.soft, u.gr⟩)) == (decide (RightT ⟨u.sig, u.pct, u.amt, u.soft, u.gr⟩)))))), (5, .lptr 5 0), (6, .lit (.int .i64 (errT t)))], [(2, [.lit (.int .i64 u.sig), .lit (.int .i64 u.pct), .lit (.int .i64 u.amt), .lit (.bool u.soft), .lit (.int .i64 u.gr)]), (5, [.lit (.int .i64 ((readT t).sig)), .lit (.int .i64 ((readT t).pct)), .lit (.int .i64 ((readT t).amt)), .lit (.bool ((readT t).soft)), .lit (.int .i64 ((readT t).gr))])], M⟩) (z := bif ((errT t) == 0) then (!(decide (RightT ⟨(readT t).sig, (readT t).pct, (readT t).amt, (readT t).soft, (readT t).gr⟩))) else false) ?_ ?_
      · skip
        refine AOps.read trivial rfl (by decide) (Reader.move (.inl rfl) (ok_const rfl) (v := .lit (.int .i64 (errT t))) rfl) ?_
        refine AOps.read trivial rfl (by decide) (Reader.int rfl rfl rfl (r := .bool ((errT t) == 0)) rfl) ?_
        refine AOps.read trivial rfl (by decide) (Reader.move (.inl rfl) (ok_const rfl) (v := .lit (.bool ((errT t) == 0))) rfl) ?_
        refine AOps.splitJ (t := 30) (b := (errT t) == 0) (x := (!(decide (RightT ⟨(readT t).sig, (readT t).pct, (readT t).amt, (readT t).soft, (readT t).gr⟩)))) (y := false) rfl (fun h3 => ?_) (fun h3 => ?_)
        · skip
          have h3' : (errT t) = 0 := (by have hh := eq_of_beq h3; omega)
          clear h3
          refine AOps.read ⟨30, rfl, rfl⟩ rfl (by decide) (Reader.loadL rfl Tryd.underlying65 sizeOf_65 rfl rfl (v := .agg [.lit (.int .i64 ((readT t).sig)), .lit (.int .i64 ((readT t).pct)), .lit (.int .i64 ((readT t).amt)), .lit (.bool ((readT t).soft)), .lit (.int .i64 ((readT t).gr))]) rfl rfl) ?_
          refine AOps.call (args := [.agg [.lit (.int .i64 ((readT t).sig)), .lit (.int .i64 ((readT t).pct)), .lit (.int .i64 ((readT t).amt)), .lit (.bool ((readT t).soft)), .lit (.int .i64 ((readT t).gr))]]) ⟨30, rfl, rfl⟩ rfl (by decide) rfl rfl Tryd.call36 (args_ok rfl) rfl (by intro j x v hx hv; match j, hx, hv with | 0, hx, hv => cases hx; cases hv; exact .inl ⟨rfl, rfl⟩ | _ + 1, hx, hv => cases hx) (Right_any ⟨(readT t).sig, (readT t).pct, (readT t).amt, (readT t).soft, (readT t).gr⟩ M) ?_
          rintro _ _ ⟨rfl, rfl⟩
          refine AOps.read ⟨30, rfl, rfl⟩ rfl (by decide) (Reader.not (b := decide (RightT ⟨(readT t).sig, (readT t).pct, (readT t).amt, (readT t).soft, (readT t).gr⟩)) rfl rfl) ?_
          refine AOps.read trivial rfl (by decide) (Reader.pick rfl (b := true) rfl (ok_const rfl) (ok_const rfl) (v := .lit (.bool (!(decide (RightT ⟨(readT t).sig, (readT t).pct, (readT t).amt, (readT t).soft, (readT t).gr⟩))))) rfl) ?_
          exact AOps.nil rfl
        · skip
          have h3' : ¬ ((errT t) = 0) := (by have hh := beq_eq_false_iff_ne.1 h3; omega)
          clear h3
          refine AOps.skip ⟨2, true, 30, _, rfl, rfl, rfl, by simp⟩ rfl (by decide) ?_
          refine AOps.skip ⟨2, true, 30, _, rfl, rfl, rfl, by simp⟩ rfl (by decide) ?_
          refine AOps.skip ⟨2, true, 30, _, rfl, rfl, rfl, by simp⟩ rfl (by decide) ?_
          refine AOps.read trivial rfl (by decide) (Reader.pick rfl (b := false) rfl (ok_const rfl) (ok_const rfl) (v := .lit (.bool false)) rfl) ?_
          exact AOps.nil rfl
      refine AWp.cond (b := bif ((errT t) == 0) then (!(decide (RightT ⟨(readT t).sig, (readT t).pct, (readT t).amt, (readT t).soft, (readT t).gr⟩))) else false) rfl (fun h4 => ?_) (fun h4 => ?_)
      · skip
        have h4' : False := (tback_r h4)
        clear h4
        refine AWp.seq (AWp.region ?_)
        refine AOps.read trivial rfl (by decide) (Reader.move (.inr rfl) (ok_const rfl) (v := .lit (.bool false)) rfl) ?_
        refine AOps.nil ?_
        refine AWp.ret ?_
        exact ⟨.inl rfl, _, ResOf.one 4 (.lit (.bool false)) rfl rfl, ⟨False.elim (by first | assumption | simp_all), rfl⟩⟩
      · skip
        have h4' : True := trivial
        clear h4
        refine AWp.skip ?_
        refine AWp.seq ?_
        refine AWp.seq (AWp.region ?_)
        refine AOps.read trivial rfl (by decide) (Reader.loadL rfl Tryd.underlying65 sizeOf_65 rfl rfl (v := .agg [.lit (.int .i64 u.sig), .lit (.int .i64 u.pct), .lit (.int .i64 u.amt), .lit (.bool u.soft), .lit (.int .i64 u.gr)]) rfl rfl) ?_
        refine AOps.call (args := [.agg [.lit (.int .i64 u.sig), .lit (.int .i64 u.pct), .lit (.int .i64 u.amt), .lit (.bool u.soft), .lit (.int .i64 u.gr)]]) trivial rfl (by decide) rfl rfl Tryd.call36 (args_ok rfl) rfl (by intro j x v hx hv; match j, hx, hv with | 0, hx, hv => cases hx; cases hv; exact .inl ⟨rfl, rfl⟩ | _ + 1, hx, hv => cases hx) (Right_any ⟨u.sig, u.pct, u.amt, u.soft, u.gr⟩ M) ?_
        rintro _ _ ⟨rfl, rfl⟩
        refine AOps.read trivial rfl (by decide) (Reader.not (b := decide (RightT ⟨u.sig, u.pct, u.amt, u.soft, u.gr⟩)) rfl rfl) ?_
        refine AOps.nil ?_
        refine AWp.cond (b := !(decide (RightT ⟨u.sig, u.pct, u.amt, u.soft, u.gr⟩))) rfl (fun h5 => ?_) (fun h5 => ?_)
        · skip
          have h5' : ¬ RightT ⟨u.sig, u.pct, u.amt, u.soft, u.gr⟩ := (of_decide_eq_false (bnot_t h5))
          clear h5
          refine AWp.seq (AWp.region ?_)
          refine AOps.read trivial rfl (by decide) (Reader.move (.inr rfl) (ok_const rfl) (v := .lit (.bool true)) rfl) ?_
          refine AOps.nil ?_
          refine AWp.ret ?_
          exact ⟨.inl rfl, _, ResOf.one 4 (.lit (.bool true)) rfl rfl, ⟨rfl, rfl⟩⟩
        · skip
          have h5' : RightT ⟨u.sig, u.pct, u.amt, u.soft, u.gr⟩ := (of_decide_eq_true (bnot_f h5))
          clear h5
          refine AWp.skip ?_
          refine AWp.seq (AWp.region ?_)
          refine AOps.read trivial rfl (by decide) (Reader.loadL rfl Tryd.underlying65 sizeOf_65 rfl rfl (v := .agg [.lit (.int .i64 u.sig), .lit (.int .i64 u.pct), .lit (.int .i64 u.amt), .lit (.bool u.soft), .lit (.int .i64 u.gr)]) rfl rfl) ?_
          refine AOps.call (args := [.agg [.lit (.int .i64 u.sig), .lit (.int .i64 u.pct), .lit (.int .i64 u.amt), .lit (.bool u.soft), .lit (.int .i64 u.gr)]]) trivial rfl (by decide) rfl rfl Tryd.call38 (args_ok rfl) rfl (by intro j x v hx hv; match j, hx, hv with | 0, hx, hv => cases hx; cases hv; exact .inl ⟨rfl, rfl⟩ | _ + 1, hx, hv => cases hx) (TPrint_any u (by assumption) ha M) ?_
          rintro _ _ ⟨rfl, rfl⟩
          refine AOps.read trivial rfl (by decide) (Reader.move (.inr rfl) (ok_const rfl) (v := .str (printT u)) rfl) ?_
          refine AOps.nil ?_
          refine AWp.seq (AWp.region ?_)
          refine AOps.read trivial rfl (by decide) (Reader.move (.inl rfl) (ok_const rfl) (v := .str (printT u)) rfl) ?_
          refine AOps.call (args := [.str (printT u)]) trivial rfl (by decide) rfl rfl Tryd.call33 (args_ok rfl) rfl (by intro j x v hx hv; match j, hx, hv with | 0, hx, hv => cases hx; cases hv; exact .inl ⟨rfl, rfl⟩ | _ + 1, hx, hv => cases hx) (TRead_any (printT u) (printT_len (by assumption) ha) M) ?_
          rintro _ _ ⟨rfl, rfl⟩
          refine AOps.read trivial rfl (by decide) (Reader.move (.inl rfl) (ok_const rfl) (v := .tuple [encT (readT (printT u)), .lit (.int .i64 (errT (printT u)))]) rfl) ?_
          refine AOps.read trivial rfl (by decide) (Reader.extract (v := encT (readT (printT u))) rfl rfl rfl rfl) ?_
          refine AOps.read trivial rfl (by decide) (Reader.extract (v := .lit (.int .i64 (errT (printT u)))) rfl rfl rfl rfl) ?_
          refine AOps.alloc (Es := []) trivial rfl (by decide) rfl (noL rfl) rfl zero_65 rfl (cells := [.lit (.int .i64 0), .lit (.int .i64 0), .lit (.int .i64 0), .lit (.bool false), .lit (.int .i64 0)]) rfl (all_scalar rfl) (all_flat rfl) ?_
          refine AOps.storeL trivial rfl rfl rfl rfl sizeOf_65 (.inl ⟨rfl, rfl⟩) rfl (v := encT (readT (printT u))) rfl (all_flat rfl) rfl (Nat.le_of_ble_eq_true rfl) ?_
          refine AOps.read trivial rfl (by decide) (Reader.move (.inr rfl) (ok_const rfl) (v := .lit (.int .i64 (errT (printT u)))) rfl) ?_
          refine AOps.nil ?_
          refine AWp.regionJ [4, 34, 16, 0, 1, 2, 22, 5, 6, 37, 7, 8, 9] [2, 5, 8] (fun z => ⟨(4, .lit (.bool z)) :: [(34, .lit (.bool (bif ((errT t) == 0) then (!(decide (RightT ⟨(readT t).sig, (readT t).pct, (readT t).amt, (readT t).soft, (readT t).gr⟩))) else false))), (16, .lit (.bool (decide ((t.length : Int) > 1000)))), (0, encT u), (1, .str t), (2, .lptr 2 0), (22, .lit (.bool (!((decide (RightT ⟨u.sig, u.pct, u.amt, u.soft, u.gr⟩)) == (decide (RightT ⟨u.sig, u.pct, u.amt, u.soft, u.gr⟩)))))), (5, .lptr 5 0), (6, .lit (.int .i64 (errT t))), (37, .lit (.bool (!(decide (RightT ⟨u.sig, u.pct, u.amt, u.soft, u.gr⟩))))), (7, .str (printT u)), (8, .lptr 8 0), (9, .lit (.int .i64 (errT (printT u))))], [(2, [.lit (.int .i64 u.sig), .lit (.int .i64 u.pct), .lit (.int .i64 u.amt), .lit (.bool u.soft), .lit (.int .i64 u.gr)]), (5, [.lit (.int .i64 ((readT t).sig)), .lit (.int .i64 ((readT t).pct)), .lit (.int .i64 ((readT t).amt)), .lit (.bool ((readT t).soft)), .lit (.int .i64 ((readT t).gr))]), (8, [.lit (.int .i64 ((readT (printT u)).sig)), .lit (.int .i64 ((readT (printT u)).pct)), .lit (.int .i64 ((readT (printT u)).amt)), .lit (.bool ((readT (printT u)).soft)), .lit (.int .i64 ((readT (printT u)).gr))])], M⟩) (z := bif ((errT (printT u)) == 0) then (bif ((((readT (printT u)).sig) == u.sig) && ((((readT (printT u)).pct) == u.pct) && ((((readT (printT u)).amt) == u.amt) && ((((readT (printT u)).soft) == u.soft) && ((((readT (printT u)).gr) == u.gr) && true))))) then ((printT u) == (printT u)) else false) else false) ?_ ?_
          · skip
            refine AOps.read trivial rfl (by decide) (Reader.move (.inl rfl) (ok_const rfl) (v := .lit (.int .i64 (errT (printT u)))) rfl) ?_
            refine AOps.read trivial rfl (by decide) (Reader.int rfl rfl rfl (r := .bool ((errT (printT u)) == 0)) rfl) ?_
            refine AOps.read trivial rfl (by decide) (Reader.move (.inl rfl) (ok_const rfl) (v := .lit (.bool ((errT (printT u)) == 0))) rfl) ?_
            refine AOps.splitJ (t := 47) (b := (errT (printT u)) == 0) (x := (bif ((((readT (printT u)).sig) == u.sig) && ((((readT (printT u)).pct) == u.pct) && ((((readT (printT u)).amt) == u.amt) && ((((readT (printT u)).soft) == u.soft) && ((((readT (printT u)).gr) == u.gr) && true))))) then ((printT u) == (printT u)) else false)) (y := false) rfl (fun h6 => ?_) (fun h6 => ?_)
            · skip
              have h6' : (errT (printT u)) = 0 := (by have hh := eq_of_beq h6; omega)
              clear h6
              refine AOps.read ⟨47, rfl, rfl⟩ rfl (by decide) (Reader.loadL rfl Tryd.underlying65 sizeOf_65 rfl rfl (v := .agg [.lit (.int .i64 ((readT (printT u)).sig)), .lit (.int .i64 ((readT (printT u)).pct)), .lit (.int .i64 ((readT (printT u)).amt)), .lit (.bool ((readT (printT u)).soft)), .lit (.int .i64 ((readT (printT u)).gr))]) rfl rfl) ?_
              refine AOps.read ⟨47, rfl, rfl⟩ rfl (by decide) (Reader.loadL rfl Tryd.underlying65 sizeOf_65 rfl rfl (v := .agg [.lit (.int .i64 u.sig), .lit (.int .i64 u.pct), .lit (.int .i64 u.amt), .lit (.bool u.soft), .lit (.int .i64 u.gr)]) rfl rfl) ?_
              refine AOps.read ⟨47, rfl, rfl⟩ rfl (by decide) (Reader.eqAgg (us := [(.int .i64 ((readT (printT u)).sig)), (.int .i64 ((readT (printT u)).pct)), (.int .i64 ((readT (printT u)).amt)), (.bool ((readT (printT u)).soft)), (.int .i64 ((readT (printT u)).gr))]) (vs := [(.int .i64 u.sig), (.int .i64 u.pct), (.int .i64 u.amt), (.bool u.soft), (.int .i64 u.gr)]) (b := ((((readT (printT u)).sig) == u.sig) && ((((readT (printT u)).pct) == u.pct) && ((((readT (printT u)).amt) == u.amt) && ((((readT (printT u)).soft) == u.soft) && ((((readT (printT u)).gr) == u.gr) && true)))))) (r := ((((readT (printT u)).sig) == u.sig) && ((((readT (printT u)).pct) == u.pct) && ((((readT (printT u)).amt) == u.amt) && ((((readT (printT u)).soft) == u.soft) && ((((readT (printT u)).gr) == u.gr) && true)))))) 9 rfl rfl rfl ⟨_, rfl⟩ ⟨_, rfl⟩ Tryd.underlying65 rfl eqg_65 (by decide) rfl rfl (eqV_65 ((readT (printT u)).sig) u.sig ((readT (printT u)).pct) u.pct ((readT (printT u)).amt) u.amt ((readT (printT u)).soft) u.soft ((readT (printT u)).gr) u.gr) (.inl ⟨rfl, rfl⟩)) ?_
              refine AOps.read trivial rfl (by decide) (Reader.pick rfl (b := true) rfl (ok_const rfl) (ok_const rfl) (v := .lit (.bool ((((readT (printT u)).sig) == u.sig) && ((((readT (printT u)).pct) == u.pct) && ((((readT (printT u)).amt) == u.amt) && ((((readT (printT u)).soft) == u.soft) && ((((readT (printT u)).gr) == u.gr) && true))))))) rfl) ?_
              refine AOps.read trivial rfl (by decide) (Reader.move (.inl rfl) (ok_const rfl) (v := .lit (.bool ((((readT (printT u)).sig) == u.sig) && ((((readT (printT u)).pct) == u.pct) && ((((readT (printT u)).amt) == u.amt) && ((((readT (printT u)).soft) == u.soft) && ((((readT (printT u)).gr) == u.gr) && true))))))) rfl) ?_
              refine AOps.splitJ (t := 52) (b := ((((readT (printT u)).sig) == u.sig) && ((((readT (printT u)).pct) == u.pct) && ((((readT (printT u)).amt) == u.amt) && ((((readT (printT u)).soft) == u.soft) && ((((readT (printT u)).gr) == u.gr) && true)))))) (x := ((printT u) == (printT u))) (y := false) rfl (fun h7 => ?_) (fun h7 => ?_)
              · skip
                refine AOps.read ⟨52, rfl, rfl⟩ rfl (by decide) (Reader.move (.inl rfl) (ok_const rfl) (v := .str (printT u)) rfl) ?_
                refine AOps.read ⟨52, rfl, rfl⟩ rfl (by decide) (Reader.loadL rfl Tryd.underlying65 sizeOf_65 rfl rfl (v := .agg [.lit (.int .i64 u.sig), .lit (.int .i64 u.pct), .lit (.int .i64 u.amt), .lit (.bool u.soft), .lit (.int .i64 u.gr)]) rfl rfl) ?_
                refine AOps.call (args := [.agg [.lit (.int .i64 u.sig), .lit (.int .i64 u.pct), .lit (.int .i64 u.amt), .lit (.bool u.soft), .lit (.int .i64 u.gr)]]) ⟨52, rfl, rfl⟩ rfl (by decide) rfl rfl Tryd.call39 (args_ok rfl) rfl (by intro j x v hx hv; match j, hx, hv with | 0, hx, hv => cases hx; cases hv; exact .inl ⟨rfl, rfl⟩ | _ + 1, hx, hv => cases hx) (rTPrint_any u (by assumption) ha M) ?_
                rintro _ _ ⟨rfl, rfl⟩
                refine AOps.read ⟨52, rfl, rfl⟩ rfl (by decide) (Reader.strs rfl rfl rfl (r := (printT u) == (printT u)) rfl) ?_
                refine AOps.read trivial rfl (by decide) (Reader.pick rfl (b := true) rfl (ok_const rfl) (ok_const rfl) (v := .lit (.bool ((printT u) == (printT u)))) rfl) ?_
                refine AOps.read trivial rfl (by decide) (Reader.move (.inr rfl) (ok_const rfl) (v := .lit (.bool ((printT u) == (printT u)))) rfl) ?_
                exact AOps.nil rfl
              · skip
                refine AOps.skip ⟨7, true, 52, _, rfl, rfl, rfl, by simp⟩ rfl (by decide) ?_
                refine AOps.skip ⟨7, true, 52, _, rfl, rfl, rfl, by simp⟩ rfl (by decide) ?_
                refine AOps.skip ⟨7, true, 52, _, rfl, rfl, rfl, by simp⟩ rfl (by decide) ?_
                refine AOps.skip ⟨7, true, 52, _, rfl, rfl, rfl, by simp⟩ rfl (by decide) ?_
                refine AOps.read trivial rfl (by decide) (Reader.pick rfl (b := false) rfl (ok_const rfl) (ok_const rfl) (v := .lit (.bool false)) rfl) ?_
                refine AOps.read trivial rfl (by decide) (Reader.move (.inr rfl) (ok_const rfl) (v := .lit (.bool false)) rfl) ?_
                exact AOps.nil rfl
            · skip
              have h6' : ¬ ((errT (printT u)) = 0) := (by have hh := beq_eq_false_iff_ne.1 h6; omega)
              clear h6
              refine AOps.skip ⟨2, true, 47, _, rfl, rfl, rfl, by simp⟩ rfl (by decide) ?_
              refine AOps.skip ⟨2, true, 47, _, rfl, rfl, rfl, by simp⟩ rfl (by decide) ?_
              refine AOps.skip ⟨2, true, 47, _, rfl, rfl, rfl, by simp⟩ rfl (by decide) ?_
              refine AOps.read trivial rfl (by decide) (Reader.pick rfl (b := false) rfl (ok_const rfl) (ok_const rfl) (v := .lit (.bool false)) rfl) ?_
              refine AOps.read trivial rfl (by decide) (Reader.move (.inl rfl) (ok_const rfl) (v := .lit (.bool false)) rfl) ?_
              refine AOps.skip ⟨7, true, 52, _, rfl, rfl, rfl, by simp⟩ rfl (by decide) ?_
              refine AOps.skip ⟨7, true, 52, _, rfl, rfl, rfl, by simp⟩ rfl (by decide) ?_
              refine AOps.skip ⟨7, true, 52, _, rfl, rfl, rfl, by simp⟩ rfl (by decide) ?_
              refine AOps.skip ⟨7, true, 52, _, rfl, rfl, rfl, by simp⟩ rfl (by decide) ?_
              refine AOps.read trivial rfl (by decide) (Reader.pick rfl (b := false) rfl (ok_const rfl) (ok_const rfl) (v := .lit (.bool false)) rfl) ?_
              refine AOps.read trivial rfl (by decide) (Reader.move (.inr rfl) (ok_const rfl) (v := .lit (.bool false)) rfl) ?_
              exact AOps.nil rfl
          refine AWp.ret ?_
          exact ⟨.inl rfl, _, ResOf.one 4 (.lit (.bool (bif ((errT (printT u)) == 0) then (bif ((((readT (printT u)).sig) == u.sig) && ((((readT (printT u)).pct) == u.pct) && ((((readT (printT u)).amt) == u.amt) && ((((readT (printT u)).soft) == u.soft) && ((((readT (printT u)).gr) == u.gr) && true))))) then ((printT u) == (printT u)) else false) else false))) rfl rfl, ⟨congrArg (fun b => AV.lit (.bool b)) (tback_ok (by assumption) ha), rfl⟩⟩

set_option maxRecDepth 20000 in
theorem ThreshShares_any (p c m x : Nat) (hp : p ≤ 255) (hc : c ≤ 4294967295) (hm : m ≤ 4294967295) (hx : x ≤ 4294967295) (M : Nat → Option (List AV)) : ACall Tryd.prog 14 [.lit (.int .u8 (p : Int)), .lit (.int .u32 (c : Int)), .lit (.int .u32 (m : Int)), .lit (.int .u32 (x : Int))] M (fun r M' => r = .lit (.bool true) ∧ M = M') := by
  refine ACall.of Tryd.func14 rfl (n := 54) rfl rfl rfl ?_
  refine AWp.seq (AWp.region ?_)
  refine AOps.read trivial rfl (by decide) (Reader.move (.inr rfl) (ok_const rfl) (v := .lit (.bool false)) rfl) ?_
  refine AOps.nil ?_
  refine AWp.seq ?_
  refine AWp.seq (AWp.region ?_)
  refine AOps.call (args := []) trivial rfl (by decide) rfl rfl Tryd.call32 (args_ok rfl) rfl (by intro j x v hx hv; match j, hx, hv with  | _ + 0, hx, hv => cases hx) (tawake_any M) ?_
  rintro _ _ ⟨rfl, rfl⟩
  refine AOps.read trivial rfl (by decide) (Reader.not (b := true) rfl rfl) ?_
  refine AOps.nil ?_
  refine AWp.cond (b := false) rfl (fun hx => by cases hx) (fun hx => ?_)
  refine AWp.skip ?_
  refine AWp.seq (AWp.region ?_)
  refine AOps.read trivial rfl (by decide) (Reader.move (.inl rfl) (ok_const rfl) (v := .lit (.int .u8 (p : Int))) rfl) ?_
  refine AOps.read trivial rfl (by decide) (Reader.rem rfl rfl rfl (by decide) (c := ((p % 100 : Nat) : Int)) (by first | rfl | exact nat_rem _ _)) ?_
  refine AOps.read trivial rfl (by decide) (Reader.conv rfl Tryd.underlying5 Tryd.underlying3 (by simp) rfl (c := ((p % 100 : Nat) : Int)) (by first | exact IntWalk.i64_in _ (by omega) | exact IntWalk.i64_in _ (by constructor <;> omega) | (simp only [];omega))) ?_
  refine AOps.read trivial rfl (by decide) (Reader.sum rfl rfl rfl (m := 1 + ((p % 100 : Nat) : Int)) (c := ((1 + (p % 100) : Nat) : Int)) rfl (by first | exact IntWalk.i64_in _ (by omega) | exact IntWalk.i64_in _ (by constructor <;> omega) | (simp only [];omega))) ?_
  refine AOps.read trivial rfl (by decide) (Reader.build (xs := [(1, .lit (.int .i64 ((1 + (p % 100) : Nat) : Int)))]) (Es := []) (places := places_65) rfl Tryd.underlying65 (by refine ⟨rfl, fun j p x hp hx => ?_⟩; match j, hp, hx with | 0, hp, hx => cases hp; cases hx; exact ⟨rfl, .inl ⟨rfl, rfl⟩, rfl, rfl⟩ | _ + 1, hp, hx => cases hp) zero_65 rfl places_65_ok (cs := [.lit (.int .i64 0), .lit (.int .i64 ((1 + (p % 100) : Nat) : Int)), .lit (.int .i64 0), .lit (.bool false), .lit (.int .i64 0)]) rfl) ?_
  refine AOps.alloc (Es := []) trivial rfl (by decide) rfl (noL rfl) rfl zero_65 rfl (cells := [.lit (.int .i64 0), .lit (.int .i64 0), .lit (.int .i64 0), .lit (.bool false), .lit (.int .i64 0)]) rfl (all_scalar rfl) (all_flat rfl) ?_
  refine AOps.storeL trivial rfl rfl rfl rfl sizeOf_65 (.inl ⟨rfl, rfl⟩) rfl (v := .agg [.lit (.int .i64 0), .lit (.int .i64 ((1 + (p % 100) : Nat) : Int)), .lit (.int .i64 0), .lit (.bool false), .lit (.int .i64 0)]) rfl (all_flat rfl) rfl (Nat.le_of_ble_eq_true rfl) ?_
  refine AOps.nil ?_
  refine AWp.seq (AWp.region ?_)
  refine AOps.read trivial rfl (by decide) (Reader.build (xs := [(1, .lit (.int .i64 100))]) (Es := []) (places := places_65) rfl Tryd.underlying65 (by refine ⟨rfl, fun j p x hp hx => ?_⟩; match j, hp, hx with | 0, hp, hx => cases hp; cases hx; exact ⟨rfl, .inl ⟨rfl, rfl⟩, rfl, rfl⟩ | _ + 1, hp, hx => cases hp) zero_65 rfl places_65_ok (cs := [.lit (.int .i64 0), .lit (.int .i64 100), .lit (.int .i64 0), .lit (.bool false), .lit (.int .i64 0)]) rfl) ?_
  refine AOps.alloc (Es := []) trivial rfl (by decide) rfl (noL rfl) rfl zero_65 rfl (cells := [.lit (.int .i64 0), .lit (.int .i64 0), .lit (.int .i64 0), .lit (.bool false), .lit (.int .i64 0)]) rfl (all_scalar rfl) (all_flat rfl) ?_
  refine AOps.storeL trivial rfl rfl rfl rfl sizeOf_65 (.inl ⟨rfl, rfl⟩) rfl (v := .agg [.lit (.int .i64 0), .lit (.int .i64 100), .lit (.int .i64 0), .lit (.bool false), .lit (.int .i64 0)]) rfl (all_flat rfl) rfl (Nat.le_of_ble_eq_true rfl) ?_
  refine AOps.nil ?_
  refine AWp.seq (AWp.region ?_)
  refine AOps.read trivial rfl (by decide) (Reader.move (.inl rfl) (ok_const rfl) (v := .lit (.int .u32 (c : Int))) rfl) ?_
  refine AOps.read trivial rfl (by decide) (Reader.conv rfl Tryd.underlying27 Tryd.underlying3 (by simp) rfl (c := (c : Int)) (by first | exact IntWalk.i64_in _ (by omega) | exact IntWalk.i64_in _ (by constructor <;> omega) | (simp only [];omega))) ?_
  refine AOps.read trivial rfl (by decide) (Reader.move (.inr rfl) (ok_const rfl) (v := .lit (.int .i64 (c : Int))) rfl) ?_
  refine AOps.nil ?_
  refine AWp.seq (AWp.region ?_)
  refine AOps.read trivial rfl (by decide) (Reader.move (.inl rfl) (ok_const rfl) (v := .lit (.int .u32 (x : Int))) rfl) ?_
  refine AOps.read trivial rfl (by decide) (Reader.conv rfl Tryd.underlying27 Tryd.underlying3 (by simp) rfl (c := (x : Int)) (by first | exact IntWalk.i64_in _ (by omega) | exact IntWalk.i64_in _ (by constructor <;> omega) | (simp only [];omega))) ?_
  refine AOps.read trivial rfl (by decide) (Reader.move (.inr rfl) (ok_const rfl) (v := .lit (.int .i64 (x : Int))) rfl) ?_
  refine AOps.nil ?_
  refine AWp.seq ?_
  refine AWp.regionJ [45, 0, 1, 2, 3, 8, 14, 9, 10, 11, 12] [9, 10] (fun z => ⟨(45, .lit (.bool z)) :: [(0, .lit (.int .u8 (p : Int))), (1, .lit (.int .u32 (c : Int))), (2, .lit (.int .u32 (m : Int))), (3, .lit (.int .u32 (x : Int))), (8, .lit (.bool false)), (14, .lit (.bool false)), (9, .lptr 9 0), (10, .lptr 10 0), (11, .lit (.int .i64 (c : Int))), (12, .lit (.int .i64 (x : Int)))], [(9, [.lit (.int .i64 0), .lit (.int .i64 ((1 + (p % 100) : Nat) : Int)), .lit (.int .i64 0), .lit (.bool false), .lit (.int .i64 0)]), (10, [.lit (.int .i64 0), .lit (.int .i64 100), .lit (.int .i64 0), .lit (.bool false), .lit (.int .i64 0)])], M⟩) (z := bif (metB ⟨0, ((1 + (p % 100) : Nat) : Int), 0, false, 0⟩ (c : Int) (x : Int)) then (bif (!(metB ⟨0, ((1 + (p % 100) : Nat) : Int), 0, false, 0⟩ ((c + m : Nat) : Int) (x : Int))) then true else (!(metB ⟨0, 100, 0, false, 0⟩ (c : Int) (x : Int)))) else false) ?_ ?_
  · skip
    refine AOps.read trivial rfl (by decide) (Reader.loadL rfl Tryd.underlying65 sizeOf_65 rfl rfl (v := .agg [.lit (.int .i64 0), .lit (.int .i64 ((1 + (p % 100) : Nat) : Int)), .lit (.int .i64 0), .lit (.bool false), .lit (.int .i64 0)]) rfl rfl) ?_
    refine AOps.read trivial rfl (by decide) (Reader.move (.inl rfl) (ok_const rfl) (v := .lit (.int .i64 (c : Int))) rfl) ?_
    refine AOps.read trivial rfl (by decide) (Reader.move (.inl rfl) (ok_const rfl) (v := .lit (.int .i64 (x : Int))) rfl) ?_
    refine AOps.call (args := [.agg [.lit (.int .i64 0), .lit (.int .i64 ((1 + (p % 100) : Nat) : Int)), .lit (.int .i64 0), .lit (.bool false), .lit (.int .i64 0)], .lit (.int .i64 (c : Int)), .lit (.int .i64 (x : Int))]) trivial rfl (by decide) rfl rfl Tryd.call40 (args_ok rfl) rfl (by intro j x v hx hv; match j, hx, hv with | 0, hx, hv => cases hx; cases hv; exact .inl ⟨rfl, rfl⟩ | 1, hx, hv => cases hx; cases hv; exact .inl ⟨rfl, rfl⟩ | 2, hx, hv => cases hx; cases hv; exact .inl ⟨rfl, rfl⟩ | _ + 3, hx, hv => cases hx) (Met_any ⟨0, ((1 + (p % 100) : Nat) : Int), 0, false, 0⟩ (c : Int) (x : Int) (by omega) (by omega) (by first | omega | (show (((1 + (p % 100) : Nat) : Int) : Int) ≤ 9223372036854775807; omega)) M) ?_
    rintro _ _ ⟨rfl, rfl⟩
    refine AOps.read trivial rfl (by decide) (Reader.move (.inl rfl) (ok_const rfl) (v := .lit (.bool (metB ⟨0, ((1 + (p % 100) : Nat) : Int), 0, false, 0⟩ (c : Int) (x : Int)))) rfl) ?_
    refine AOps.splitJ (t := 29) (b := metB ⟨0, ((1 + (p % 100) : Nat) : Int), 0, false, 0⟩ (c : Int) (x : Int)) (x := (bif (!(metB ⟨0, ((1 + (p % 100) : Nat) : Int), 0, false, 0⟩ ((c + m : Nat) : Int) (x : Int))) then true else (!(metB ⟨0, 100, 0, false, 0⟩ (c : Int) (x : Int))))) (y := false) rfl (fun h1 => ?_) (fun h1 => ?_)
    · skip
      refine AOps.read ⟨29, rfl, rfl⟩ rfl (by decide) (Reader.loadL rfl Tryd.underlying65 sizeOf_65 rfl rfl (v := .agg [.lit (.int .i64 0), .lit (.int .i64 ((1 + (p % 100) : Nat) : Int)), .lit (.int .i64 0), .lit (.bool false), .lit (.int .i64 0)]) rfl rfl) ?_
      refine AOps.read ⟨29, rfl, rfl⟩ rfl (by decide) (Reader.move (.inl rfl) (ok_const rfl) (v := .lit (.int .i64 (c : Int))) rfl) ?_
      refine AOps.read ⟨29, rfl, rfl⟩ rfl (by decide) (Reader.move (.inl rfl) (ok_const rfl) (v := .lit (.int .u32 (m : Int))) rfl) ?_
      refine AOps.read ⟨29, rfl, rfl⟩ rfl (by decide) (Reader.conv rfl Tryd.underlying27 Tryd.underlying3 (by simp) rfl (c := (m : Int)) (by first | exact IntWalk.i64_in _ (by omega) | exact IntWalk.i64_in _ (by constructor <;> omega) | (simp only [];omega))) ?_
      refine AOps.read ⟨29, rfl, rfl⟩ rfl (by decide) (Reader.sum rfl rfl rfl (m := (c : Int) + (m : Int)) (c := ((c + m : Nat) : Int)) rfl (by first | exact IntWalk.i64_in _ (by omega) | exact IntWalk.i64_in _ (by constructor <;> omega) | (simp only [];omega))) ?_
      refine AOps.read ⟨29, rfl, rfl⟩ rfl (by decide) (Reader.move (.inl rfl) (ok_const rfl) (v := .lit (.int .i64 (x : Int))) rfl) ?_
      refine AOps.call (args := [.agg [.lit (.int .i64 0), .lit (.int .i64 ((1 + (p % 100) : Nat) : Int)), .lit (.int .i64 0), .lit (.bool false), .lit (.int .i64 0)], .lit (.int .i64 ((c + m : Nat) : Int)), .lit (.int .i64 (x : Int))]) ⟨29, rfl, rfl⟩ rfl (by decide) rfl rfl Tryd.call40 (args_ok rfl) rfl (by intro j x v hx hv; match j, hx, hv with | 0, hx, hv => cases hx; cases hv; exact .inl ⟨rfl, rfl⟩ | 1, hx, hv => cases hx; cases hv; exact .inl ⟨rfl, rfl⟩ | 2, hx, hv => cases hx; cases hv; exact .inl ⟨rfl, rfl⟩ | _ + 3, hx, hv => cases hx) (Met_any ⟨0, ((1 + (p % 100) : Nat) : Int), 0, false, 0⟩ ((c + m : Nat) : Int) (x : Int) (by omega) (by omega) (by first | omega | (show (((1 + (p % 100) : Nat) : Int) : Int) ≤ 9223372036854775807; omega)) M) ?_
      rintro _ _ ⟨rfl, rfl⟩
      refine AOps.read ⟨29, rfl, rfl⟩ rfl (by decide) (Reader.not (b := metB ⟨0, ((1 + (p % 100) : Nat) : Int), 0, false, 0⟩ ((c + m : Nat) : Int) (x : Int)) rfl rfl) ?_
      refine AOps.read ⟨29, rfl, rfl⟩ rfl (by decide) (Reader.move (.inl rfl) (ok_const rfl) (v := .lit (.bool (!(metB ⟨0, ((1 + (p % 100) : Nat) : Int), 0, false, 0⟩ ((c + m : Nat) : Int) (x : Int))))) rfl) ?_
      refine AOps.splitJ (t := 38) (b := !(metB ⟨0, ((1 + (p % 100) : Nat) : Int), 0, false, 0⟩ ((c + m : Nat) : Int) (x : Int))) (x := true) (y := (!(metB ⟨0, 100, 0, false, 0⟩ (c : Int) (x : Int)))) rfl (fun h2 => ?_) (fun h2 => ?_)
      · skip
        refine AOps.skip ⟨13, false, 38, _, rfl, rfl, rfl, by simp⟩ rfl (by decide) ?_
        refine AOps.skip ⟨13, false, 38, _, rfl, rfl, rfl, by simp⟩ rfl (by decide) ?_
        refine AOps.skip ⟨13, false, 38, _, rfl, rfl, rfl, by simp⟩ rfl (by decide) ?_
        refine AOps.skip ⟨13, false, 38, _, rfl, rfl, rfl, by simp⟩ rfl (by decide) ?_
        refine AOps.skip ⟨13, false, 38, _, rfl, rfl, rfl, by simp⟩ rfl (by decide) ?_
        refine AOps.read ⟨29, rfl, rfl⟩ rfl (by decide) (Reader.pick rfl (b := true) rfl (ok_const rfl) (ok_const rfl) (v := .lit (.bool true)) rfl) ?_
        refine AOps.read trivial rfl (by decide) (Reader.pick rfl (b := true) rfl (ok_const rfl) (ok_const rfl) (v := .lit (.bool true)) rfl) ?_
        exact AOps.nil rfl
      · skip
        refine AOps.read ⟨38, rfl, rfl⟩ rfl (by decide) (Reader.loadL rfl Tryd.underlying65 sizeOf_65 rfl rfl (v := .agg [.lit (.int .i64 0), .lit (.int .i64 100), .lit (.int .i64 0), .lit (.bool false), .lit (.int .i64 0)]) rfl rfl) ?_
        refine AOps.read ⟨38, rfl, rfl⟩ rfl (by decide) (Reader.move (.inl rfl) (ok_const rfl) (v := .lit (.int .i64 (c : Int))) rfl) ?_
        refine AOps.read ⟨38, rfl, rfl⟩ rfl (by decide) (Reader.move (.inl rfl) (ok_const rfl) (v := .lit (.int .i64 (x : Int))) rfl) ?_
        refine AOps.call (args := [.agg [.lit (.int .i64 0), .lit (.int .i64 100), .lit (.int .i64 0), .lit (.bool false), .lit (.int .i64 0)], .lit (.int .i64 (c : Int)), .lit (.int .i64 (x : Int))]) ⟨38, rfl, rfl⟩ rfl (by decide) rfl rfl Tryd.call40 (args_ok rfl) rfl (by intro j x v hx hv; match j, hx, hv with | 0, hx, hv => cases hx; cases hv; exact .inl ⟨rfl, rfl⟩ | 1, hx, hv => cases hx; cases hv; exact .inl ⟨rfl, rfl⟩ | 2, hx, hv => cases hx; cases hv; exact .inl ⟨rfl, rfl⟩ | _ + 3, hx, hv => cases hx) (Met_any ⟨0, 100, 0, false, 0⟩ (c : Int) (x : Int) (by omega) (by omega) (by first | omega | (show (100 : Int) ≤ 9223372036854775807; omega)) M) ?_
        rintro _ _ ⟨rfl, rfl⟩
        refine AOps.read ⟨38, rfl, rfl⟩ rfl (by decide) (Reader.not (b := metB ⟨0, 100, 0, false, 0⟩ (c : Int) (x : Int)) rfl rfl) ?_
        refine AOps.read ⟨29, rfl, rfl⟩ rfl (by decide) (Reader.pick rfl (b := false) rfl (ok_const rfl) (ok_const rfl) (v := .lit (.bool (!(metB ⟨0, 100, 0, false, 0⟩ (c : Int) (x : Int))))) rfl) ?_
        refine AOps.read trivial rfl (by decide) (Reader.pick rfl (b := true) rfl (ok_const rfl) (ok_const rfl) (v := .lit (.bool (!(metB ⟨0, 100, 0, false, 0⟩ (c : Int) (x : Int))))) rfl) ?_
        exact AOps.nil rfl
    · skip
      refine AOps.skip ⟨4, true, 29, _, rfl, rfl, rfl, by simp⟩ rfl (by decide) ?_
      refine AOps.skip ⟨4, true, 29, _, rfl, rfl, rfl, by simp⟩ rfl (by decide) ?_
      refine AOps.skip ⟨4, true, 29, _, rfl, rfl, rfl, by simp⟩ rfl (by decide) ?_
      refine AOps.skip ⟨4, true, 29, _, rfl, rfl, rfl, by simp⟩ rfl (by decide) ?_
      refine AOps.skip ⟨4, true, 29, _, rfl, rfl, rfl, by simp⟩ rfl (by decide) ?_
      refine AOps.skip ⟨4, true, 29, _, rfl, rfl, rfl, by simp⟩ rfl (by decide) ?_
      refine AOps.skip ⟨4, true, 29, _, rfl, rfl, rfl, by simp⟩ rfl (by decide) ?_
      refine AOps.skip ⟨4, true, 29, _, rfl, rfl, rfl, by simp⟩ rfl (by decide) ?_
      refine AOps.skip ⟨4, true, 29, _, rfl, rfl, rfl, by simp⟩ rfl (by decide) ?_
      refine AOps.skip ⟨13, false, 38, _, rfl, rfl, rfl, by simp [undef]⟩ rfl (by decide) ?_
      refine AOps.skip ⟨13, false, 38, _, rfl, rfl, rfl, by simp [undef]⟩ rfl (by decide) ?_
      refine AOps.skip ⟨13, false, 38, _, rfl, rfl, rfl, by simp [undef]⟩ rfl (by decide) ?_
      refine AOps.skip ⟨13, false, 38, _, rfl, rfl, rfl, by simp [undef]⟩ rfl (by decide) ?_
      refine AOps.skip ⟨13, false, 38, _, rfl, rfl, rfl, by simp [undef]⟩ rfl (by decide) ?_
      refine AOps.skip ⟨4, true, 29, _, rfl, rfl, rfl, by simp⟩ rfl (by decide) ?_
      refine AOps.read trivial rfl (by decide) (Reader.pick rfl (b := false) rfl (ok_const rfl) (ok_const rfl) (v := .lit (.bool false)) rfl) ?_
      exact AOps.nil rfl
  refine AWp.cond (b := bif (metB ⟨0, ((1 + (p % 100) : Nat) : Int), 0, false, 0⟩ (c : Int) (x : Int)) then (bif (!(metB ⟨0, ((1 + (p % 100) : Nat) : Int), 0, false, 0⟩ ((c + m : Nat) : Int) (x : Int))) then true else (!(metB ⟨0, 100, 0, false, 0⟩ (c : Int) (x : Int)))) else false) rfl (fun h3 => ?_) (fun h3 => ?_)
  · skip
    have h3' : False := (tsh_f h3)
    clear h3
    refine AWp.seq (AWp.region ?_)
    refine AOps.read trivial rfl (by decide) (Reader.move (.inr rfl) (ok_const rfl) (v := .lit (.bool false)) rfl) ?_
    refine AOps.nil ?_
    refine AWp.ret ?_
    exact ⟨.inl rfl, _, ResOf.one 8 (.lit (.bool false)) rfl rfl, ⟨False.elim (by assumption), rfl⟩⟩
  · skip
    have h3' : True := trivial
    clear h3
    refine AWp.skip ?_
    refine AWp.seq (AWp.region ?_)
    refine AOps.read trivial rfl (by decide) (Reader.loadL rfl Tryd.underlying65 sizeOf_65 rfl rfl (v := .agg [.lit (.int .i64 0), .lit (.int .i64 100), .lit (.int .i64 0), .lit (.bool false), .lit (.int .i64 0)]) rfl rfl) ?_
    refine AOps.read trivial rfl (by decide) (Reader.move (.inl rfl) (ok_const rfl) (v := .lit (.int .i64 (c : Int))) rfl) ?_
    refine AOps.read trivial rfl (by decide) (Reader.move (.inl rfl) (ok_const rfl) (v := .lit (.int .i64 (x : Int))) rfl) ?_
    refine AOps.call (args := [.agg [.lit (.int .i64 0), .lit (.int .i64 100), .lit (.int .i64 0), .lit (.bool false), .lit (.int .i64 0)], .lit (.int .i64 (c : Int)), .lit (.int .i64 (x : Int))]) trivial rfl (by decide) rfl rfl Tryd.call40 (args_ok rfl) rfl (by intro j x v hx hv; match j, hx, hv with | 0, hx, hv => cases hx; cases hv; exact .inl ⟨rfl, rfl⟩ | 1, hx, hv => cases hx; cases hv; exact .inl ⟨rfl, rfl⟩ | 2, hx, hv => cases hx; cases hv; exact .inl ⟨rfl, rfl⟩ | _ + 3, hx, hv => cases hx) (Met_any ⟨0, 100, 0, false, 0⟩ (c : Int) (x : Int) (by omega) (by omega) (by first | omega | (show (100 : Int) ≤ 9223372036854775807; omega)) M) ?_
    rintro _ _ ⟨rfl, rfl⟩
    refine AOps.read trivial rfl (by decide) (Reader.move (.inl rfl) (ok_const rfl) (v := .lit (.int .i64 (x : Int))) rfl) ?_
    refine AOps.read trivial rfl (by decide) (Reader.move (.inl rfl) (ok_const rfl) (v := .lit (.int .i64 (c : Int))) rfl) ?_
    refine AOps.read trivial rfl (by decide) (Reader.int rfl rfl rfl (r := .bool (decide ((x : Int) < (c : Int)))) rfl) ?_
    refine AOps.read trivial rfl (by decide) (Reader.bools (r := (metB ⟨0, 100, 0, false, 0⟩ (c : Int) (x : Int)) == (decide ((x : Int) < (c : Int)))) rfl Tryd.underlying4 rfl rfl (.inl ⟨rfl, rfl⟩)) ?_
    refine AOps.read trivial rfl (by decide) (Reader.move (.inr rfl) (ok_const rfl) (v := .lit (.bool ((metB ⟨0, 100, 0, false, 0⟩ (c : Int) (x : Int)) == (decide ((x : Int) < (c : Int)))))) rfl) ?_
    refine AOps.nil ?_
    refine AWp.ret ?_
    exact ⟨.inl rfl, _, ResOf.one 8 (.lit (.bool ((metB ⟨0, 100, 0, false, 0⟩ (c : Int) (x : Int)) == (decide ((x : Int) < (c : Int)))))) rfl rfl, ⟨congrArg (fun b => AV.lit (.bool b)) (tsh_ok), rfl⟩⟩

set_option maxRecDepth 20000 in
theorem ThreshTexts_any (k p g : Nat) (hk : k ≤ 255) (hp : p ≤ 65535) (hg : g ≤ 65535) (M : Nat → Option (List AV)) : ACall Tryd.prog 15 [.lit (.int .u8 (k : Int)), .lit (.int .u16 (p : Int)), .lit (.int .u16 (g : Int))] M (fun r M' => r = .lit (.bool true) ∧ M = M') := by
  have hw := word_len (((k % 3 : Nat)) : Int)
  have hd1 := digs_len20 (p % 130) (by omega)
  have hd2 := digs_len20 (g % 1100) (by omega)
  refine ACall.of Tryd.func15 rfl (n := 128) rfl rfl rfl ?_
  refine AWp.seq (AWp.region ?_)
  refine AOps.read trivial rfl (by decide) (Reader.move (.inr rfl) (ok_const rfl) (v := .lit (.bool false)) rfl) ?_
  refine AOps.nil ?_
  refine AWp.seq ?_
  refine AWp.seq (AWp.region ?_)
  refine AOps.call (args := []) trivial rfl (by decide) rfl rfl Tryd.call32 (args_ok rfl) rfl (by intro j x v hx hv; match j, hx, hv with  | _ + 0, hx, hv => cases hx) (tawake_any M) ?_
  rintro _ _ ⟨rfl, rfl⟩
  refine AOps.read trivial rfl (by decide) (Reader.not (b := true) rfl rfl) ?_
  refine AOps.nil ?_
  refine AWp.cond (b := false) rfl (fun hx => by cases hx) (fun hx => ?_)
  refine AWp.skip ?_
  refine AWp.seq (AWp.region ?_)
  refine AOps.read trivial rfl (by decide) (Reader.move (.inl rfl) (ok_const rfl) (v := .lit (.int .u8 (k : Int))) rfl) ?_
  refine AOps.read trivial rfl (by decide) (Reader.rem rfl rfl rfl (by decide) (c := ((k % 3 : Nat) : Int)) (by first | rfl | exact nat_rem _ _)) ?_
  refine AOps.read trivial rfl (by decide) (Reader.conv rfl Tryd.underlying5 Tryd.underlying3 (by simp) rfl (c := ((k % 3 : Nat) : Int)) (by first | exact IntWalk.i64_in _ (by omega) | exact IntWalk.i64_in _ (by constructor <;> omega) | (simp only [];omega))) ?_
  refine AOps.call (args := [.lit (.int .i64 ((k % 3 : Nat) : Int))]) trivial rfl (by decide) rfl rfl Tryd.call41 (args_ok rfl) rfl (by intro j x v hx hv; match j, hx, hv with | 0, hx, hv => cases hx; cases hv; exact .inl ⟨rfl, rfl⟩ | _ + 1, hx, hv => cases hx) (rWord_any ((k % 3 : Nat) : Int) M) ?_
  rintro _ _ ⟨rfl, rfl⟩
  refine AOps.read trivial rfl (by decide) (Reader.move (.inr rfl) (ok_const rfl) (v := .str (wordOf ((k % 3 : Nat) : Int))) rfl) ?_
  refine AOps.nil ?_
  refine AWp.seq (AWp.region ?_)
  refine AOps.read trivial rfl (by decide) (Reader.move (.inl rfl) (ok_const rfl) (v := .lit (.int .u16 (p : Int))) rfl) ?_
  refine AOps.read trivial rfl (by decide) (Reader.rem rfl rfl rfl (by decide) (c := ((p % 130 : Nat) : Int)) (by first | rfl | exact nat_rem _ _)) ?_
  refine AOps.read trivial rfl (by decide) (Reader.conv rfl Tryd.underlying77 Tryd.underlying3 (by simp) rfl (c := ((p % 130 : Nat) : Int)) (by first | exact IntWalk.i64_in _ (by omega) | exact IntWalk.i64_in _ (by constructor <;> omega) | (simp only [];omega))) ?_
  refine AOps.read trivial rfl (by decide) (Reader.move (.inr rfl) (ok_const rfl) (v := .lit (.int .i64 ((p % 130 : Nat) : Int))) rfl) ?_
  refine AOps.nil ?_
  refine AWp.seq (AWp.region ?_)
  refine AOps.read trivial rfl (by decide) (Reader.move (.inl rfl) (ok_const rfl) (v := .lit (.int .u16 (g : Int))) rfl) ?_
  refine AOps.read trivial rfl (by decide) (Reader.rem rfl rfl rfl (by decide) (c := ((g % 1100 : Nat) : Int)) (by first | rfl | exact nat_rem _ _)) ?_
  refine AOps.read trivial rfl (by decide) (Reader.conv rfl Tryd.underlying77 Tryd.underlying3 (by simp) rfl (c := ((g % 1100 : Nat) : Int)) (by first | exact IntWalk.i64_in _ (by omega) | exact IntWalk.i64_in _ (by constructor <;> omega) | (simp only [];omega))) ?_
  refine AOps.read trivial rfl (by decide) (Reader.move (.inr rfl) (ok_const rfl) (v := .lit (.int .i64 ((g % 1100 : Nat) : Int))) rfl) ?_
  refine AOps.nil ?_
  refine AWp.seq (AWp.region ?_)
  refine AOps.read trivial rfl (by decide) (Reader.move (.inl rfl) (ok_const rfl) (v := .str (wordOf ((k % 3 : Nat) : Int))) rfl) ?_
  refine AOps.read trivial rfl (by decide) (Reader.cat rfl rfl rfl (by first | omega | (simp only [List.length_append, List.length_cons, List.length_nil]; omega) | (simp; omega)) (c := (wordOf ((k % 3 : Nat) : Int)) ++ [60]) rfl) ?_
  refine AOps.read trivial rfl (by decide) (Reader.move (.inl rfl) (ok_const rfl) (v := .lit (.int .i64 ((p % 130 : Nat) : Int))) rfl) ?_
  refine AOps.call (args := [.lit (.int .i64 ((p % 130 : Nat) : Int))]) trivial rfl (by decide) rfl rfl Tryd.call19 (args_ok rfl) rfl (by intro j x v hx hv; match j, hx, hv with | 0, hx, hv => cases hx; cases hv; exact .inl ⟨rfl, rfl⟩ | _ + 1, hx, hv => cases hx) (Digits_any (p % 130) (by omega) M) ?_
  rintro _ _ ⟨rfl, rfl⟩
  refine AOps.read trivial rfl (by decide) (Reader.cat rfl rfl rfl (by first | omega | (simp only [List.length_append, List.length_cons, List.length_nil]; omega) | (simp; omega)) (c := ((wordOf ((k % 3 : Nat) : Int)) ++ [60]) ++ (digs (p % 130))) rfl) ?_
  refine AOps.read trivial rfl (by decide) (Reader.cat rfl rfl rfl (by first | omega | (simp only [List.length_append, List.length_cons, List.length_nil]; omega) | (simp; omega)) (c := (((wordOf ((k % 3 : Nat) : Int)) ++ [60]) ++ (digs (p % 130))) ++ [37]) rfl) ?_
  refine AOps.read trivial rfl (by decide) (Reader.move (.inr rfl) (ok_const rfl) (v := .str ((((wordOf ((k % 3 : Nat) : Int)) ++ [60]) ++ (digs (p % 130))) ++ [37])) rfl) ?_
  refine AOps.nil ?_
  refine AWp.seq (AWp.region ?_)
  refine AOps.read trivial rfl (by decide) (Reader.move (.inl rfl) (ok_const rfl) (v := .str ((((wordOf ((k % 3 : Nat) : Int)) ++ [60]) ++ (digs (p % 130))) ++ [37])) rfl) ?_
  refine AOps.call (args := [.str ((((wordOf ((k % 3 : Nat) : Int)) ++ [60]) ++ (digs (p % 130))) ++ [37])]) trivial rfl (by decide) rfl rfl Tryd.call33 (args_ok rfl) rfl (by intro j x v hx hv; match j, hx, hv with | 0, hx, hv => cases hx; cases hv; exact .inl ⟨rfl, rfl⟩ | _ + 1, hx, hv => cases hx) (TRead_named ((((wordOf ((k % 3 : Nat) : Int)) ++ [60]) ++ (digs (p % 130))) ++ [37]) (by simp only [List.length_append, List.length_cons, List.length_nil]; omega) M) ?_
  rintro _ _ ⟨⟨u1, e1, hu1, he1, rfl⟩, rfl⟩
  refine AOps.read trivial rfl (by decide) (Reader.move (.inl rfl) (ok_const rfl) (v := .tuple [encT u1, .lit (.int .i64 e1)]) rfl) ?_
  refine AOps.read trivial rfl (by decide) (Reader.extract (v := encT u1) rfl rfl rfl rfl) ?_
  refine AOps.read trivial rfl (by decide) (Reader.extract (v := .lit (.int .i64 e1)) rfl rfl rfl rfl) ?_
  refine AOps.alloc (Es := []) trivial rfl (by decide) rfl (noL rfl) rfl zero_65 rfl (cells := [.lit (.int .i64 0), .lit (.int .i64 0), .lit (.int .i64 0), .lit (.bool false), .lit (.int .i64 0)]) rfl (all_scalar rfl) (all_flat rfl) ?_
  refine AOps.storeL trivial rfl rfl rfl rfl sizeOf_65 (.inl ⟨rfl, rfl⟩) rfl (v := encT u1) rfl (all_flat rfl) rfl (Nat.le_of_ble_eq_true rfl) ?_
  refine AOps.read trivial rfl (by decide) (Reader.move (.inr rfl) (ok_const rfl) (v := .lit (.int .i64 e1)) rfl) ?_
  refine AOps.nil ?_
  refine AWp.seq (AWp.region ?_)
  refine AOps.read trivial rfl (by decide) (Reader.move (.inl rfl) (ok_const rfl) (v := .str ((((wordOf ((k % 3 : Nat) : Int)) ++ [60]) ++ (digs (p % 130))) ++ [37])) rfl) ?_
  refine AOps.read trivial rfl (by decide) (Reader.cat rfl rfl rfl (by first | omega | (simp only [List.length_append, List.length_cons, List.length_nil]; omega) | (simp; omega)) (c := ((((wordOf ((k % 3 : Nat) : Int)) ++ [60]) ++ (digs (p % 130))) ++ [37]) ++ [58]) rfl) ?_
  refine AOps.read trivial rfl (by decide) (Reader.move (.inl rfl) (ok_const rfl) (v := .lit (.int .i64 ((g % 1100 : Nat) : Int))) rfl) ?_
  refine AOps.call (args := [.lit (.int .i64 ((g % 1100 : Nat) : Int))]) trivial rfl (by decide) rfl rfl Tryd.call19 (args_ok rfl) rfl (by intro j x v hx hv; match j, hx, hv with | 0, hx, hv => cases hx; cases hv; exact .inl ⟨rfl, rfl⟩ | _ + 1, hx, hv => cases hx) (Digits_any (g % 1100) (by omega) M) ?_
  rintro _ _ ⟨rfl, rfl⟩
  refine AOps.read trivial rfl (by decide) (Reader.cat rfl rfl rfl (by first | omega | (simp only [List.length_append, List.length_cons, List.length_nil]; omega) | (simp; omega)) (c := (((((wordOf ((k % 3 : Nat) : Int)) ++ [60]) ++ (digs (p % 130))) ++ [37]) ++ [58]) ++ (digs (g % 1100))) rfl) ?_
  refine AOps.call (args := [.str ((((((wordOf ((k % 3 : Nat) : Int)) ++ [60]) ++ (digs (p % 130))) ++ [37]) ++ [58]) ++ (digs (g % 1100)))]) trivial rfl (by decide) rfl rfl Tryd.call33 (args_ok rfl) rfl (by intro j x v hx hv; match j, hx, hv with | 0, hx, hv => cases hx; cases hv; exact .inl ⟨rfl, rfl⟩ | _ + 1, hx, hv => cases hx) (TRead_named ((((((wordOf ((k % 3 : Nat) : Int)) ++ [60]) ++ (digs (p % 130))) ++ [37]) ++ [58]) ++ (digs (g % 1100))) (by simp only [List.length_append, List.length_cons, List.length_nil]; omega) M) ?_
  rintro _ _ ⟨⟨u2, e2, hu2, he2, rfl⟩, rfl⟩
  refine AOps.read trivial rfl (by decide) (Reader.move (.inl rfl) (ok_const rfl) (v := .tuple [encT u2, .lit (.int .i64 e2)]) rfl) ?_
  refine AOps.read trivial rfl (by decide) (Reader.extract (v := encT u2) rfl rfl rfl rfl) ?_
  refine AOps.read trivial rfl (by decide) (Reader.extract (v := .lit (.int .i64 e2)) rfl rfl rfl rfl) ?_
  refine AOps.alloc (Es := []) trivial rfl (by decide) rfl (noL rfl) rfl zero_65 rfl (cells := [.lit (.int .i64 0), .lit (.int .i64 0), .lit (.int .i64 0), .lit (.bool false), .lit (.int .i64 0)]) rfl (all_scalar rfl) (all_flat rfl) ?_
  refine AOps.storeL trivial rfl rfl rfl rfl sizeOf_65 (.inl ⟨rfl, rfl⟩) rfl (v := encT u2) rfl (all_flat rfl) rfl (Nat.le_of_ble_eq_true rfl) ?_
  refine AOps.read trivial rfl (by decide) (Reader.move (.inr rfl) (ok_const rfl) (v := .lit (.int .i64 e2)) rfl) ?_
  refine AOps.nil ?_
  refine AWp.seq (AWp.region ?_)
  refine AOps.read trivial rfl (by decide) (Reader.move (.inl rfl) (ok_const rfl) (v := .str (wordOf ((k % 3 : Nat) : Int))) rfl) ?_
  refine AOps.read trivial rfl (by decide) (Reader.cat rfl rfl rfl (by first | omega | (simp only [List.length_append, List.length_cons, List.length_nil]; omega) | (simp; omega)) (c := (wordOf ((k % 3 : Nat) : Int)) ++ [60, 48]) rfl) ?_
  refine AOps.read trivial rfl (by decide) (Reader.move (.inl rfl) (ok_const rfl) (v := .lit (.int .i64 ((p % 130 : Nat) : Int))) rfl) ?_
  refine AOps.call (args := [.lit (.int .i64 ((p % 130 : Nat) : Int))]) trivial rfl (by decide) rfl rfl Tryd.call19 (args_ok rfl) rfl (by intro j x v hx hv; match j, hx, hv with | 0, hx, hv => cases hx; cases hv; exact .inl ⟨rfl, rfl⟩ | _ + 1, hx, hv => cases hx) (Digits_any (p % 130) (by omega) M) ?_
  rintro _ _ ⟨rfl, rfl⟩
  refine AOps.read trivial rfl (by decide) (Reader.cat rfl rfl rfl (by first | omega | (simp only [List.length_append, List.length_cons, List.length_nil]; omega) | (simp; omega)) (c := ((wordOf ((k % 3 : Nat) : Int)) ++ [60, 48]) ++ (digs (p % 130))) rfl) ?_
  refine AOps.read trivial rfl (by decide) (Reader.cat rfl rfl rfl (by first | omega | (simp only [List.length_append, List.length_cons, List.length_nil]; omega) | (simp; omega)) (c := (((wordOf ((k % 3 : Nat) : Int)) ++ [60, 48]) ++ (digs (p % 130))) ++ [37]) rfl) ?_
  refine AOps.call (args := [.str ((((wordOf ((k % 3 : Nat) : Int)) ++ [60, 48]) ++ (digs (p % 130))) ++ [37])]) trivial rfl (by decide) rfl rfl Tryd.call33 (args_ok rfl) rfl (by intro j x v hx hv; match j, hx, hv with | 0, hx, hv => cases hx; cases hv; exact .inl ⟨rfl, rfl⟩ | _ + 1, hx, hv => cases hx) (TRead_named ((((wordOf ((k % 3 : Nat) : Int)) ++ [60, 48]) ++ (digs (p % 130))) ++ [37]) (by simp only [List.length_append, List.length_cons, List.length_nil]; omega) M) ?_
  rintro _ _ ⟨⟨u3, e3, hu3, he3, rfl⟩, rfl⟩
  refine AOps.read trivial rfl (by decide) (Reader.move (.inl rfl) (ok_const rfl) (v := .tuple [encT u3, .lit (.int .i64 e3)]) rfl) ?_
  refine AOps.read trivial rfl (by decide) (Reader.extract (v := encT u3) rfl rfl rfl rfl) ?_
  refine AOps.read trivial rfl (by decide) (Reader.extract (v := .lit (.int .i64 e3)) rfl rfl rfl rfl) ?_
  refine AOps.alloc (Es := []) trivial rfl (by decide) rfl (noL rfl) rfl zero_65 rfl (cells := [.lit (.int .i64 0), .lit (.int .i64 0), .lit (.int .i64 0), .lit (.bool false), .lit (.int .i64 0)]) rfl (all_scalar rfl) (all_flat rfl) ?_
  refine AOps.storeL trivial rfl rfl rfl rfl sizeOf_65 (.inl ⟨rfl, rfl⟩) rfl (v := encT u3) rfl (all_flat rfl) rfl (Nat.le_of_ble_eq_true rfl) ?_
  refine AOps.read trivial rfl (by decide) (Reader.move (.inr rfl) (ok_const rfl) (v := .lit (.int .i64 e3)) rfl) ?_
  refine AOps.nil ?_
  refine AWp.seq (AWp.region ?_)
  refine AOps.read trivial rfl (by decide) (Reader.move (.inl rfl) (ok_const rfl) (v := .str ((((wordOf ((k % 3 : Nat) : Int)) ++ [60]) ++ (digs (p % 130))) ++ [37])) rfl) ?_
  refine AOps.read trivial rfl (by decide) (Reader.cat rfl rfl rfl (by first | omega | (simp only [List.length_append, List.length_cons, List.length_nil]; omega) | (simp; omega)) (c := ((((wordOf ((k % 3 : Nat) : Int)) ++ [60]) ++ (digs (p % 130))) ++ [37]) ++ [58, 48]) rfl) ?_
  refine AOps.read trivial rfl (by decide) (Reader.move (.inl rfl) (ok_const rfl) (v := .lit (.int .i64 ((g % 1100 : Nat) : Int))) rfl) ?_
  refine AOps.call (args := [.lit (.int .i64 ((g % 1100 : Nat) : Int))]) trivial rfl (by decide) rfl rfl Tryd.call19 (args_ok rfl) rfl (by intro j x v hx hv; match j, hx, hv with | 0, hx, hv => cases hx; cases hv; exact .inl ⟨rfl, rfl⟩ | _ + 1, hx, hv => cases hx) (Digits_any (g % 1100) (by omega) M) ?_
  rintro _ _ ⟨rfl, rfl⟩
  refine AOps.read trivial rfl (by decide) (Reader.cat rfl rfl rfl (by first | omega | (simp only [List.length_append, List.length_cons, List.length_nil]; omega) | (simp; omega)) (c := (((((wordOf ((k % 3 : Nat) : Int)) ++ [60]) ++ (digs (p % 130))) ++ [37]) ++ [58, 48]) ++ (digs (g % 1100))) rfl) ?_
  refine AOps.call (args := [.str ((((((wordOf ((k % 3 : Nat) : Int)) ++ [60]) ++ (digs (p % 130))) ++ [37]) ++ [58, 48]) ++ (digs (g % 1100)))]) trivial rfl (by decide) rfl rfl Tryd.call33 (args_ok rfl) rfl (by intro j x v hx hv; match j, hx, hv with | 0, hx, hv => cases hx; cases hv; exact .inl ⟨rfl, rfl⟩ | _ + 1, hx, hv => cases hx) (TRead_named ((((((wordOf ((k % 3 : Nat) : Int)) ++ [60]) ++ (digs (p % 130))) ++ [37]) ++ [58, 48]) ++ (digs (g % 1100))) (by simp only [List.length_append, List.length_cons, List.length_nil]; omega) M) ?_
  rintro _ _ ⟨⟨u4, e4, hu4, he4, rfl⟩, rfl⟩
  refine AOps.read trivial rfl (by decide) (Reader.move (.inl rfl) (ok_const rfl) (v := .tuple [encT u4, .lit (.int .i64 e4)]) rfl) ?_
  refine AOps.read trivial rfl (by decide) (Reader.extract (v := encT u4) rfl rfl rfl rfl) ?_
  refine AOps.read trivial rfl (by decide) (Reader.extract (v := .lit (.int .i64 e4)) rfl rfl rfl rfl) ?_
  refine AOps.alloc (Es := []) trivial rfl (by decide) rfl (noL rfl) rfl zero_65 rfl (cells := [.lit (.int .i64 0), .lit (.int .i64 0), .lit (.int .i64 0), .lit (.bool false), .lit (.int .i64 0)]) rfl (all_scalar rfl) (all_flat rfl) ?_
  refine AOps.storeL trivial rfl rfl rfl rfl sizeOf_65 (.inl ⟨rfl, rfl⟩) rfl (v := encT u4) rfl (all_flat rfl) rfl (Nat.le_of_ble_eq_true rfl) ?_
  refine AOps.read trivial rfl (by decide) (Reader.move (.inr rfl) (ok_const rfl) (v := .lit (.int .i64 e4)) rfl) ?_
  refine AOps.nil ?_
  refine AWp.regionJ [19, 0, 1, 2, 6, 21, 7, 8, 9, 10, 11, 12, 13, 14, 16, 18] [11, 13, 15, 17] (fun z => ⟨(19, .lit (.bool z)) :: [(0, .lit (.int .u8 (k : Int))), (1, .lit (.int .u16 (p : Int))), (2, .lit (.int .u16 (g : Int))), (6, .lit (.bool false)), (21, .lit (.bool false)), (7, .str (wordOf ((k % 3 : Nat) : Int))), (8, .lit (.int .i64 ((p % 130 : Nat) : Int))), (9, .lit (.int .i64 ((g % 1100 : Nat) : Int))), (10, .str ((((wordOf ((k % 3 : Nat) : Int)) ++ [60]) ++ (digs (p % 130))) ++ [37])), (11, .lptr 11 0), (12, .lit (.int .i64 e1)), (13, .lptr 13 0), (14, .lit (.int .i64 e2)), (16, .lit (.int .i64 e3)), (18, .lit (.int .i64 e4))], [(11, [.lit (.int .i64 u1.sig), .lit (.int .i64 u1.pct), .lit (.int .i64 u1.amt), .lit (.bool u1.soft), .lit (.int .i64 u1.gr)]), (13, [.lit (.int .i64 u2.sig), .lit (.int .i64 u2.pct), .lit (.int .i64 u2.amt), .lit (.bool u2.soft), .lit (.int .i64 u2.gr)]), (15, [.lit (.int .i64 u3.sig), .lit (.int .i64 u3.pct), .lit (.int .i64 u3.amt), .lit (.bool u3.soft), .lit (.int .i64 u3.gr)]), (17, [.lit (.int .i64 u4.sig), .lit (.int .i64 u4.pct), .lit (.int .i64 u4.amt), .lit (.bool u4.soft), .lit (.int .i64 u4.gr)])], M⟩) (z := bif (decide (((p % 130 : Nat) : Int) ≥ 1)) then (decide (((p % 130 : Nat) : Int) ≤ 100)) else false) ?_ ?_
  · skip
    refine AOps.read trivial rfl (by decide) (Reader.move (.inl rfl) (ok_const rfl) (v := .lit (.int .i64 ((p % 130 : Nat) : Int))) rfl) ?_
    refine AOps.read trivial rfl (by decide) (Reader.int rfl rfl rfl (r := .bool (decide (((p % 130 : Nat) : Int) ≥ 1))) rfl) ?_
    refine AOps.read trivial rfl (by decide) (Reader.move (.inl rfl) (ok_const rfl) (v := .lit (.bool (decide (((p % 130 : Nat) : Int) ≥ 1)))) rfl) ?_
    refine AOps.splitJ (t := 73) (b := decide (((p % 130 : Nat) : Int) ≥ 1)) (x := (decide (((p % 130 : Nat) : Int) ≤ 100))) (y := false) rfl (fun h1 => ?_) (fun h1 => ?_)
    · skip
      have h1' : (p % 130) ≥ 1 := (by have hh := of_decide_eq_true h1; omega)
      clear h1
      refine AOps.read ⟨73, rfl, rfl⟩ rfl (by decide) (Reader.move (.inl rfl) (ok_const rfl) (v := .lit (.int .i64 ((p % 130 : Nat) : Int))) rfl) ?_
      refine AOps.read ⟨73, rfl, rfl⟩ rfl (by decide) (Reader.int rfl rfl rfl (r := .bool (decide (((p % 130 : Nat) : Int) ≤ 100))) rfl) ?_
      refine AOps.read trivial rfl (by decide) (Reader.pick rfl (b := true) rfl (ok_const rfl) (ok_const rfl) (v := .lit (.bool (decide (((p % 130 : Nat) : Int) ≤ 100)))) rfl) ?_
      refine AOps.read trivial rfl (by decide) (Reader.move (.inr rfl) (ok_const rfl) (v := .lit (.bool (decide (((p % 130 : Nat) : Int) ≤ 100)))) rfl) ?_
      exact AOps.nil rfl
    · skip
      have h1' : ¬ ((p % 130) ≥ 1) := (by have hh := of_decide_eq_false h1; omega)
      clear h1
      refine AOps.skip ⟨2, true, 73, _, rfl, rfl, rfl, by simp⟩ rfl (by decide) ?_
      refine AOps.skip ⟨2, true, 73, _, rfl, rfl, rfl, by simp⟩ rfl (by decide) ?_
      refine AOps.read trivial rfl (by decide) (Reader.pick rfl (b := false) rfl (ok_const rfl) (ok_const rfl) (v := .lit (.bool false)) rfl) ?_
      refine AOps.read trivial rfl (by decide) (Reader.move (.inr rfl) (ok_const rfl) (v := .lit (.bool false)) rfl) ?_
      exact AOps.nil rfl
  refine AWp.seq ?_
  refine AWp.regionJ [102, 19, 0, 1, 2, 6, 21, 7, 8, 9, 10, 11, 12, 13, 14, 16, 18] [11, 13, 15, 17] (fun z => ⟨(102, .lit (.bool z)) :: [(19, .lit (.bool (bif (decide (((p % 130 : Nat) : Int) ≥ 1)) then (decide (((p % 130 : Nat) : Int) ≤ 100)) else false))), (0, .lit (.int .u8 (k : Int))), (1, .lit (.int .u16 (p : Int))), (2, .lit (.int .u16 (g : Int))), (6, .lit (.bool false)), (21, .lit (.bool false)), (7, .str (wordOf ((k % 3 : Nat) : Int))), (8, .lit (.int .i64 ((p % 130 : Nat) : Int))), (9, .lit (.int .i64 ((g % 1100 : Nat) : Int))), (10, .str ((((wordOf ((k % 3 : Nat) : Int)) ++ [60]) ++ (digs (p % 130))) ++ [37])), (11, .lptr 11 0), (12, .lit (.int .i64 e1)), (13, .lptr 13 0), (14, .lit (.int .i64 e2)), (16, .lit (.int .i64 e3)), (18, .lit (.int .i64 e4))], [(11, [.lit (.int .i64 u1.sig), .lit (.int .i64 u1.pct), .lit (.int .i64 u1.amt), .lit (.bool u1.soft), .lit (.int .i64 u1.gr)]), (13, [.lit (.int .i64 u2.sig), .lit (.int .i64 u2.pct), .lit (.int .i64 u2.amt), .lit (.bool u2.soft), .lit (.int .i64 u2.gr)]), (15, [.lit (.int .i64 u3.sig), .lit (.int .i64 u3.pct), .lit (.int .i64 u3.amt), .lit (.bool u3.soft), .lit (.int .i64 u3.gr)]), (17, [.lit (.int .i64 u4.sig), .lit (.int .i64 u4.pct), .lit (.int .i64 u4.amt), .lit (.bool u4.soft), .lit (.int .i64 u4.gr)])], M⟩) (z := bif (e3 != 2) then true else (bif (e4 != 2) then true else (bif (!((e1 == 0) == (bif (decide (((p % 130 : Nat) : Int) ≥ 1)) then (decide (((p % 130 : Nat) : Int) ≤ 100)) else false))) then true else (bif (bif (decide (((p % 130 : Nat) : Int) ≥ 1)) then (decide (((p % 130 : Nat) : Int) ≤ 100)) else false) then (bif (decide (((g % 1100 : Nat) : Int) ≥ 1)) then (!((e2 == 0) == (decide (((g % 1100 : Nat) : Int) ≤ 1000)))) else (!((e2 == 0) == false))) else (!((e2 == 0) == false)))))) ?_ ?_
  · skip
    refine AOps.read trivial rfl (by decide) (Reader.move (.inl rfl) (ok_const rfl) (v := .lit (.int .i64 e3)) rfl) ?_
    refine AOps.read trivial rfl (by decide) (Reader.int rfl rfl rfl (r := .bool (e3 != 2)) rfl) ?_
    refine AOps.read trivial rfl (by decide) (Reader.move (.inl rfl) (ok_const rfl) (v := .lit (.bool (e3 != 2))) rfl) ?_
    refine AOps.splitJ (t := 79) (b := e3 != 2) (x := true) (y := (bif (e4 != 2) then true else (bif (!((e1 == 0) == (bif (decide (((p % 130 : Nat) : Int) ≥ 1)) then (decide (((p % 130 : Nat) : Int) ≤ 100)) else false))) then true else (bif (bif (decide (((p % 130 : Nat) : Int) ≥ 1)) then (decide (((p % 130 : Nat) : Int) ≤ 100)) else false) then (bif (decide (((g % 1100 : Nat) : Int) ≥ 1)) then (!((e2 == 0) == (decide (((g % 1100 : Nat) : Int) ≤ 1000)))) else (!((e2 == 0) == false))) else (!((e2 == 0) == false)))))) rfl (fun h2 => ?_) (fun h2 => ?_)
    · skip
      have h2' : e3 ≠ 2 := (by have hh := bne_iff_ne.1 h2; omega)
      clear h2
      refine AOps.skip ⟨2, false, 79, _, rfl, rfl, rfl, by simp⟩ rfl (by decide) ?_
      refine AOps.skip ⟨2, false, 79, _, rfl, rfl, rfl, by simp⟩ rfl (by decide) ?_
      refine AOps.read trivial rfl (by decide) (Reader.pick rfl (b := true) rfl (ok_const rfl) (ok_const rfl) (v := .lit (.bool true)) rfl) ?_
      refine AOps.read trivial rfl (by decide) (Reader.move (.inl rfl) (ok_const rfl) (v := .lit (.bool true)) rfl) ?_
      refine AOps.skip ⟨6, false, 83, _, rfl, rfl, rfl, by simp⟩ rfl (by decide) ?_
      refine AOps.skip ⟨6, false, 83, _, rfl, rfl, rfl, by simp⟩ rfl (by decide) ?_
      refine AOps.skip ⟨6, false, 83, _, rfl, rfl, rfl, by simp⟩ rfl (by decide) ?_
      refine AOps.skip ⟨6, false, 83, _, rfl, rfl, rfl, by simp⟩ rfl (by decide) ?_
      refine AOps.read trivial rfl (by decide) (Reader.pick rfl (b := true) rfl (ok_const rfl) (ok_const rfl) (v := .lit (.bool true)) rfl) ?_
      refine AOps.read trivial rfl (by decide) (Reader.move (.inl rfl) (ok_const rfl) (v := .lit (.bool true)) rfl) ?_
      refine AOps.skip ⟨12, false, 89, _, rfl, rfl, rfl, by simp⟩ rfl (by decide) ?_
      refine AOps.skip ⟨12, false, 89, _, rfl, rfl, rfl, by simp⟩ rfl (by decide) ?_
      refine AOps.skip ⟨12, false, 89, _, rfl, rfl, rfl, by simp⟩ rfl (by decide) ?_
      refine AOps.skip ⟨12, false, 89, _, rfl, rfl, rfl, by simp⟩ rfl (by decide) ?_
      refine AOps.skip ⟨16, true, 93, _, rfl, rfl, rfl, by simp [undef]⟩ rfl (by decide) ?_
      refine AOps.skip ⟨16, true, 93, _, rfl, rfl, rfl, by simp [undef]⟩ rfl (by decide) ?_
      refine AOps.skip ⟨12, false, 89, _, rfl, rfl, rfl, by simp⟩ rfl (by decide) ?_
      refine AOps.skip ⟨12, false, 89, _, rfl, rfl, rfl, by simp⟩ rfl (by decide) ?_
      refine AOps.skip ⟨20, true, 97, _, rfl, rfl, rfl, by simp [undef]⟩ rfl (by decide) ?_
      refine AOps.skip ⟨20, true, 97, _, rfl, rfl, rfl, by simp [undef]⟩ rfl (by decide) ?_
      refine AOps.skip ⟨12, false, 89, _, rfl, rfl, rfl, by simp⟩ rfl (by decide) ?_
      refine AOps.skip ⟨12, false, 89, _, rfl, rfl, rfl, by simp⟩ rfl (by decide) ?_
      refine AOps.read trivial rfl (by decide) (Reader.pick rfl (b := true) rfl (ok_const rfl) (ok_const rfl) (v := .lit (.bool true)) rfl) ?_
      exact AOps.nil rfl
    · skip
      have h2' : ¬ (e3 ≠ 2) := (by have hh := bne_eq_false_iff_eq.1 h2; omega)
      clear h2
      refine AOps.read ⟨79, rfl, rfl⟩ rfl (by decide) (Reader.move (.inl rfl) (ok_const rfl) (v := .lit (.int .i64 e4)) rfl) ?_
      refine AOps.read ⟨79, rfl, rfl⟩ rfl (by decide) (Reader.int rfl rfl rfl (r := .bool (e4 != 2)) rfl) ?_
      refine AOps.read trivial rfl (by decide) (Reader.pick rfl (b := false) rfl (ok_const rfl) (ok_const rfl) (v := .lit (.bool (e4 != 2))) rfl) ?_
      refine AOps.read trivial rfl (by decide) (Reader.move (.inl rfl) (ok_const rfl) (v := .lit (.bool (e4 != 2))) rfl) ?_
      refine AOps.splitJ (t := 83) (b := e4 != 2) (x := true) (y := (bif (!((e1 == 0) == (bif (decide (((p % 130 : Nat) : Int) ≥ 1)) then (decide (((p % 130 : Nat) : Int) ≤ 100)) else false))) then true else (bif (bif (decide (((p % 130 : Nat) : Int) ≥ 1)) then (decide (((p % 130 : Nat) : Int) ≤ 100)) else false) then (bif (decide (((g % 1100 : Nat) : Int) ≥ 1)) then (!((e2 == 0) == (decide (((g % 1100 : Nat) : Int) ≤ 1000)))) else (!((e2 == 0) == false))) else (!((e2 == 0) == false))))) rfl (fun h3 => ?_) (fun h3 => ?_)
      · skip
        have h3' : e4 ≠ 2 := (by have hh := bne_iff_ne.1 h3; omega)
        clear h3
        refine AOps.skip ⟨6, false, 83, _, rfl, rfl, rfl, by simp⟩ rfl (by decide) ?_
        refine AOps.skip ⟨6, false, 83, _, rfl, rfl, rfl, by simp⟩ rfl (by decide) ?_
        refine AOps.skip ⟨6, false, 83, _, rfl, rfl, rfl, by simp⟩ rfl (by decide) ?_
        refine AOps.skip ⟨6, false, 83, _, rfl, rfl, rfl, by simp⟩ rfl (by decide) ?_
        refine AOps.read trivial rfl (by decide) (Reader.pick rfl (b := true) rfl (ok_const rfl) (ok_const rfl) (v := .lit (.bool true)) rfl) ?_
        refine AOps.read trivial rfl (by decide) (Reader.move (.inl rfl) (ok_const rfl) (v := .lit (.bool true)) rfl) ?_
        refine AOps.skip ⟨12, false, 89, _, rfl, rfl, rfl, by simp⟩ rfl (by decide) ?_
        refine AOps.skip ⟨12, false, 89, _, rfl, rfl, rfl, by simp⟩ rfl (by decide) ?_
        refine AOps.skip ⟨12, false, 89, _, rfl, rfl, rfl, by simp⟩ rfl (by decide) ?_
        refine AOps.skip ⟨12, false, 89, _, rfl, rfl, rfl, by simp⟩ rfl (by decide) ?_
        refine AOps.skip ⟨16, true, 93, _, rfl, rfl, rfl, by simp [undef]⟩ rfl (by decide) ?_
        refine AOps.skip ⟨16, true, 93, _, rfl, rfl, rfl, by simp [undef]⟩ rfl (by decide) ?_
        refine AOps.skip ⟨12, false, 89, _, rfl, rfl, rfl, by simp⟩ rfl (by decide) ?_
        refine AOps.skip ⟨12, false, 89, _, rfl, rfl, rfl, by simp⟩ rfl (by decide) ?_
        refine AOps.skip ⟨20, true, 97, _, rfl, rfl, rfl, by simp [undef]⟩ rfl (by decide) ?_
        refine AOps.skip ⟨20, true, 97, _, rfl, rfl, rfl, by simp [undef]⟩ rfl (by decide) ?_
        refine AOps.skip ⟨12, false, 89, _, rfl, rfl, rfl, by simp⟩ rfl (by decide) ?_
        refine AOps.skip ⟨12, false, 89, _, rfl, rfl, rfl, by simp⟩ rfl (by decide) ?_
        refine AOps.read trivial rfl (by decide) (Reader.pick rfl (b := true) rfl (ok_const rfl) (ok_const rfl) (v := .lit (.bool true)) rfl) ?_
        exact AOps.nil rfl
      · skip
        have h3' : ¬ (e4 ≠ 2) := (by have hh := bne_eq_false_iff_eq.1 h3; omega)
        clear h3
        refine AOps.read ⟨83, rfl, rfl⟩ rfl (by decide) (Reader.move (.inl rfl) (ok_const rfl) (v := .lit (.int .i64 e1)) rfl) ?_
        refine AOps.read ⟨83, rfl, rfl⟩ rfl (by decide) (Reader.int rfl rfl rfl (r := .bool (e1 == 0)) rfl) ?_
        refine AOps.read ⟨83, rfl, rfl⟩ rfl (by decide) (Reader.move (.inl rfl) (ok_const rfl) (v := .lit (.bool (bif (decide (((p % 130 : Nat) : Int) ≥ 1)) then (decide (((p % 130 : Nat) : Int) ≤ 100)) else false))) rfl) ?_
        refine AOps.read ⟨83, rfl, rfl⟩ rfl (by decide) (Reader.bools (r := !((e1 == 0) == (bif (decide (((p % 130 : Nat) : Int) ≥ 1)) then (decide (((p % 130 : Nat) : Int) ≤ 100)) else false))) rfl Tryd.underlying4 rfl rfl (.inr ⟨rfl, rfl⟩)) ?_
        refine AOps.read trivial rfl (by decide) (Reader.pick rfl (b := false) rfl (ok_const rfl) (ok_const rfl) (v := .lit (.bool (!((e1 == 0) == (bif (decide (((p % 130 : Nat) : Int) ≥ 1)) then (decide (((p % 130 : Nat) : Int) ≤ 100)) else false))))) rfl) ?_
        refine AOps.read trivial rfl (by decide) (Reader.move (.inl rfl) (ok_const rfl) (v := .lit (.bool (!((e1 == 0) == (bif (decide (((p % 130 : Nat) : Int) ≥ 1)) then (decide (((p % 130 : Nat) : Int) ≤ 100)) else false))))) rfl) ?_
        refine AOps.splitJ (t := 89) (b := !((e1 == 0) == (bif (decide (((p % 130 : Nat) : Int) ≥ 1)) then (decide (((p % 130 : Nat) : Int) ≤ 100)) else false))) (x := true) (y := (bif (bif (decide (((p % 130 : Nat) : Int) ≥ 1)) then (decide (((p % 130 : Nat) : Int) ≤ 100)) else false) then (bif (decide (((g % 1100 : Nat) : Int) ≥ 1)) then (!((e2 == 0) == (decide (((g % 1100 : Nat) : Int) ≤ 1000)))) else (!((e2 == 0) == false))) else (!((e2 == 0) == false)))) rfl (fun h4 => ?_) (fun h4 => ?_)
        · skip
          refine AOps.skip ⟨12, false, 89, _, rfl, rfl, rfl, by simp⟩ rfl (by decide) ?_
          refine AOps.skip ⟨12, false, 89, _, rfl, rfl, rfl, by simp⟩ rfl (by decide) ?_
          refine AOps.skip ⟨12, false, 89, _, rfl, rfl, rfl, by simp⟩ rfl (by decide) ?_
          refine AOps.skip ⟨12, false, 89, _, rfl, rfl, rfl, by simp⟩ rfl (by decide) ?_
          refine AOps.skip ⟨16, true, 93, _, rfl, rfl, rfl, by simp [undef]⟩ rfl (by decide) ?_
          refine AOps.skip ⟨16, true, 93, _, rfl, rfl, rfl, by simp [undef]⟩ rfl (by decide) ?_
          refine AOps.skip ⟨12, false, 89, _, rfl, rfl, rfl, by simp⟩ rfl (by decide) ?_
          refine AOps.skip ⟨12, false, 89, _, rfl, rfl, rfl, by simp⟩ rfl (by decide) ?_
          refine AOps.skip ⟨20, true, 97, _, rfl, rfl, rfl, by simp [undef]⟩ rfl (by decide) ?_
          refine AOps.skip ⟨20, true, 97, _, rfl, rfl, rfl, by simp [undef]⟩ rfl (by decide) ?_
          refine AOps.skip ⟨12, false, 89, _, rfl, rfl, rfl, by simp⟩ rfl (by decide) ?_
          refine AOps.skip ⟨12, false, 89, _, rfl, rfl, rfl, by simp⟩ rfl (by decide) ?_
          refine AOps.read trivial rfl (by decide) (Reader.pick rfl (b := true) rfl (ok_const rfl) (ok_const rfl) (v := .lit (.bool true)) rfl) ?_
          exact AOps.nil rfl
        · skip
          refine AOps.read ⟨89, rfl, rfl⟩ rfl (by decide) (Reader.move (.inl rfl) (ok_const rfl) (v := .lit (.int .i64 e2)) rfl) ?_
          refine AOps.read ⟨89, rfl, rfl⟩ rfl (by decide) (Reader.int rfl rfl rfl (r := .bool (e2 == 0)) rfl) ?_
          refine AOps.read ⟨89, rfl, rfl⟩ rfl (by decide) (Reader.move (.inl rfl) (ok_const rfl) (v := .lit (.bool (bif (decide (((p % 130 : Nat) : Int) ≥ 1)) then (decide (((p % 130 : Nat) : Int) ≤ 100)) else false))) rfl) ?_
          refine AOps.read ⟨89, rfl, rfl⟩ rfl (by decide) (Reader.move (.inl rfl) (ok_const rfl) (v := .lit (.bool (bif (decide (((p % 130 : Nat) : Int) ≥ 1)) then (decide (((p % 130 : Nat) : Int) ≤ 100)) else false))) rfl) ?_
          refine AOps.splitJ (t := 93) (b := bif (decide (((p % 130 : Nat) : Int) ≥ 1)) then (decide (((p % 130 : Nat) : Int) ≤ 100)) else false) (x := (bif (decide (((g % 1100 : Nat) : Int) ≥ 1)) then (!((e2 == 0) == (decide (((g % 1100 : Nat) : Int) ≤ 1000)))) else (!((e2 == 0) == false)))) (y := (!((e2 == 0) == false))) rfl (fun h5 => ?_) (fun h5 => ?_)
          · skip
            refine AOps.read ⟨93, rfl, rfl⟩ rfl (by decide) (Reader.move (.inl rfl) (ok_const rfl) (v := .lit (.int .i64 ((g % 1100 : Nat) : Int))) rfl) ?_
            refine AOps.read ⟨93, rfl, rfl⟩ rfl (by decide) (Reader.int rfl rfl rfl (r := .bool (decide (((g % 1100 : Nat) : Int) ≥ 1))) rfl) ?_
            refine AOps.read ⟨89, rfl, rfl⟩ rfl (by decide) (Reader.pick rfl (b := true) rfl (ok_const rfl) (ok_const rfl) (v := .lit (.bool (decide (((g % 1100 : Nat) : Int) ≥ 1)))) rfl) ?_
            refine AOps.read ⟨89, rfl, rfl⟩ rfl (by decide) (Reader.move (.inl rfl) (ok_const rfl) (v := .lit (.bool (decide (((g % 1100 : Nat) : Int) ≥ 1)))) rfl) ?_
            refine AOps.splitJ (t := 97) (b := decide (((g % 1100 : Nat) : Int) ≥ 1)) (x := (!((e2 == 0) == (decide (((g % 1100 : Nat) : Int) ≤ 1000))))) (y := (!((e2 == 0) == false))) rfl (fun h6 => ?_) (fun h6 => ?_)
            · skip
              have h6' : (g % 1100) ≥ 1 := (by have hh := of_decide_eq_true h6; omega)
              clear h6
              refine AOps.read ⟨97, rfl, rfl⟩ rfl (by decide) (Reader.move (.inl rfl) (ok_const rfl) (v := .lit (.int .i64 ((g % 1100 : Nat) : Int))) rfl) ?_
              refine AOps.read ⟨97, rfl, rfl⟩ rfl (by decide) (Reader.int rfl rfl rfl (r := .bool (decide (((g % 1100 : Nat) : Int) ≤ 1000))) rfl) ?_
              refine AOps.read ⟨89, rfl, rfl⟩ rfl (by decide) (Reader.pick rfl (b := true) rfl (ok_const rfl) (ok_const rfl) (v := .lit (.bool (decide (((g % 1100 : Nat) : Int) ≤ 1000)))) rfl) ?_
              refine AOps.read ⟨89, rfl, rfl⟩ rfl (by decide) (Reader.bools (r := !((e2 == 0) == (decide (((g % 1100 : Nat) : Int) ≤ 1000)))) rfl Tryd.underlying4 rfl rfl (.inr ⟨rfl, rfl⟩)) ?_
              refine AOps.read trivial rfl (by decide) (Reader.pick rfl (b := false) rfl (ok_const rfl) (ok_const rfl) (v := .lit (.bool (!((e2 == 0) == (decide (((g % 1100 : Nat) : Int) ≤ 1000)))))) rfl) ?_
              exact AOps.nil rfl
            · skip
              have h6' : ¬ ((g % 1100) ≥ 1) := (by have hh := of_decide_eq_false h6; omega)
              clear h6
              refine AOps.skip ⟨20, true, 97, _, rfl, rfl, rfl, by simp⟩ rfl (by decide) ?_
              refine AOps.skip ⟨20, true, 97, _, rfl, rfl, rfl, by simp⟩ rfl (by decide) ?_
              refine AOps.read ⟨89, rfl, rfl⟩ rfl (by decide) (Reader.pick rfl (b := false) rfl (ok_const rfl) (ok_const rfl) (v := .lit (.bool false)) rfl) ?_
              refine AOps.read ⟨89, rfl, rfl⟩ rfl (by decide) (Reader.bools (r := !((e2 == 0) == false)) rfl Tryd.underlying4 rfl rfl (.inr ⟨rfl, rfl⟩)) ?_
              refine AOps.read trivial rfl (by decide) (Reader.pick rfl (b := false) rfl (ok_const rfl) (ok_const rfl) (v := .lit (.bool (!((e2 == 0) == false)))) rfl) ?_
              exact AOps.nil rfl
          · skip
            refine AOps.skip ⟨16, true, 93, _, rfl, rfl, rfl, by simp⟩ rfl (by decide) ?_
            refine AOps.skip ⟨16, true, 93, _, rfl, rfl, rfl, by simp⟩ rfl (by decide) ?_
            refine AOps.read ⟨89, rfl, rfl⟩ rfl (by decide) (Reader.pick rfl (b := false) rfl (ok_const rfl) (ok_const rfl) (v := .lit (.bool false)) rfl) ?_
            refine AOps.read ⟨89, rfl, rfl⟩ rfl (by decide) (Reader.move (.inl rfl) (ok_const rfl) (v := .lit (.bool false)) rfl) ?_
            refine AOps.skip ⟨20, true, 97, _, rfl, rfl, rfl, by simp⟩ rfl (by decide) ?_
            refine AOps.skip ⟨20, true, 97, _, rfl, rfl, rfl, by simp⟩ rfl (by decide) ?_
            refine AOps.read ⟨89, rfl, rfl⟩ rfl (by decide) (Reader.pick rfl (b := false) rfl (ok_const rfl) (ok_const rfl) (v := .lit (.bool false)) rfl) ?_
            refine AOps.read ⟨89, rfl, rfl⟩ rfl (by decide) (Reader.bools (r := !((e2 == 0) == false)) rfl Tryd.underlying4 rfl rfl (.inr ⟨rfl, rfl⟩)) ?_
            refine AOps.read trivial rfl (by decide) (Reader.pick rfl (b := false) rfl (ok_const rfl) (ok_const rfl) (v := .lit (.bool (!((e2 == 0) == false)))) rfl) ?_
            exact AOps.nil rfl
  have hz : (bif (e3 != 2) then true else (bif (e4 != 2) then true else (bif (!((e1 == 0) == (bif (decide (((p % 130 : Nat) : Int) ≥ 1)) then (decide (((p % 130 : Nat) : Int) ≤ 100)) else false))) then true else (bif (bif (decide (((p % 130 : Nat) : Int) ≥ 1)) then (decide (((p % 130 : Nat) : Int) ≤ 100)) else false) then (bif (decide (((g % 1100 : Nat) : Int) ≥ 1)) then (!((e2 == 0) == (decide (((g % 1100 : Nat) : Int) ≤ 1000)))) else (!((e2 == 0) == false))) else (!((e2 == 0) == false)))))) = false := by obtain ⟨f1, f2, f3, f4, r1, r2⟩ := texts_all k p g; simp only [← he1, ← he2, ← he3, ← he4, ← hu1, ← hu2] at f1 f2 f3 f4 r1 r2; clear he1 he2 he3 he4 hu1 hu2; generalize p % 130 = P at *; generalize g % 1100 = G at *; generalize (((k % 3 : Nat)) : Int) = K at *; subst f3; subst f4; by_cases h1 : 1 ≤ P ∧ P ≤ 100 <;> by_cases h2 : 1 ≤ G ∧ G ≤ 1000 <;> simp_all <;> omega
  refine AWp.cond (b := bif (e3 != 2) then true else (bif (e4 != 2) then true else (bif (!((e1 == 0) == (bif (decide (((p % 130 : Nat) : Int) ≥ 1)) then (decide (((p % 130 : Nat) : Int) ≤ 100)) else false))) then true else (bif (bif (decide (((p % 130 : Nat) : Int) ≥ 1)) then (decide (((p % 130 : Nat) : Int) ≤ 100)) else false) then (bif (decide (((g % 1100 : Nat) : Int) ≥ 1)) then (!((e2 == 0) == (decide (((g % 1100 : Nat) : Int) ≤ 1000)))) else (!((e2 == 0) == false))) else (!((e2 == 0) == false)))))) rfl (fun h7 => ?_) (fun h7 => ?_)
  · skip
    have h7' : False := (by rw [hz] at h7; cases h7)
    clear h7
    refine AWp.seq (AWp.region ?_)
    refine AOps.read trivial rfl (by decide) (Reader.move (.inr rfl) (ok_const rfl) (v := .lit (.bool false)) rfl) ?_
    refine AOps.nil ?_
    refine AWp.ret ?_
    exact ⟨.inl rfl, _, ResOf.one 6 (.lit (.bool false)) rfl rfl, ⟨False.elim (by assumption), rfl⟩⟩
  · skip
    have h7' : True := trivial
    clear h7
    refine AWp.skip ?_
    refine AWp.regionJ [6, 102, 19, 0, 1, 2, 21, 7, 8, 9, 10, 11, 12, 13, 14, 16, 18] [11, 13, 15, 17] (fun z => ⟨(6, .lit (.bool z)) :: [(102, .lit (.bool (bif (e3 != 2) then true else (bif (e4 != 2) then true else (bif (!((e1 == 0) == (bif (decide (((p % 130 : Nat) : Int) ≥ 1)) then (decide (((p % 130 : Nat) : Int) ≤ 100)) else false))) then true else (bif (bif (decide (((p % 130 : Nat) : Int) ≥ 1)) then (decide (((p % 130 : Nat) : Int) ≤ 100)) else false) then (bif (decide (((g % 1100 : Nat) : Int) ≥ 1)) then (!((e2 == 0) == (decide (((g % 1100 : Nat) : Int) ≤ 1000)))) else (!((e2 == 0) == false))) else (!((e2 == 0) == false)))))))), (19, .lit (.bool (bif (decide (((p % 130 : Nat) : Int) ≥ 1)) then (decide (((p % 130 : Nat) : Int) ≤ 100)) else false))), (0, .lit (.int .u8 (k : Int))), (1, .lit (.int .u16 (p : Int))), (2, .lit (.int .u16 (g : Int))), (21, .lit (.bool false)), (7, .str (wordOf ((k % 3 : Nat) : Int))), (8, .lit (.int .i64 ((p % 130 : Nat) : Int))), (9, .lit (.int .i64 ((g % 1100 : Nat) : Int))), (10, .str ((((wordOf ((k % 3 : Nat) : Int)) ++ [60]) ++ (digs (p % 130))) ++ [37])), (11, .lptr 11 0), (12, .lit (.int .i64 e1)), (13, .lptr 13 0), (14, .lit (.int .i64 e2)), (16, .lit (.int .i64 e3)), (18, .lit (.int .i64 e4))], [(11, [.lit (.int .i64 u1.sig), .lit (.int .i64 u1.pct), .lit (.int .i64 u1.amt), .lit (.bool u1.soft), .lit (.int .i64 u1.gr)]), (13, [.lit (.int .i64 u2.sig), .lit (.int .i64 u2.pct), .lit (.int .i64 u2.amt), .lit (.bool u2.soft), .lit (.int .i64 u2.gr)]), (15, [.lit (.int .i64 u3.sig), .lit (.int .i64 u3.pct), .lit (.int .i64 u3.amt), .lit (.bool u3.soft), .lit (.int .i64 u3.gr)]), (17, [.lit (.int .i64 u4.sig), .lit (.int .i64 u4.pct), .lit (.int .i64 u4.amt), .lit (.bool u4.soft), .lit (.int .i64 u4.gr)])], M⟩) (z := bif (!(bif (decide (((p % 130 : Nat) : Int) ≥ 1)) then (decide (((p % 130 : Nat) : Int) ≤ 100)) else false)) then true else (bif ((u1.sig == ((k % 3 : Nat) : Int)) && ((u1.pct == ((p % 130 : Nat) : Int)) && ((u1.amt == 0) && ((u1.soft == false) && ((u1.gr == 0) && true))))) then (bif (e2 != 0) then true else ((u2.sig == ((k % 3 : Nat) : Int)) && ((u2.pct == ((p % 130 : Nat) : Int)) && ((u2.amt == 0) && ((u2.soft == true) && ((u2.gr == ((g % 1100 : Nat) : Int)) && true)))))) else false)) ?_ ?_
    · skip
      refine AOps.read trivial rfl (by decide) (Reader.move (.inl rfl) (ok_const rfl) (v := .lit (.bool (bif (decide (((p % 130 : Nat) : Int) ≥ 1)) then (decide (((p % 130 : Nat) : Int) ≤ 100)) else false))) rfl) ?_
      refine AOps.read trivial rfl (by decide) (Reader.not (b := bif (decide (((p % 130 : Nat) : Int) ≥ 1)) then (decide (((p % 130 : Nat) : Int) ≤ 100)) else false) rfl rfl) ?_
      refine AOps.read trivial rfl (by decide) (Reader.move (.inl rfl) (ok_const rfl) (v := .lit (.bool (!(bif (decide (((p % 130 : Nat) : Int) ≥ 1)) then (decide (((p % 130 : Nat) : Int) ≤ 100)) else false)))) rfl) ?_
      refine AOps.splitJ (t := 105) (b := !(bif (decide (((p % 130 : Nat) : Int) ≥ 1)) then (decide (((p % 130 : Nat) : Int) ≤ 100)) else false)) (x := true) (y := (bif ((u1.sig == ((k % 3 : Nat) : Int)) && ((u1.pct == ((p % 130 : Nat) : Int)) && ((u1.amt == 0) && ((u1.soft == false) && ((u1.gr == 0) && true))))) then (bif (e2 != 0) then true else ((u2.sig == ((k % 3 : Nat) : Int)) && ((u2.pct == ((p % 130 : Nat) : Int)) && ((u2.amt == 0) && ((u2.soft == true) && ((u2.gr == ((g % 1100 : Nat) : Int)) && true)))))) else false)) rfl (fun h8 => ?_) (fun h8 => ?_)
      · skip
        refine AOps.skip ⟨2, false, 105, _, rfl, rfl, rfl, by simp⟩ rfl (by decide) ?_
        refine AOps.skip ⟨2, false, 105, _, rfl, rfl, rfl, by simp⟩ rfl (by decide) ?_
        refine AOps.skip ⟨2, false, 105, _, rfl, rfl, rfl, by simp⟩ rfl (by decide) ?_
        refine AOps.skip ⟨2, false, 105, _, rfl, rfl, rfl, by simp⟩ rfl (by decide) ?_
        refine AOps.skip ⟨2, false, 105, _, rfl, rfl, rfl, by simp⟩ rfl (by decide) ?_
        refine AOps.skip ⟨2, false, 105, _, rfl, rfl, rfl, by simp⟩ rfl (by decide) ?_
        refine AOps.skip ⟨2, false, 105, _, rfl, rfl, rfl, by simp⟩ rfl (by decide) ?_
        refine AOps.skip ⟨2, false, 105, _, rfl, rfl, rfl, by simp⟩ rfl (by decide) ?_
        refine AOps.skip ⟨10, true, 113, _, rfl, rfl, rfl, by simp [undef]⟩ rfl (by decide) ?_
        refine AOps.skip ⟨10, true, 113, _, rfl, rfl, rfl, by simp [undef]⟩ rfl (by decide) ?_
        refine AOps.skip ⟨10, true, 113, _, rfl, rfl, rfl, by simp [undef]⟩ rfl (by decide) ?_
        refine AOps.skip ⟨13, false, 116, _, rfl, rfl, rfl, by simp [undef]⟩ rfl (by decide) ?_
        refine AOps.skip ⟨13, false, 116, _, rfl, rfl, rfl, by simp [undef]⟩ rfl (by decide) ?_
        refine AOps.skip ⟨13, false, 116, _, rfl, rfl, rfl, by simp [undef]⟩ rfl (by decide) ?_
        refine AOps.skip ⟨13, false, 116, _, rfl, rfl, rfl, by simp [undef]⟩ rfl (by decide) ?_
        refine AOps.skip ⟨13, false, 116, _, rfl, rfl, rfl, by simp [undef]⟩ rfl (by decide) ?_
        refine AOps.skip ⟨13, false, 116, _, rfl, rfl, rfl, by simp [undef]⟩ rfl (by decide) ?_
        refine AOps.skip ⟨13, false, 116, _, rfl, rfl, rfl, by simp [undef]⟩ rfl (by decide) ?_
        refine AOps.skip ⟨13, false, 116, _, rfl, rfl, rfl, by simp [undef]⟩ rfl (by decide) ?_
        refine AOps.skip ⟨10, true, 113, _, rfl, rfl, rfl, by simp [undef]⟩ rfl (by decide) ?_
        refine AOps.skip ⟨2, false, 105, _, rfl, rfl, rfl, by simp⟩ rfl (by decide) ?_
        refine AOps.read trivial rfl (by decide) (Reader.pick rfl (b := true) rfl (ok_const rfl) (ok_const rfl) (v := .lit (.bool true)) rfl) ?_
        refine AOps.read trivial rfl (by decide) (Reader.move (.inr rfl) (ok_const rfl) (v := .lit (.bool true)) rfl) ?_
        exact AOps.nil rfl
      · skip
        refine AOps.read ⟨105, rfl, rfl⟩ rfl (by decide) (Reader.loadL rfl Tryd.underlying65 sizeOf_65 rfl rfl (v := .agg [.lit (.int .i64 u1.sig), .lit (.int .i64 u1.pct), .lit (.int .i64 u1.amt), .lit (.bool u1.soft), .lit (.int .i64 u1.gr)]) rfl rfl) ?_
        refine AOps.read ⟨105, rfl, rfl⟩ rfl (by decide) (Reader.move (.inl rfl) (ok_const rfl) (v := .lit (.int .u8 (k : Int))) rfl) ?_
        refine AOps.read ⟨105, rfl, rfl⟩ rfl (by decide) (Reader.rem rfl rfl rfl (by decide) (c := ((k % 3 : Nat) : Int)) (by first | rfl | exact nat_rem _ _)) ?_
        refine AOps.read ⟨105, rfl, rfl⟩ rfl (by decide) (Reader.conv rfl Tryd.underlying5 Tryd.underlying3 (by simp) rfl (c := ((k % 3 : Nat) : Int)) (by first | exact IntWalk.i64_in _ (by omega) | exact IntWalk.i64_in _ (by constructor <;> omega) | (simp only [];omega))) ?_
        refine AOps.read ⟨105, rfl, rfl⟩ rfl (by decide) (Reader.move (.inl rfl) (ok_const rfl) (v := .lit (.int .i64 ((p % 130 : Nat) : Int))) rfl) ?_
        refine AOps.read ⟨105, rfl, rfl⟩ rfl (by decide) (Reader.build (xs := [(0, .lit (.int .i64 ((k % 3 : Nat) : Int))), (1, .lit (.int .i64 ((p % 130 : Nat) : Int)))]) (Es := []) (places := places_65) rfl Tryd.underlying65 (by refine ⟨rfl, fun j p x hp hx => ?_⟩; match j, hp, hx with | 0, hp, hx => cases hp; cases hx; exact ⟨rfl, .inl ⟨rfl, rfl⟩, rfl, rfl⟩ | 1, hp, hx => cases hp; cases hx; exact ⟨rfl, .inl ⟨rfl, rfl⟩, rfl, rfl⟩ | _ + 2, hp, hx => cases hp) zero_65 rfl places_65_ok (cs := [.lit (.int .i64 ((k % 3 : Nat) : Int)), .lit (.int .i64 ((p % 130 : Nat) : Int)), .lit (.int .i64 0), .lit (.bool false), .lit (.int .i64 0)]) rfl) ?_
        refine AOps.read ⟨105, rfl, rfl⟩ rfl (by decide) (Reader.eqAgg (us := [(.int .i64 u1.sig), (.int .i64 u1.pct), (.int .i64 u1.amt), (.bool u1.soft), (.int .i64 u1.gr)]) (vs := [(.int .i64 ((k % 3 : Nat) : Int)), (.int .i64 ((p % 130 : Nat) : Int)), (.int .i64 0), (.bool false), (.int .i64 0)]) (b := ((u1.sig == ((k % 3 : Nat) : Int)) && ((u1.pct == ((p % 130 : Nat) : Int)) && ((u1.amt == 0) && ((u1.soft == false) && ((u1.gr == 0) && true)))))) (r := ((u1.sig == ((k % 3 : Nat) : Int)) && ((u1.pct == ((p % 130 : Nat) : Int)) && ((u1.amt == 0) && ((u1.soft == false) && ((u1.gr == 0) && true)))))) 9 rfl rfl rfl ⟨_, rfl⟩ ⟨_, rfl⟩ Tryd.underlying65 rfl eqg_65 (by decide) rfl rfl (eqV_65 u1.sig ((k % 3 : Nat) : Int) u1.pct ((p % 130 : Nat) : Int) u1.amt 0 u1.soft false u1.gr 0) (.inl ⟨rfl, rfl⟩)) ?_
        refine AOps.read ⟨105, rfl, rfl⟩ rfl (by decide) (Reader.move (.inl rfl) (ok_const rfl) (v := .lit (.bool ((u1.sig == ((k % 3 : Nat) : Int)) && ((u1.pct == ((p % 130 : Nat) : Int)) && ((u1.amt == 0) && ((u1.soft == false) && ((u1.gr == 0) && true))))))) rfl) ?_
        refine AOps.splitJ (t := 113) (b := ((u1.sig == ((k % 3 : Nat) : Int)) && ((u1.pct == ((p % 130 : Nat) : Int)) && ((u1.amt == 0) && ((u1.soft == false) && ((u1.gr == 0) && true)))))) (x := (bif (e2 != 0) then true else ((u2.sig == ((k % 3 : Nat) : Int)) && ((u2.pct == ((p % 130 : Nat) : Int)) && ((u2.amt == 0) && ((u2.soft == true) && ((u2.gr == ((g % 1100 : Nat) : Int)) && true))))))) (y := false) rfl (fun h9 => ?_) (fun h9 => ?_)
        · skip
          refine AOps.read ⟨113, rfl, rfl⟩ rfl (by decide) (Reader.move (.inl rfl) (ok_const rfl) (v := .lit (.int .i64 e2)) rfl) ?_
          refine AOps.read ⟨113, rfl, rfl⟩ rfl (by decide) (Reader.int rfl rfl rfl (r := .bool (e2 != 0)) rfl) ?_
          refine AOps.read ⟨113, rfl, rfl⟩ rfl (by decide) (Reader.move (.inl rfl) (ok_const rfl) (v := .lit (.bool (e2 != 0))) rfl) ?_
          refine AOps.splitJ (t := 116) (b := e2 != 0) (x := true) (y := ((u2.sig == ((k % 3 : Nat) : Int)) && ((u2.pct == ((p % 130 : Nat) : Int)) && ((u2.amt == 0) && ((u2.soft == true) && ((u2.gr == ((g % 1100 : Nat) : Int)) && true)))))) rfl (fun h10 => ?_) (fun h10 => ?_)
          · skip
            have h10' : e2 ≠ 0 := (by have hh := bne_iff_ne.1 h10; omega)
            clear h10
            refine AOps.skip ⟨13, false, 116, _, rfl, rfl, rfl, by simp⟩ rfl (by decide) ?_
            refine AOps.skip ⟨13, false, 116, _, rfl, rfl, rfl, by simp⟩ rfl (by decide) ?_
            refine AOps.skip ⟨13, false, 116, _, rfl, rfl, rfl, by simp⟩ rfl (by decide) ?_
            refine AOps.skip ⟨13, false, 116, _, rfl, rfl, rfl, by simp⟩ rfl (by decide) ?_
            refine AOps.skip ⟨13, false, 116, _, rfl, rfl, rfl, by simp⟩ rfl (by decide) ?_
            refine AOps.skip ⟨13, false, 116, _, rfl, rfl, rfl, by simp⟩ rfl (by decide) ?_
            refine AOps.skip ⟨13, false, 116, _, rfl, rfl, rfl, by simp⟩ rfl (by decide) ?_
            refine AOps.skip ⟨13, false, 116, _, rfl, rfl, rfl, by simp⟩ rfl (by decide) ?_
            refine AOps.read ⟨113, rfl, rfl⟩ rfl (by decide) (Reader.pick rfl (b := true) rfl (ok_const rfl) (ok_const rfl) (v := .lit (.bool true)) rfl) ?_
            refine AOps.read ⟨105, rfl, rfl⟩ rfl (by decide) (Reader.pick rfl (b := true) rfl (ok_const rfl) (ok_const rfl) (v := .lit (.bool true)) rfl) ?_
            refine AOps.read trivial rfl (by decide) (Reader.pick rfl (b := false) rfl (ok_const rfl) (ok_const rfl) (v := .lit (.bool true)) rfl) ?_
            refine AOps.read trivial rfl (by decide) (Reader.move (.inr rfl) (ok_const rfl) (v := .lit (.bool true)) rfl) ?_
            exact AOps.nil rfl
          · skip
            have h10' : ¬ (e2 ≠ 0) := (by have hh := bne_eq_false_iff_eq.1 h10; omega)
            clear h10
            refine AOps.read ⟨116, rfl, rfl⟩ rfl (by decide) (Reader.loadL rfl Tryd.underlying65 sizeOf_65 rfl rfl (v := .agg [.lit (.int .i64 u2.sig), .lit (.int .i64 u2.pct), .lit (.int .i64 u2.amt), .lit (.bool u2.soft), .lit (.int .i64 u2.gr)]) rfl rfl) ?_
            refine AOps.read ⟨116, rfl, rfl⟩ rfl (by decide) (Reader.move (.inl rfl) (ok_const rfl) (v := .lit (.int .u8 (k : Int))) rfl) ?_
            refine AOps.read ⟨116, rfl, rfl⟩ rfl (by decide) (Reader.rem rfl rfl rfl (by decide) (c := ((k % 3 : Nat) : Int)) (by first | rfl | exact nat_rem _ _)) ?_
            refine AOps.read ⟨116, rfl, rfl⟩ rfl (by decide) (Reader.conv rfl Tryd.underlying5 Tryd.underlying3 (by simp) rfl (c := ((k % 3 : Nat) : Int)) (by first | exact IntWalk.i64_in _ (by omega) | exact IntWalk.i64_in _ (by constructor <;> omega) | (simp only [];omega))) ?_
            refine AOps.read ⟨116, rfl, rfl⟩ rfl (by decide) (Reader.move (.inl rfl) (ok_const rfl) (v := .lit (.int .i64 ((p % 130 : Nat) : Int))) rfl) ?_
            refine AOps.read ⟨116, rfl, rfl⟩ rfl (by decide) (Reader.move (.inl rfl) (ok_const rfl) (v := .lit (.int .i64 ((g % 1100 : Nat) : Int))) rfl) ?_
            refine AOps.read ⟨116, rfl, rfl⟩ rfl (by decide) (Reader.build (xs := [(0, .lit (.int .i64 ((k % 3 : Nat) : Int))), (1, .lit (.int .i64 ((p % 130 : Nat) : Int))), (3, .lit (.bool true)), (4, .lit (.int .i64 ((g % 1100 : Nat) : Int)))]) (Es := []) (places := places_65) rfl Tryd.underlying65 (by refine ⟨rfl, fun j p x hp hx => ?_⟩; match j, hp, hx with | 0, hp, hx => cases hp; cases hx; exact ⟨rfl, .inl ⟨rfl, rfl⟩, rfl, rfl⟩ | 1, hp, hx => cases hp; cases hx; exact ⟨rfl, .inl ⟨rfl, rfl⟩, rfl, rfl⟩ | 2, hp, hx => cases hp; cases hx; exact ⟨rfl, .inl ⟨rfl, rfl⟩, rfl, rfl⟩ | 3, hp, hx => cases hp; cases hx; exact ⟨rfl, .inl ⟨rfl, rfl⟩, rfl, rfl⟩ | _ + 4, hp, hx => cases hp) zero_65 rfl places_65_ok (cs := [.lit (.int .i64 ((k % 3 : Nat) : Int)), .lit (.int .i64 ((p % 130 : Nat) : Int)), .lit (.int .i64 0), .lit (.bool true), .lit (.int .i64 ((g % 1100 : Nat) : Int))]) rfl) ?_
            refine AOps.read ⟨116, rfl, rfl⟩ rfl (by decide) (Reader.eqAgg (us := [(.int .i64 u2.sig), (.int .i64 u2.pct), (.int .i64 u2.amt), (.bool u2.soft), (.int .i64 u2.gr)]) (vs := [(.int .i64 ((k % 3 : Nat) : Int)), (.int .i64 ((p % 130 : Nat) : Int)), (.int .i64 0), (.bool true), (.int .i64 ((g % 1100 : Nat) : Int))]) (b := ((u2.sig == ((k % 3 : Nat) : Int)) && ((u2.pct == ((p % 130 : Nat) : Int)) && ((u2.amt == 0) && ((u2.soft == true) && ((u2.gr == ((g % 1100 : Nat) : Int)) && true)))))) (r := ((u2.sig == ((k % 3 : Nat) : Int)) && ((u2.pct == ((p % 130 : Nat) : Int)) && ((u2.amt == 0) && ((u2.soft == true) && ((u2.gr == ((g % 1100 : Nat) : Int)) && true)))))) 9 rfl rfl rfl ⟨_, rfl⟩ ⟨_, rfl⟩ Tryd.underlying65 rfl eqg_65 (by decide) rfl rfl (eqV_65 u2.sig ((k % 3 : Nat) : Int) u2.pct ((p % 130 : Nat) : Int) u2.amt 0 u2.soft true u2.gr ((g % 1100 : Nat) : Int)) (.inl ⟨rfl, rfl⟩)) ?_
            refine AOps.read ⟨113, rfl, rfl⟩ rfl (by decide) (Reader.pick rfl (b := false) rfl (ok_const rfl) (ok_const rfl) (v := .lit (.bool ((u2.sig == ((k % 3 : Nat) : Int)) && ((u2.pct == ((p % 130 : Nat) : Int)) && ((u2.amt == 0) && ((u2.soft == true) && ((u2.gr == ((g % 1100 : Nat) : Int)) && true))))))) rfl) ?_
            refine AOps.read ⟨105, rfl, rfl⟩ rfl (by decide) (Reader.pick rfl (b := true) rfl (ok_const rfl) (ok_const rfl) (v := .lit (.bool ((u2.sig == ((k % 3 : Nat) : Int)) && ((u2.pct == ((p % 130 : Nat) : Int)) && ((u2.amt == 0) && ((u2.soft == true) && ((u2.gr == ((g % 1100 : Nat) : Int)) && true))))))) rfl) ?_
            refine AOps.read trivial rfl (by decide) (Reader.pick rfl (b := false) rfl (ok_const rfl) (ok_const rfl) (v := .lit (.bool ((u2.sig == ((k % 3 : Nat) : Int)) && ((u2.pct == ((p % 130 : Nat) : Int)) && ((u2.amt == 0) && ((u2.soft == true) && ((u2.gr == ((g % 1100 : Nat) : Int)) && true))))))) rfl) ?_
            refine AOps.read trivial rfl (by decide) (Reader.move (.inr rfl) (ok_const rfl) (v := .lit (.bool ((u2.sig == ((k % 3 : Nat) : Int)) && ((u2.pct == ((p % 130 : Nat) : Int)) && ((u2.amt == 0) && ((u2.soft == true) && ((u2.gr == ((g % 1100 : Nat) : Int)) && true))))))) rfl) ?_
            exact AOps.nil rfl
        · skip
          refine AOps.skip ⟨10, true, 113, _, rfl, rfl, rfl, by simp⟩ rfl (by decide) ?_
          refine AOps.skip ⟨10, true, 113, _, rfl, rfl, rfl, by simp⟩ rfl (by decide) ?_
          refine AOps.skip ⟨10, true, 113, _, rfl, rfl, rfl, by simp⟩ rfl (by decide) ?_
          refine AOps.skip ⟨13, false, 116, _, rfl, rfl, rfl, by simp [undef]⟩ rfl (by decide) ?_
          refine AOps.skip ⟨13, false, 116, _, rfl, rfl, rfl, by simp [undef]⟩ rfl (by decide) ?_
          refine AOps.skip ⟨13, false, 116, _, rfl, rfl, rfl, by simp [undef]⟩ rfl (by decide) ?_
          refine AOps.skip ⟨13, false, 116, _, rfl, rfl, rfl, by simp [undef]⟩ rfl (by decide) ?_
          refine AOps.skip ⟨13, false, 116, _, rfl, rfl, rfl, by simp [undef]⟩ rfl (by decide) ?_
          refine AOps.skip ⟨13, false, 116, _, rfl, rfl, rfl, by simp [undef]⟩ rfl (by decide) ?_
          refine AOps.skip ⟨13, false, 116, _, rfl, rfl, rfl, by simp [undef]⟩ rfl (by decide) ?_
          refine AOps.skip ⟨13, false, 116, _, rfl, rfl, rfl, by simp [undef]⟩ rfl (by decide) ?_
          refine AOps.skip ⟨10, true, 113, _, rfl, rfl, rfl, by simp⟩ rfl (by decide) ?_
          refine AOps.read ⟨105, rfl, rfl⟩ rfl (by decide) (Reader.pick rfl (b := false) rfl (ok_const rfl) (ok_const rfl) (v := .lit (.bool false)) rfl) ?_
          refine AOps.read trivial rfl (by decide) (Reader.pick rfl (b := false) rfl (ok_const rfl) (ok_const rfl) (v := .lit (.bool false)) rfl) ?_
          refine AOps.read trivial rfl (by decide) (Reader.move (.inr rfl) (ok_const rfl) (v := .lit (.bool false)) rfl) ?_
          exact AOps.nil rfl
    refine AWp.ret ?_
    exact ⟨.inl rfl, _, ResOf.one 6 (.lit (.bool (bif (!(bif (decide (((p % 130 : Nat) : Int) ≥ 1)) then (decide (((p % 130 : Nat) : Int) ≤ 100)) else false)) then true else (bif ((u1.sig == ((k % 3 : Nat) : Int)) && ((u1.pct == ((p % 130 : Nat) : Int)) && ((u1.amt == 0) && ((u1.soft == false) && ((u1.gr == 0) && true))))) then (bif (e2 != 0) then true else ((u2.sig == ((k % 3 : Nat) : Int)) && ((u2.pct == ((p % 130 : Nat) : Int)) && ((u2.amt == 0) && ((u2.soft == true) && ((u2.gr == ((g % 1100 : Nat) : Int)) && true)))))) else false)))) rfl rfl, ⟨congrArg (fun b => AV.lit (.bool b)) (by obtain ⟨f1, f2, f3, f4, r1, r2⟩ := texts_all k p g; simp only [← he1, ← he2, ← he3, ← he4, ← hu1, ← hu2] at f1 f2 f3 f4 r1 r2; clear he1 he2 he3 he4 hu1 hu2; generalize p % 130 = P at *; generalize g % 1100 = G at *; generalize (((k % 3 : Nat)) : Int) = K at *; subst f3; subst f4; by_cases h1 : 1 ≤ P ∧ P ≤ 100 <;> by_cases h2 : 1 ≤ G ∧ G ≤ 1000 <;> simp_all <;> omega), rfl⟩⟩

end Go.Proofs.YtlpihekflkjkfaaDoor
