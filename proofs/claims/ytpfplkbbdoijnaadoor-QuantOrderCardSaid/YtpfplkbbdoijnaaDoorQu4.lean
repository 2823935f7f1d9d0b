/- Walks over abstract values, printed by my program av.py. -/
import Derived.Test.YtpfplkbbdoijnaaDoorQu3
namespace Go.Proofs.YtpfplkbbdoijnaaDoor
open Go.RowKit
theorem ra_0 (M : Nat → Option (List AV)) : ACall Tryd.prog 9 [.str [49, 50, 77, 105]] M (fun r M' => r = .tuple [.lit (.int .i64 12582912), .lit (.int .i64 0)] ∧ M = M') := by
  have h := Read_any [49, 50, 77, 105] (by decide) M
  rw [show qv [49, 50, 77, 105] = 12582912 from by decide +kernel, show qe [49, 50, 77, 105] = 0 from by decide +kernel] at h
  exact h
theorem ra_1 (M : Nat → Option (List AV)) : ACall Tryd.prog 9 [.str [77, 105]] M (fun r M' => r = .tuple [.lit (.int .i64 0), .lit (.int .i64 2)] ∧ M = M') := by
  have h := Read_any [77, 105] (by decide) M
  rw [show qv [77, 105] = 0 from by decide +kernel, show qe [77, 105] = 2 from by decide +kernel] at h
  exact h
theorem ra_2 (M : Nat → Option (List AV)) : ACall Tryd.prog 9 [.str [49, 109]] M (fun r M' => r = .tuple [.lit (.int .i64 0), .lit (.int .i64 2)] ∧ M = M') := by
  have h := Read_any [49, 109] (by decide) M
  rw [show qv [49, 109] = 0 from by decide +kernel, show qe [49, 109] = 2 from by decide +kernel] at h
  exact h
theorem pa_0 (M : Nat → Option (List AV)) : ACall Tryd.prog 13 [.lit (.int .i64 2048)] M (fun r M' => r = .str [50, 75, 105] ∧ M = M') := by
  have h := Print_any 2048 (by decide) M
  rw [show printV ((2048 : Int).toNat) = [50, 75, 105] from by decide +kernel] at h
  exact h
theorem pa_1 (M : Nat → Option (List AV)) : ACall Tryd.prog 13 [.lit (.int .i64 3000)] M (fun r M' => r = .str [51, 107] ∧ M = M') := by
  have h := Print_any 3000 (by decide) M
  rw [show printV ((3000 : Int).toNat) = [51, 107] from by decide +kernel] at h
  exact h
theorem pa_2 (M : Nat → Option (List AV)) : ACall Tryd.prog 13 [.lit (.int .i64 0)] M (fun r M' => r = .str [48] ∧ M = M') := by
  have h := Print_any 0 (by decide) M
  rw [show printV ((0 : Int).toNat) = [48] from by decide +kernel] at h
  exact h
theorem ua_0 (M : Nat → Option (List AV)) : ACall Tryd.prog 11 [.str []] M (fun r M' => r = .lit (.int .i64 1) ∧ M = M') := Unit_any [] M
theorem qe_eq0 {t : List UInt8} : (qe t == 0) = (quantV t).isSome := by unfold qe; cases (quantV t).isSome <;> rfl
theorem qe_eq2 {t : List UInt8} : (qe t == 2) = !(quantV t).isSome := by unfold qe; cases (quantV t).isSome <;> rfl
theorem rPrint_int (n : Int) (h0 : 0 ≤ n) (hn : n.toNat ≤ 9223372036854775807) (M : Nat → Option (List AV)) : ACall Tryd.prog 14 [.lit (.int .i64 n)] M (fun r M' => r = .str (printV n.toNat) ∧ M = M') := by
  obtain ⟨m, rfl⟩ := Int.eq_ofNat_of_zero_le h0
  exact rPrint_any m hn M
theorem back_neg {n : Int} (h : n < 0) : (bif (printV n.toNat == [48]) then (((qv (printV n.toNat) : Nat) : Int) == 0) else false) = true := by
  have : n.toNat = 0 := by omega
  rw [this]; decide +kernel
theorem back_read (k m : Nat) (h : m ≤ 9223372036854775807) : qv (List.replicate k 48 ++ printV m) = m ∧ qe (List.replicate k 48 ++ printV m) = 0 := q_some (printV_read m k h)
theorem back_ok {n : Int} {i : Nat} (hn : n.toNat ≤ 9223372036854775807) (h : 0 ≤ n) : (bif qe (printV n.toNat) == 0 then (bif ((qv (printV n.toNat) : Nat) : Int) == n then (bif qe (List.replicate i 48 ++ printV n.toNat) == 0 then (bif ((qv (List.replicate i 48 ++ printV n.toNat) : Nat) : Int) == n then (printV n.toNat == printV n.toNat) else false) else false) else false) else false) = true := by
  have h1 := back_read 0 n.toNat hn
  have h2 := back_read i n.toNat hn
  rw [List.replicate_zero, List.nil_append] at h1
  have e : ((n.toNat : Nat) : Int) = n := by omega
  rw [h1.1, h1.2, h2.1, h2.2, e]
  simp
theorem name_len (k : Nat) : (namesL.getD k []).length ≤ 2 := by
  match k with
  | 0 | 1 | 2 | 3 | 4 | 5 | 6 | 7 => decide
  | k + 8 => exact Nat.zero_le _
theorem mu_bound {n u : Nat} (h : u ≤ 1099511627776) : n % 8388608 * u ≤ 9223372036854775807 := by
  have h1 : n % 8388608 ≤ 8388607 := by omega
  have := Nat.mul_le_mul h1 h
  omega
theorem units_f {j : Nat} (hj : j < 8) (h : (bif !(namesL.getD j [] == namesL.getD j []) then true else (bif ((unitOf (namesL.getD j []) : Nat) : Int) != ((unitOf (namesL.getD j []) : Nat) : Int) then true else (bif decide ((j : Int) > 0) then decide (((unitOf (namesL.getD j []) : Nat) : Int) ≥ ((unitOf (namesL.getD (j - 1) []) : Nat) : Int)) else false))) = true) : False := by
  revert h
  match j, hj with
  | 0, _ | 1, _ | 2, _ | 3, _ | 4, _ | 5, _ | 6, _ | 7, _ => decide +kernel
theorem quant_name (n : Nat) {k : Nat} (hk : k < 8) : qv (digs n ++ namesL.getD k []) = satN (satN n * unitOf (namesL.getD k [])) ∧ qe (digs n ++ namesL.getD k []) = 0 := by
  have hu := nm_unit hk
  have := quantV_app (ds := digs n) (nm := namesL.getD k []) (digs_isD n) (digs_ne n) (by rw [name_unit hk]; exact unit_head (unit_mem hk)) (by omega)
  rw [decV_digs] at this
  exact q_some this
theorem quant_digs (n : Nat) (hn : n ≤ 9223372036854775807) : qv (digs n) = n ∧ qe (digs n) = 0 := by
  have := quantV_app (ds := digs n) (nm := []) (digs_isD n) (digs_ne n) (by simp) (by decide)
  rw [decV_digs, unitOf_nil, Nat.mul_one, satN_sat, satN_of hn, List.append_nil] at this
  exact q_some this
theorem names_top {k : Nat} (hk : k < 8) : unitOf (namesL.getD k []) ≤ unitOf (namesL.getD 0 []) := by
  match k, hk with
  | 0, _ | 1, _ | 2, _ | 3, _ | 4, _ | 5, _ | 6, _ | 7, _ => decide +kernel
theorem units_ok {n i : Nat} (hn : n ≤ 4294967295) : (bif qe (digs n ++ namesL.getD (i % 8) []) == 0 then (bif qe (digs n) == 0 then (bif ((qv (digs n) : Nat) : Int) == ((n : Nat) : Int) then (bif qe (digs n ++ namesL.getD 0 []) == 0 then (bif decide (((qv (digs n ++ namesL.getD (i % 8) []) : Nat) : Int) ≤ ((qv (digs n ++ namesL.getD 0 []) : Nat) : Int)) then (bif qe (digs (n % 8388608) ++ namesL.getD (i % 8) []) == 0 then (((qv (digs (n % 8388608) ++ namesL.getD (i % 8) []) : Nat) : Int) == ((n % 8388608 * unitOf (namesL.getD (i % 8) []) : Nat) : Int)) else false) else false) else false) else false) else false) else false) = true := by
  have hk : i % 8 < 8 := by omega
  have h1 := quant_name n hk
  have h2 := quant_digs n (by omega)
  have h3 := quant_name n (show 0 < 8 by decide)
  have h4 := quant_name (n % 8388608) hk
  have hu := unitOf_le (namesL.getD (i % 8) [])
  have e4 : satN (satN (n % 8388608) * unitOf (namesL.getD (i % 8) [])) = n % 8388608 * unitOf (namesL.getD (i % 8) []) := by
    rw [satN_of (x := n % 8388608) (by omega), satN_of (mu_bound hu)]
  have hle : satN (satN n * unitOf (namesL.getD (i % 8) [])) ≤ satN (satN n * unitOf (namesL.getD 0 [])) := satN_mono (Nat.mul_le_mul_left _ (names_top hk))
  have e5 : decide (((satN (satN n * unitOf (namesL.getD (i % 8) [])) : Nat) : Int) ≤ ((satN (satN n * unitOf (namesL.getD 0 [])) : Nat) : Int)) = true := by rw [decide_eq_true_eq]; omega
  rw [h1.1, h1.2, h2.1, h2.2, h3.1, h3.2, h4.1, h4.2, e4, e5]
  simp

set_option maxRecDepth 20000 in
theorem awake_any  (M : Nat → Option (List AV)) : ACall Tryd.prog 8 [] M (fun r M' => r = .lit (.bool true) ∧ M = M') := by
  refine ACall.of Tryd.func8 rfl (n := 54) rfl rfl rfl ?_
  refine AWp.seq (AWp.region ?_)
  refine AOps.read trivial rfl (by decide) (Reader.move (.inr rfl) (ok_const rfl) (v := .lit (.bool false)) rfl) ?_
  refine AOps.nil ?_
  refine AWp.seq (AWp.region ?_)
  refine AOps.call (args := [.str [49, 50, 77, 105]]) trivial rfl (by decide) rfl rfl Tryd.call9 (args_ok rfl) rfl (by intro j x v hx hv; match j, hx, hv with | 0, hx, hv => cases hx; cases hv; exact .inl ⟨rfl, rfl⟩ | _ + 1, hx, hv => cases hx) (ra_0 M) ?_
  rintro _ _ ⟨rfl, rfl⟩
  refine AOps.read trivial rfl (by decide) (Reader.move (.inl rfl) (ok_const rfl) (v := .tuple [.lit (.int .i64 12582912), .lit (.int .i64 0)]) rfl) ?_
  refine AOps.read trivial rfl (by decide) (Reader.extract (v := .lit (.int .i64 12582912)) rfl rfl rfl rfl) ?_
  refine AOps.read trivial rfl (by decide) (Reader.extract (v := .lit (.int .i64 0)) rfl rfl rfl rfl) ?_
  refine AOps.read trivial rfl (by decide) (Reader.move (.inr rfl) (ok_const rfl) (v := .lit (.int .i64 12582912)) rfl) ?_
  refine AOps.read trivial rfl (by decide) (Reader.move (.inr rfl) (ok_const rfl) (v := .lit (.int .i64 0)) rfl) ?_
  refine AOps.nil ?_
  refine AWp.seq (AWp.region ?_)
  refine AOps.call (args := [.str [77, 105]]) trivial rfl (by decide) rfl rfl Tryd.call9 (args_ok rfl) rfl (by intro j x v hx hv; match j, hx, hv with | 0, hx, hv => cases hx; cases hv; exact .inl ⟨rfl, rfl⟩ | _ + 1, hx, hv => cases hx) (ra_1 M) ?_
  rintro _ _ ⟨rfl, rfl⟩
  refine AOps.read trivial rfl (by decide) (Reader.move (.inl rfl) (ok_const rfl) (v := .tuple [.lit (.int .i64 0), .lit (.int .i64 2)]) rfl) ?_
  refine AOps.read trivial rfl (by decide) (Reader.extract (v := .lit (.int .i64 0)) rfl rfl rfl rfl) ?_
  refine AOps.read trivial rfl (by decide) (Reader.extract (v := .lit (.int .i64 2)) rfl rfl rfl rfl) ?_
  refine AOps.read trivial rfl (by decide) (Reader.move (.inr rfl) (ok_const rfl) (v := .lit (.int .i64 0)) rfl) ?_
  refine AOps.read trivial rfl (by decide) (Reader.move (.inr rfl) (ok_const rfl) (v := .lit (.int .i64 2)) rfl) ?_
  refine AOps.nil ?_
  refine AWp.seq (AWp.region ?_)
  refine AOps.call (args := [.str [49, 109]]) trivial rfl (by decide) rfl rfl Tryd.call9 (args_ok rfl) rfl (by intro j x v hx hv; match j, hx, hv with | 0, hx, hv => cases hx; cases hv; exact .inl ⟨rfl, rfl⟩ | _ + 1, hx, hv => cases hx) (ra_2 M) ?_
  rintro _ _ ⟨rfl, rfl⟩
  refine AOps.read trivial rfl (by decide) (Reader.move (.inl rfl) (ok_const rfl) (v := .tuple [.lit (.int .i64 0), .lit (.int .i64 2)]) rfl) ?_
  refine AOps.read trivial rfl (by decide) (Reader.extract (v := .lit (.int .i64 0)) rfl rfl rfl rfl) ?_
  refine AOps.read trivial rfl (by decide) (Reader.extract (v := .lit (.int .i64 2)) rfl rfl rfl rfl) ?_
  refine AOps.read trivial rfl (by decide) (Reader.move (.inr rfl) (ok_const rfl) (v := .lit (.int .i64 0)) rfl) ?_
  refine AOps.read trivial rfl (by decide) (Reader.move (.inr rfl) (ok_const rfl) (v := .lit (.int .i64 2)) rfl) ?_
  refine AOps.nil ?_
  refine AWp.regionJ [0, 1, 2, 4, 6] [] (fun z => ⟨(0, .lit (.bool z)) :: [(1, .lit (.int .i64 12582912)), (2, .lit (.int .i64 0)), (4, .lit (.int .i64 2)), (6, .lit (.int .i64 2))], [], M⟩) (z := true) ?_ ?_
  · skip
    refine AOps.read trivial rfl (by decide) (Reader.move (.inl rfl) (ok_const rfl) (v := .lit (.int .i64 0)) rfl) ?_
    refine AOps.read trivial rfl (by decide) (Reader.int rfl rfl rfl (r := .bool true) rfl) ?_
    refine AOps.read trivial rfl (by decide) (Reader.move (.inl rfl) (ok_const rfl) (v := .lit (.bool true)) rfl) ?_
    refine AOps.read ⟨21, rfl, rfl⟩ rfl (by decide) (Reader.move (.inl rfl) (ok_const rfl) (v := .lit (.int .i64 12582912)) rfl) ?_
    refine AOps.read ⟨21, rfl, rfl⟩ rfl (by decide) (Reader.int rfl rfl rfl (r := .bool true) rfl) ?_
    refine AOps.read trivial rfl (by decide) (Reader.pick rfl (b := true) rfl (ok_const rfl) (ok_const rfl) (v := .lit (.bool true)) rfl) ?_
    refine AOps.read trivial rfl (by decide) (Reader.move (.inl rfl) (ok_const rfl) (v := .lit (.bool true)) rfl) ?_
    refine AOps.read ⟨25, rfl, rfl⟩ rfl (by decide) (Reader.move (.inl rfl) (ok_const rfl) (v := .lit (.int .i64 2)) rfl) ?_
    refine AOps.read ⟨25, rfl, rfl⟩ rfl (by decide) (Reader.int rfl rfl rfl (r := .bool true) rfl) ?_
    refine AOps.read trivial rfl (by decide) (Reader.pick rfl (b := true) rfl (ok_const rfl) (ok_const rfl) (v := .lit (.bool true)) rfl) ?_
    refine AOps.read trivial rfl (by decide) (Reader.move (.inl rfl) (ok_const rfl) (v := .lit (.bool true)) rfl) ?_
    refine AOps.read ⟨29, rfl, rfl⟩ rfl (by decide) (Reader.move (.inl rfl) (ok_const rfl) (v := .lit (.int .i64 2)) rfl) ?_
    refine AOps.read ⟨29, rfl, rfl⟩ rfl (by decide) (Reader.int rfl rfl rfl (r := .bool true) rfl) ?_
    refine AOps.read trivial rfl (by decide) (Reader.pick rfl (b := true) rfl (ok_const rfl) (ok_const rfl) (v := .lit (.bool true)) rfl) ?_
    refine AOps.read trivial rfl (by decide) (Reader.move (.inl rfl) (ok_const rfl) (v := .lit (.bool true)) rfl) ?_
    refine AOps.call (args := [.lit (.int .i64 2048)]) ⟨33, rfl, rfl⟩ rfl (by decide) rfl rfl Tryd.call13 (args_ok rfl) rfl (by intro j x v hx hv; match j, hx, hv with | 0, hx, hv => cases hx; cases hv; exact .inl ⟨rfl, rfl⟩ | _ + 1, hx, hv => cases hx) (pa_0 M) ?_
    rintro _ _ ⟨rfl, rfl⟩
    refine AOps.read ⟨33, rfl, rfl⟩ rfl (by decide) (Reader.strs rfl rfl rfl (r := true) rfl) ?_
    refine AOps.read trivial rfl (by decide) (Reader.pick rfl (b := true) rfl (ok_const rfl) (ok_const rfl) (v := .lit (.bool true)) rfl) ?_
    refine AOps.read trivial rfl (by decide) (Reader.move (.inl rfl) (ok_const rfl) (v := .lit (.bool true)) rfl) ?_
    refine AOps.call (args := [.lit (.int .i64 3000)]) ⟨37, rfl, rfl⟩ rfl (by decide) rfl rfl Tryd.call13 (args_ok rfl) rfl (by intro j x v hx hv; match j, hx, hv with | 0, hx, hv => cases hx; cases hv; exact .inl ⟨rfl, rfl⟩ | _ + 1, hx, hv => cases hx) (pa_1 M) ?_
    rintro _ _ ⟨rfl, rfl⟩
    refine AOps.read ⟨37, rfl, rfl⟩ rfl (by decide) (Reader.strs rfl rfl rfl (r := true) rfl) ?_
    refine AOps.read trivial rfl (by decide) (Reader.pick rfl (b := true) rfl (ok_const rfl) (ok_const rfl) (v := .lit (.bool true)) rfl) ?_
    refine AOps.read trivial rfl (by decide) (Reader.move (.inl rfl) (ok_const rfl) (v := .lit (.bool true)) rfl) ?_
    refine AOps.call (args := [.lit (.int .i64 0)]) ⟨41, rfl, rfl⟩ rfl (by decide) rfl rfl Tryd.call13 (args_ok rfl) rfl (by intro j x v hx hv; match j, hx, hv with | 0, hx, hv => cases hx; cases hv; exact .inl ⟨rfl, rfl⟩ | _ + 1, hx, hv => cases hx) (pa_2 M) ?_
    rintro _ _ ⟨rfl, rfl⟩
    refine AOps.read ⟨41, rfl, rfl⟩ rfl (by decide) (Reader.strs rfl rfl rfl (r := true) rfl) ?_
    refine AOps.read trivial rfl (by decide) (Reader.pick rfl (b := true) rfl (ok_const rfl) (ok_const rfl) (v := .lit (.bool true)) rfl) ?_
    refine AOps.read trivial rfl (by decide) (Reader.move (.inl rfl) (ok_const rfl) (v := .lit (.bool true)) rfl) ?_
    refine AOps.call (args := []) ⟨45, rfl, rfl⟩ rfl (by decide) rfl rfl Tryd.call15 (args_ok rfl) rfl (by intro j x v hx hv; match j, hx, hv with  | _ + 0, hx, hv => cases hx) (Units_any M) ?_
    rintro _ _ ⟨rfl, rfl⟩
    refine AOps.read ⟨45, rfl, rfl⟩ rfl (by decide) (Reader.len' (xs := namesL.map AV.str) rfl rfl rfl rfl Tryd.underlying33 rfl (m := 8) rfl) ?_
    refine AOps.read ⟨45, rfl, rfl⟩ rfl (by decide) (Reader.int rfl rfl rfl (r := .bool true) rfl) ?_
    refine AOps.read trivial rfl (by decide) (Reader.pick rfl (b := true) rfl (ok_const rfl) (ok_const rfl) (v := .lit (.bool true)) rfl) ?_
    refine AOps.read trivial rfl (by decide) (Reader.move (.inl rfl) (ok_const rfl) (v := .lit (.bool true)) rfl) ?_
    refine AOps.call (args := [.str []]) ⟨50, rfl, rfl⟩ rfl (by decide) rfl rfl Tryd.call11 (args_ok rfl) rfl (by intro j x v hx hv; match j, hx, hv with | 0, hx, hv => cases hx; cases hv; exact .inl ⟨rfl, rfl⟩ | _ + 1, hx, hv => cases hx) (ua_0 M) ?_
    rintro _ _ ⟨rfl, rfl⟩
    refine AOps.read ⟨50, rfl, rfl⟩ rfl (by decide) (Reader.int rfl rfl rfl (r := .bool true) rfl) ?_
    refine AOps.read trivial rfl (by decide) (Reader.pick rfl (b := true) rfl (ok_const rfl) (ok_const rfl) (v := .lit (.bool true)) rfl) ?_
    refine AOps.read trivial rfl (by decide) (Reader.move (.inr rfl) (ok_const rfl) (v := .lit (.bool true)) rfl) ?_
    exact AOps.nil rfl
  refine AWp.ret ?_
  exact ⟨.inl rfl, _, ResOf.one 0 (.lit (.bool true)) rfl rfl, ⟨rfl, rfl⟩⟩

set_option maxRecDepth 20000 in
theorem QuantReads_any (t : List UInt8) (M : Nat → Option (List AV)) : ACall Tryd.prog 3 [.str t] M (fun r M' => r = .lit (.bool true) ∧ M = M') := by
  refine ACall.of Tryd.func3 rfl (n := 48) rfl rfl rfl ?_
  refine AWp.seq (AWp.region ?_)
  refine AOps.read trivial rfl (by decide) (Reader.move (.inr rfl) (ok_const rfl) (v := .lit (.bool false)) rfl) ?_
  refine AOps.nil ?_
  refine AWp.seq ?_
  refine AWp.regionJ [13, 0, 2] [] (fun z => ⟨(13, .lit (.bool z)) :: [(0, .str t), (2, .lit (.bool false))], [], M⟩) (z := decide ((t.length : Int) > 2000)) ?_ ?_
  · skip
    refine AOps.call (args := []) trivial rfl (by decide) rfl rfl Tryd.call8 (args_ok rfl) rfl (by intro j x v hx hv; match j, hx, hv with  | _ + 0, hx, hv => cases hx) (awake_any M) ?_
    rintro _ _ ⟨rfl, rfl⟩
    refine AOps.read trivial rfl (by decide) (Reader.not (b := true) rfl rfl) ?_
    refine AOps.read trivial rfl (by decide) (Reader.move (.inl rfl) (ok_const rfl) (v := .lit (.bool false)) rfl) ?_
    refine AOps.read ⟨9, rfl, rfl⟩ rfl (by decide) (Reader.move (.inl rfl) (ok_const rfl) (v := .str t) rfl) ?_
    refine AOps.read ⟨9, rfl, rfl⟩ rfl (by decide) (Reader.lenStr' (l := t) rfl rfl rfl rfl Tryd.underlying9 rfl (m := t.length) (by first | rfl | simp)) ?_
    refine AOps.read ⟨9, rfl, rfl⟩ rfl (by decide) (Reader.int rfl rfl rfl (r := .bool (decide ((t.length : Int) > 2000))) rfl) ?_
    refine AOps.read trivial rfl (by decide) (Reader.pick rfl (b := false) rfl (ok_const rfl) (ok_const rfl) (v := .lit (.bool (decide ((t.length : Int) > 2000)))) rfl) ?_
    exact AOps.nil rfl
  refine AWp.cond (b := decide ((t.length : Int) > 2000)) rfl (fun h1 => ?_) (fun h1 => ?_)
  · skip
    have h1' : (t.length : Int) > 2000 := (of_decide_eq_true h1)
    clear h1
    refine AWp.seq (AWp.region ?_)
    refine AOps.call (args := []) trivial rfl (by decide) rfl rfl Tryd.call8 (args_ok rfl) rfl (by intro j x v hx hv; match j, hx, hv with  | _ + 0, hx, hv => cases hx) (awake_any M) ?_
    rintro _ _ ⟨rfl, rfl⟩
    refine AOps.read trivial rfl (by decide) (Reader.move (.inr rfl) (ok_const rfl) (v := .lit (.bool true)) rfl) ?_
    refine AOps.nil ?_
    refine AWp.ret ?_
    exact ⟨.inl rfl, _, ResOf.one 2 (.lit (.bool true)) rfl rfl, ⟨rfl, rfl⟩⟩
  · skip
    have h1' : ¬ ((t.length : Int) > 2000) := (of_decide_eq_false h1)
    clear h1
    refine AWp.skip ?_
    refine AWp.seq (AWp.region ?_)
    refine AOps.read trivial rfl (by decide) (Reader.move (.inl rfl) (ok_const rfl) (v := .str t) rfl) ?_
    refine AOps.call (args := [.str t]) trivial rfl (by decide) rfl rfl Tryd.call9 (args_ok rfl) rfl (by intro j x v hx hv; match j, hx, hv with | 0, hx, hv => cases hx; cases hv; exact .inl ⟨rfl, rfl⟩ | _ + 1, hx, hv => cases hx) (Read_any t (by first | assumption | omega | (simp only [List.length_append, List.length_cons, List.length_nil]; omega)) M) ?_
    rintro _ _ ⟨rfl, rfl⟩
    refine AOps.read trivial rfl (by decide) (Reader.move (.inl rfl) (ok_const rfl) (v := .tuple [.lit (.int .i64 ((qv t : Nat) : Int)), .lit (.int .i64 (qe t))]) rfl) ?_
    refine AOps.read trivial rfl (by decide) (Reader.extract (v := .lit (.int .i64 ((qv t : Nat) : Int))) rfl rfl rfl rfl) ?_
    refine AOps.read trivial rfl (by decide) (Reader.extract (v := .lit (.int .i64 (qe t))) rfl rfl rfl rfl) ?_
    refine AOps.read trivial rfl (by decide) (Reader.move (.inr rfl) (ok_const rfl) (v := .lit (.int .i64 ((qv t : Nat) : Int))) rfl) ?_
    refine AOps.read trivial rfl (by decide) (Reader.move (.inr rfl) (ok_const rfl) (v := .lit (.int .i64 (qe t))) rfl) ?_
    refine AOps.nil ?_
    refine AWp.seq (AWp.region ?_)
    refine AOps.read trivial rfl (by decide) (Reader.move (.inl rfl) (ok_const rfl) (v := .str t) rfl) ?_
    refine AOps.call (args := [.str t]) trivial rfl (by decide) rfl rfl Tryd.call10 (args_ok rfl) rfl (by intro j x v hx hv; match j, hx, hv with | 0, hx, hv => cases hx; cases hv; exact .inl ⟨rfl, rfl⟩ | _ + 1, hx, hv => cases hx) (rRead_any t (by omega) M) ?_
    rintro _ _ ⟨rfl, rfl⟩
    refine AOps.read trivial rfl (by decide) (Reader.move (.inl rfl) (ok_const rfl) (v := .tuple [.lit (.int .i64 ((qv t : Nat) : Int)), .lit (.bool ((quantV t).isSome))]) rfl) ?_
    refine AOps.read trivial rfl (by decide) (Reader.extract (v := .lit (.int .i64 ((qv t : Nat) : Int))) rfl rfl rfl rfl) ?_
    refine AOps.read trivial rfl (by decide) (Reader.extract (v := .lit (.bool ((quantV t).isSome))) rfl rfl rfl rfl) ?_
    refine AOps.read trivial rfl (by decide) (Reader.move (.inr rfl) (ok_const rfl) (v := .lit (.int .i64 ((qv t : Nat) : Int))) rfl) ?_
    refine AOps.read trivial rfl (by decide) (Reader.move (.inr rfl) (ok_const rfl) (v := .lit (.bool ((quantV t).isSome))) rfl) ?_
    refine AOps.nil ?_
    refine AWp.regionJ [2, 13, 0, 3, 4, 5, 6] [] (fun z => ⟨(2, .lit (.bool z)) :: [(13, .lit (.bool (decide ((t.length : Int) > 2000)))), (0, .str t), (3, .lit (.int .i64 ((qv t : Nat) : Int))), (4, .lit (.int .i64 (qe t))), (5, .lit (.int .i64 ((qv t : Nat) : Int))), (6, .lit (.bool ((quantV t).isSome)))], [], M⟩) (z := bif (((qv t : Nat) : Int) == ((qv t : Nat) : Int)) then (bif (((qe t) == 0) == ((quantV t).isSome)) then (bif ((quantV t).isSome) then (((unitOf t : Nat) : Int) == ((unitOf t : Nat) : Int)) else (bif ((qe t) == 2) then (((unitOf t : Nat) : Int) == ((unitOf t : Nat) : Int)) else false)) else false) else false) ?_ ?_
    · skip
      refine AOps.read trivial rfl (by decide) (Reader.move (.inl rfl) (ok_const rfl) (v := .lit (.int .i64 ((qv t : Nat) : Int))) rfl) ?_
      refine AOps.read trivial rfl (by decide) (Reader.move (.inl rfl) (ok_const rfl) (v := .lit (.int .i64 ((qv t : Nat) : Int))) rfl) ?_
      refine AOps.read trivial rfl (by decide) (Reader.int rfl rfl rfl (r := .bool (((qv t : Nat) : Int) == ((qv t : Nat) : Int))) rfl) ?_
      refine AOps.read trivial rfl (by decide) (Reader.move (.inl rfl) (ok_const rfl) (v := .lit (.bool (((qv t : Nat) : Int) == ((qv t : Nat) : Int)))) rfl) ?_
      refine AOps.splitJ (t := 28) (b := ((qv t : Nat) : Int) == ((qv t : Nat) : Int)) (x := (bif (((qe t) == 0) == ((quantV t).isSome)) then (bif ((quantV t).isSome) then (((unitOf t : Nat) : Int) == ((unitOf t : Nat) : Int)) else (bif ((qe t) == 2) then (((unitOf t : Nat) : Int) == ((unitOf t : Nat) : Int)) else false)) else false)) (y := false) rfl (fun h2 => ?_) (fun h2 => ?_)
      · skip
        have h2' : (qv t) = (qv t) := (by have hh := eq_of_beq h2; omega)
        clear h2
        refine AOps.read ⟨28, rfl, rfl⟩ rfl (by decide) (Reader.move (.inl rfl) (ok_const rfl) (v := .lit (.int .i64 (qe t))) rfl) ?_
        refine AOps.read ⟨28, rfl, rfl⟩ rfl (by decide) (Reader.int rfl rfl rfl (r := .bool ((qe t) == 0)) rfl) ?_
        refine AOps.read ⟨28, rfl, rfl⟩ rfl (by decide) (Reader.move (.inl rfl) (ok_const rfl) (v := .lit (.bool ((quantV t).isSome))) rfl) ?_
        refine AOps.read ⟨28, rfl, rfl⟩ rfl (by decide) (Reader.bools (r := ((qe t) == 0) == ((quantV t).isSome)) rfl Tryd.underlying4 rfl rfl (.inl ⟨rfl, rfl⟩)) ?_
        refine AOps.read trivial rfl (by decide) (Reader.pick rfl (b := true) rfl (ok_const rfl) (ok_const rfl) (v := .lit (.bool (((qe t) == 0) == ((quantV t).isSome)))) rfl) ?_
        refine AOps.read trivial rfl (by decide) (Reader.move (.inl rfl) (ok_const rfl) (v := .lit (.bool (((qe t) == 0) == ((quantV t).isSome)))) rfl) ?_
        refine AOps.splitJ (t := 34) (b := ((qe t) == 0) == ((quantV t).isSome)) (x := (bif ((quantV t).isSome) then (((unitOf t : Nat) : Int) == ((unitOf t : Nat) : Int)) else (bif ((qe t) == 2) then (((unitOf t : Nat) : Int) == ((unitOf t : Nat) : Int)) else false))) (y := false) rfl (fun h3 => ?_) (fun h3 => ?_)
        · skip
          refine AOps.read ⟨34, rfl, rfl⟩ rfl (by decide) (Reader.move (.inl rfl) (ok_const rfl) (v := .lit (.bool ((quantV t).isSome))) rfl) ?_
          refine AOps.read ⟨34, rfl, rfl⟩ rfl (by decide) (Reader.move (.inl rfl) (ok_const rfl) (v := .lit (.bool ((quantV t).isSome))) rfl) ?_
          refine AOps.splitJ (t := 36) (b := (quantV t).isSome) (x := (((unitOf t : Nat) : Int) == ((unitOf t : Nat) : Int))) (y := (bif ((qe t) == 2) then (((unitOf t : Nat) : Int) == ((unitOf t : Nat) : Int)) else false)) rfl (fun h4 => ?_) (fun h4 => ?_)
          · skip
            refine AOps.skip ⟨11, false, 36, _, rfl, rfl, rfl, by simp⟩ rfl (by decide) ?_
            refine AOps.skip ⟨11, false, 36, _, rfl, rfl, rfl, by simp⟩ rfl (by decide) ?_
            refine AOps.read ⟨34, rfl, rfl⟩ rfl (by decide) (Reader.pick rfl (b := true) rfl (ok_const rfl) (ok_const rfl) (v := .lit (.bool true)) rfl) ?_
            refine AOps.read trivial rfl (by decide) (Reader.pick rfl (b := true) rfl (ok_const rfl) (ok_const rfl) (v := .lit (.bool true)) rfl) ?_
            refine AOps.read trivial rfl (by decide) (Reader.move (.inl rfl) (ok_const rfl) (v := .lit (.bool true)) rfl) ?_
            refine AOps.read ⟨41, rfl, rfl⟩ rfl (by decide) (Reader.move (.inl rfl) (ok_const rfl) (v := .str t) rfl) ?_
            refine AOps.call (args := [.str t]) ⟨41, rfl, rfl⟩ rfl (by decide) rfl rfl Tryd.call11 (args_ok rfl) rfl (by intro j x v hx hv; match j, hx, hv with | 0, hx, hv => cases hx; cases hv; exact .inl ⟨rfl, rfl⟩ | _ + 1, hx, hv => cases hx) (Unit_any t M) ?_
            rintro _ _ ⟨rfl, rfl⟩
            refine AOps.read ⟨41, rfl, rfl⟩ rfl (by decide) (Reader.move (.inl rfl) (ok_const rfl) (v := .str t) rfl) ?_
            refine AOps.call (args := [.str t]) ⟨41, rfl, rfl⟩ rfl (by decide) rfl rfl Tryd.call12 (args_ok rfl) rfl (by intro j x v hx hv; match j, hx, hv with | 0, hx, hv => cases hx; cases hv; exact .inl ⟨rfl, rfl⟩ | _ + 1, hx, hv => cases hx) (rUnit_any t M) ?_
            rintro _ _ ⟨rfl, rfl⟩
            refine AOps.read ⟨41, rfl, rfl⟩ rfl (by decide) (Reader.int rfl rfl rfl (r := .bool (((unitOf t : Nat) : Int) == ((unitOf t : Nat) : Int))) rfl) ?_
            refine AOps.read trivial rfl (by decide) (Reader.pick rfl (b := true) rfl (ok_const rfl) (ok_const rfl) (v := .lit (.bool (((unitOf t : Nat) : Int) == ((unitOf t : Nat) : Int)))) rfl) ?_
            refine AOps.read trivial rfl (by decide) (Reader.move (.inr rfl) (ok_const rfl) (v := .lit (.bool (((unitOf t : Nat) : Int) == ((unitOf t : Nat) : Int)))) rfl) ?_
            exact AOps.nil rfl
          · skip
            refine AOps.read ⟨36, rfl, rfl⟩ rfl (by decide) (Reader.move (.inl rfl) (ok_const rfl) (v := .lit (.int .i64 (qe t))) rfl) ?_
            refine AOps.read ⟨36, rfl, rfl⟩ rfl (by decide) (Reader.int rfl rfl rfl (r := .bool ((qe t) == 2)) rfl) ?_
            refine AOps.read ⟨34, rfl, rfl⟩ rfl (by decide) (Reader.pick rfl (b := false) rfl (ok_const rfl) (ok_const rfl) (v := .lit (.bool ((qe t) == 2))) rfl) ?_
            refine AOps.read trivial rfl (by decide) (Reader.pick rfl (b := true) rfl (ok_const rfl) (ok_const rfl) (v := .lit (.bool ((qe t) == 2))) rfl) ?_
            refine AOps.read trivial rfl (by decide) (Reader.move (.inl rfl) (ok_const rfl) (v := .lit (.bool ((qe t) == 2))) rfl) ?_
            refine AOps.splitJ (t := 41) (b := (qe t) == 2) (x := (((unitOf t : Nat) : Int) == ((unitOf t : Nat) : Int))) (y := false) rfl (fun h5 => ?_) (fun h5 => ?_)
            · skip
              have h5' : (qe t) = 2 := (by have hh := eq_of_beq h5; omega)
              clear h5
              refine AOps.read ⟨41, rfl, rfl⟩ rfl (by decide) (Reader.move (.inl rfl) (ok_const rfl) (v := .str t) rfl) ?_
              refine AOps.call (args := [.str t]) ⟨41, rfl, rfl⟩ rfl (by decide) rfl rfl Tryd.call11 (args_ok rfl) rfl (by intro j x v hx hv; match j, hx, hv with | 0, hx, hv => cases hx; cases hv; exact .inl ⟨rfl, rfl⟩ | _ + 1, hx, hv => cases hx) (Unit_any t M) ?_
              rintro _ _ ⟨rfl, rfl⟩
              refine AOps.read ⟨41, rfl, rfl⟩ rfl (by decide) (Reader.move (.inl rfl) (ok_const rfl) (v := .str t) rfl) ?_
              refine AOps.call (args := [.str t]) ⟨41, rfl, rfl⟩ rfl (by decide) rfl rfl Tryd.call12 (args_ok rfl) rfl (by intro j x v hx hv; match j, hx, hv with | 0, hx, hv => cases hx; cases hv; exact .inl ⟨rfl, rfl⟩ | _ + 1, hx, hv => cases hx) (rUnit_any t M) ?_
              rintro _ _ ⟨rfl, rfl⟩
              refine AOps.read ⟨41, rfl, rfl⟩ rfl (by decide) (Reader.int rfl rfl rfl (r := .bool (((unitOf t : Nat) : Int) == ((unitOf t : Nat) : Int))) rfl) ?_
              refine AOps.read trivial rfl (by decide) (Reader.pick rfl (b := true) rfl (ok_const rfl) (ok_const rfl) (v := .lit (.bool (((unitOf t : Nat) : Int) == ((unitOf t : Nat) : Int)))) rfl) ?_
              refine AOps.read trivial rfl (by decide) (Reader.move (.inr rfl) (ok_const rfl) (v := .lit (.bool (((unitOf t : Nat) : Int) == ((unitOf t : Nat) : Int)))) rfl) ?_
              exact AOps.nil rfl
            · skip
              have h5' : ¬ ((qe t) = 2) := (by have hh := beq_eq_false_iff_ne.1 h5; omega)
              clear h5
              refine AOps.skip ⟨16, true, 41, _, rfl, rfl, rfl, by simp⟩ rfl (by decide) ?_
              refine AOps.skip ⟨16, true, 41, _, rfl, rfl, rfl, by simp⟩ rfl (by decide) ?_
              refine AOps.skip ⟨16, true, 41, _, rfl, rfl, rfl, by simp⟩ rfl (by decide) ?_
              refine AOps.skip ⟨16, true, 41, _, rfl, rfl, rfl, by simp⟩ rfl (by decide) ?_
              refine AOps.skip ⟨16, true, 41, _, rfl, rfl, rfl, by simp⟩ rfl (by decide) ?_
              refine AOps.read trivial rfl (by decide) (Reader.pick rfl (b := false) rfl (ok_const rfl) (ok_const rfl) (v := .lit (.bool false)) rfl) ?_
              refine AOps.read trivial rfl (by decide) (Reader.move (.inr rfl) (ok_const rfl) (v := .lit (.bool false)) rfl) ?_
              exact AOps.nil rfl
        · skip
          refine AOps.skip ⟨9, true, 34, _, rfl, rfl, rfl, by simp⟩ rfl (by decide) ?_
          refine AOps.skip ⟨9, true, 34, _, rfl, rfl, rfl, by simp⟩ rfl (by decide) ?_
          refine AOps.skip ⟨11, false, 36, _, rfl, rfl, rfl, by simp [undef]⟩ rfl (by decide) ?_
          refine AOps.skip ⟨11, false, 36, _, rfl, rfl, rfl, by simp [undef]⟩ rfl (by decide) ?_
          refine AOps.skip ⟨9, true, 34, _, rfl, rfl, rfl, by simp⟩ rfl (by decide) ?_
          refine AOps.read trivial rfl (by decide) (Reader.pick rfl (b := false) rfl (ok_const rfl) (ok_const rfl) (v := .lit (.bool false)) rfl) ?_
          refine AOps.read trivial rfl (by decide) (Reader.move (.inl rfl) (ok_const rfl) (v := .lit (.bool false)) rfl) ?_
          refine AOps.skip ⟨16, true, 41, _, rfl, rfl, rfl, by simp⟩ rfl (by decide) ?_
          refine AOps.skip ⟨16, true, 41, _, rfl, rfl, rfl, by simp⟩ rfl (by decide) ?_
          refine AOps.skip ⟨16, true, 41, _, rfl, rfl, rfl, by simp⟩ rfl (by decide) ?_
          refine AOps.skip ⟨16, true, 41, _, rfl, rfl, rfl, by simp⟩ rfl (by decide) ?_
          refine AOps.skip ⟨16, true, 41, _, rfl, rfl, rfl, by simp⟩ rfl (by decide) ?_
          refine AOps.read trivial rfl (by decide) (Reader.pick rfl (b := false) rfl (ok_const rfl) (ok_const rfl) (v := .lit (.bool false)) rfl) ?_
          refine AOps.read trivial rfl (by decide) (Reader.move (.inr rfl) (ok_const rfl) (v := .lit (.bool false)) rfl) ?_
          exact AOps.nil rfl
      · skip
        have h2' : ¬ ((qv t) = (qv t)) := (by have hh := beq_eq_false_iff_ne.1 h2; omega)
        clear h2
        refine AOps.skip ⟨3, true, 28, _, rfl, rfl, rfl, by simp⟩ rfl (by decide) ?_
        refine AOps.skip ⟨3, true, 28, _, rfl, rfl, rfl, by simp⟩ rfl (by decide) ?_
        refine AOps.skip ⟨3, true, 28, _, rfl, rfl, rfl, by simp⟩ rfl (by decide) ?_
        refine AOps.skip ⟨3, true, 28, _, rfl, rfl, rfl, by simp⟩ rfl (by decide) ?_
        refine AOps.read trivial rfl (by decide) (Reader.pick rfl (b := false) rfl (ok_const rfl) (ok_const rfl) (v := .lit (.bool false)) rfl) ?_
        refine AOps.read trivial rfl (by decide) (Reader.move (.inl rfl) (ok_const rfl) (v := .lit (.bool false)) rfl) ?_
        refine AOps.skip ⟨9, true, 34, _, rfl, rfl, rfl, by simp⟩ rfl (by decide) ?_
        refine AOps.skip ⟨9, true, 34, _, rfl, rfl, rfl, by simp⟩ rfl (by decide) ?_
        refine AOps.skip ⟨11, false, 36, _, rfl, rfl, rfl, by simp [undef]⟩ rfl (by decide) ?_
        refine AOps.skip ⟨11, false, 36, _, rfl, rfl, rfl, by simp [undef]⟩ rfl (by decide) ?_
        refine AOps.skip ⟨9, true, 34, _, rfl, rfl, rfl, by simp⟩ rfl (by decide) ?_
        refine AOps.read trivial rfl (by decide) (Reader.pick rfl (b := false) rfl (ok_const rfl) (ok_const rfl) (v := .lit (.bool false)) rfl) ?_
        refine AOps.read trivial rfl (by decide) (Reader.move (.inl rfl) (ok_const rfl) (v := .lit (.bool false)) rfl) ?_
        refine AOps.skip ⟨16, true, 41, _, rfl, rfl, rfl, by simp⟩ rfl (by decide) ?_
        refine AOps.skip ⟨16, true, 41, _, rfl, rfl, rfl, by simp⟩ rfl (by decide) ?_
        refine AOps.skip ⟨16, true, 41, _, rfl, rfl, rfl, by simp⟩ rfl (by decide) ?_
        refine AOps.skip ⟨16, true, 41, _, rfl, rfl, rfl, by simp⟩ rfl (by decide) ?_
        refine AOps.skip ⟨16, true, 41, _, rfl, rfl, rfl, by simp⟩ rfl (by decide) ?_
        refine AOps.read trivial rfl (by decide) (Reader.pick rfl (b := false) rfl (ok_const rfl) (ok_const rfl) (v := .lit (.bool false)) rfl) ?_
        refine AOps.read trivial rfl (by decide) (Reader.move (.inr rfl) (ok_const rfl) (v := .lit (.bool false)) rfl) ?_
        exact AOps.nil rfl
    refine AWp.ret ?_
    exact ⟨.inl rfl, _, ResOf.one 2 (.lit (.bool (bif (((qv t : Nat) : Int) == ((qv t : Nat) : Int)) then (bif (((qe t) == 0) == ((quantV t).isSome)) then (bif ((quantV t).isSome) then (((unitOf t : Nat) : Int) == ((unitOf t : Nat) : Int)) else (bif ((qe t) == 2) then (((unitOf t : Nat) : Int) == ((unitOf t : Nat) : Int)) else false)) else false) else false))) rfl rfl, ⟨congrArg (fun b => AV.lit (.bool b)) (by rw [qe_eq0, qe_eq2]; cases (quantV t).isSome <;> simp), rfl⟩⟩

set_option maxRecDepth 20000 in
theorem QuantBack_any (n : Int) (hn : n.toNat ≤ 9223372036854775807) (zs : Nat) (hz : zs ≤ 255) (M : Nat → Option (List AV)) : ACall Tryd.prog 4 [.lit (.int .i64 n), .lit (.int .u8 (zs : Int))] M (fun r M' => r = .lit (.bool true) ∧ M = M') := by
  have hpl := printV_len n.toNat hn
  refine ACall.of Tryd.func4 rfl (n := 66) rfl rfl rfl ?_
  refine AWp.seq (AWp.region ?_)
  refine AOps.read trivial rfl (by decide) (Reader.move (.inr rfl) (ok_const rfl) (v := .lit (.bool false)) rfl) ?_
  refine AOps.nil ?_
  refine AWp.seq ?_
  refine AWp.seq (AWp.region ?_)
  refine AOps.call (args := []) trivial rfl (by decide) rfl rfl Tryd.call8 (args_ok rfl) rfl (by intro j x v hx hv; match j, hx, hv with  | _ + 0, hx, hv => cases hx) (awake_any M) ?_
  rintro _ _ ⟨rfl, rfl⟩
  refine AOps.read trivial rfl (by decide) (Reader.not (b := true) rfl rfl) ?_
  refine AOps.nil ?_
  refine AWp.cond (b := false) rfl (fun hx => by cases hx) (fun hx => ?_)
  refine AWp.skip ?_
  refine AWp.seq (AWp.region ?_)
  refine AOps.read trivial rfl (by decide) (Reader.move (.inl rfl) (ok_const rfl) (v := .lit (.int .i64 n)) rfl) ?_
  refine AOps.call (args := [.lit (.int .i64 n)]) trivial rfl (by decide) rfl rfl Tryd.call13 (args_ok rfl) rfl (by intro j x v hx hv; match j, hx, hv with | 0, hx, hv => cases hx; cases hv; exact .inl ⟨rfl, rfl⟩ | _ + 1, hx, hv => cases hx) (Print_any n (by omega) M) ?_
  rintro _ _ ⟨rfl, rfl⟩
  refine AOps.read trivial rfl (by decide) (Reader.move (.inr rfl) (ok_const rfl) (v := .str (printV n.toNat)) rfl) ?_
  refine AOps.nil ?_
  refine AWp.seq (AWp.region ?_)
  refine AOps.read trivial rfl (by decide) (Reader.move (.inl rfl) (ok_const rfl) (v := .str (printV n.toNat)) rfl) ?_
  refine AOps.call (args := [.str (printV n.toNat)]) trivial rfl (by decide) rfl rfl Tryd.call9 (args_ok rfl) rfl (by intro j x v hx hv; match j, hx, hv with | 0, hx, hv => cases hx; cases hv; exact .inl ⟨rfl, rfl⟩ | _ + 1, hx, hv => cases hx) (Read_any (printV n.toNat) (by first | omega | (rw [hrl]; omega)) M) ?_
  rintro _ _ ⟨rfl, rfl⟩
  refine AOps.read trivial rfl (by decide) (Reader.move (.inl rfl) (ok_const rfl) (v := .tuple [.lit (.int .i64 ((qv (printV n.toNat) : Nat) : Int)), .lit (.int .i64 (qe (printV n.toNat)))]) rfl) ?_
  refine AOps.read trivial rfl (by decide) (Reader.extract (v := .lit (.int .i64 ((qv (printV n.toNat) : Nat) : Int))) rfl rfl rfl rfl) ?_
  refine AOps.read trivial rfl (by decide) (Reader.extract (v := .lit (.int .i64 (qe (printV n.toNat)))) rfl rfl rfl rfl) ?_
  refine AOps.read trivial rfl (by decide) (Reader.move (.inr rfl) (ok_const rfl) (v := .lit (.int .i64 ((qv (printV n.toNat) : Nat) : Int))) rfl) ?_
  refine AOps.read trivial rfl (by decide) (Reader.move (.inr rfl) (ok_const rfl) (v := .lit (.int .i64 (qe (printV n.toNat)))) rfl) ?_
  refine AOps.nil ?_
  refine AWp.seq (AWp.region ?_)
  refine AOps.read trivial rfl (by decide) (Reader.move (.inl rfl) (ok_const rfl) (v := .str (printV n.toNat)) rfl) ?_
  refine AOps.read trivial rfl (by decide) (Reader.move (.inr rfl) (ok_const rfl) (v := .str (printV n.toNat)) rfl) ?_
  refine AOps.nil ?_
  refine AWp.seq ?_
  refine AWp.seq (AWp.region ?_)
  refine AOps.read trivial rfl (by decide) (Reader.move (.inr rfl) (ok_const rfl) (v := .lit (.int .i64 0)) rfl) ?_
  refine AOps.nil ?_
  refine AWp.block ?_
  refine AWp.loopE [0, 1, 5, 6, 7, 8, 9] [] (fun m s => ∃ (i : Nat), m = 20 - i ∧ s = ⟨[(0, .lit (.int .i64 n)), (1, .lit (.int .u8 (zs : Int))), (5, .str (printV n.toNat)), (6, .lit (.int .i64 ((qv (printV n.toNat) : Nat) : Int))), (7, .lit (.int .i64 (qe (printV n.toNat)))), (8, .str (List.replicate i 48 ++ printV n.toNat)), (9, .lit (.int .i64 (i : Int)))], [], M⟩ ∧ (i ≤ 20)) ?_ ?_
  · exact ⟨_, 0, rfl, rfl, by omega⟩
  · rintro _ _ ⟨i, rfl, rfl, hi⟩
    have hrl : (List.replicate i (48 : UInt8) ++ printV n.toNat).length = i + (printV n.toNat).length := by simp
    refine AWp.seq ?_
    refine AWp.seq (AWp.region ?_)
    refine AOps.read trivial rfl (by decide) (Reader.move (.inl rfl) (ok_const rfl) (v := .lit (.int .i64 (i : Int))) rfl) ?_
    refine AOps.read trivial rfl (by decide) (Reader.move (.inl rfl) (ok_const rfl) (v := .lit (.int .u8 (zs : Int))) rfl) ?_
    refine AOps.read trivial rfl (by decide) (Reader.rem rfl rfl rfl (by decide) (c := ((zs % 20 : Nat) : Int)) (by first | rfl | exact nat_rem _ _)) ?_
    refine AOps.read trivial rfl (by decide) (Reader.conv rfl Tryd.underlying5 Tryd.underlying3 (by simp) rfl (c := ((zs % 20 : Nat) : Int)) (by first | exact IntWalk.i64_in _ (by omega) | exact IntWalk.i64_in _ (by constructor <;> omega) | (simp only [];omega))) ?_
    refine AOps.read trivial rfl (by decide) (Reader.int rfl rfl rfl (r := .bool (decide ((i : Int) < ((zs % 20 : Nat) : Int)))) rfl) ?_
    refine AOps.nil ?_
    refine AWp.cond (b := decide ((i : Int) < ((zs % 20 : Nat) : Int))) rfl (fun h1 => ?_) (fun h1 => ?_)
    · skip
      have h1' : i < (zs % 20) := (by have hh := of_decide_eq_true h1; omega)
      clear h1
      refine AWp.skip ?_
      refine AWp.seq ?_
      refine AWp.block ?_
      refine AWp.region ?_
      refine AOps.read trivial rfl (by decide) (Reader.move (.inl rfl) (ok_const rfl) (v := .str (List.replicate i 48 ++ printV n.toNat)) rfl) ?_
      refine AOps.read trivial rfl (by decide) (Reader.cat rfl rfl rfl (by first | omega | (simp only [List.length_append, List.length_cons, List.length_nil]; omega) | (simp; omega)) (c := [48] ++ (List.replicate i 48 ++ printV n.toNat)) rfl) ?_
      refine AOps.read trivial rfl (by decide) (Reader.move (.inr rfl) (ok_const rfl) (v := .str ([48] ++ (List.replicate i 48 ++ printV n.toNat))) rfl) ?_
      refine AOps.nil ?_
      refine AWp.region ?_
      refine AOps.read trivial rfl (by decide) (Reader.move (.inl rfl) (ok_const rfl) (v := .lit (.int .i64 (i : Int))) rfl) ?_
      refine AOps.read trivial rfl (by decide) (Reader.sum rfl rfl rfl (m := (i : Int) + 1) (c := ((i + 1 : Nat) : Int)) rfl (by first | exact IntWalk.i64_in _ (by omega) | exact IntWalk.i64_in _ (by constructor <;> omega) | (simp only [];omega))) ?_
      refine AOps.read trivial rfl (by decide) (Reader.move (.inr rfl) (ok_const rfl) (v := .lit (.int .i64 ((i + 1 : Nat) : Int))) rfl) ?_
      refine AOps.nil ?_
      exact ⟨_, by omega, i + 1, rfl, rfl, by omega⟩
    · skip
      have h1' : ¬ (i < (zs % 20)) := (by have hh := of_decide_eq_false h1; omega)
      clear h1
      refine AWp.exit ?_
      refine AWp.seq (AWp.region ?_)
      refine AOps.read trivial rfl (by decide) (Reader.move (.inl rfl) (ok_const rfl) (v := .str (List.replicate i 48 ++ printV n.toNat)) rfl) ?_
      refine AOps.call (args := [.str (List.replicate i 48 ++ printV n.toNat)]) trivial rfl (by decide) rfl rfl Tryd.call9 (args_ok rfl) rfl (by intro j x v hx hv; match j, hx, hv with | 0, hx, hv => cases hx; cases hv; exact .inl ⟨rfl, rfl⟩ | _ + 1, hx, hv => cases hx) (Read_any (List.replicate i 48 ++ printV n.toNat) (by first | omega | (rw [hrl]; omega)) M) ?_
      rintro _ _ ⟨rfl, rfl⟩
      refine AOps.read trivial rfl (by decide) (Reader.move (.inl rfl) (ok_const rfl) (v := .tuple [.lit (.int .i64 ((qv (List.replicate i 48 ++ printV n.toNat) : Nat) : Int)), .lit (.int .i64 (qe (List.replicate i 48 ++ printV n.toNat)))]) rfl) ?_
      refine AOps.read trivial rfl (by decide) (Reader.extract (v := .lit (.int .i64 ((qv (List.replicate i 48 ++ printV n.toNat) : Nat) : Int))) rfl rfl rfl rfl) ?_
      refine AOps.read trivial rfl (by decide) (Reader.extract (v := .lit (.int .i64 (qe (List.replicate i 48 ++ printV n.toNat)))) rfl rfl rfl rfl) ?_
      refine AOps.read trivial rfl (by decide) (Reader.move (.inr rfl) (ok_const rfl) (v := .lit (.int .i64 ((qv (List.replicate i 48 ++ printV n.toNat) : Nat) : Int))) rfl) ?_
      refine AOps.read trivial rfl (by decide) (Reader.move (.inr rfl) (ok_const rfl) (v := .lit (.int .i64 (qe (List.replicate i 48 ++ printV n.toNat)))) rfl) ?_
      refine AOps.nil ?_
      refine AWp.seq ?_
      refine AWp.seq (AWp.region ?_)
      refine AOps.read trivial rfl (by decide) (Reader.move (.inl rfl) (ok_const rfl) (v := .lit (.int .i64 n)) rfl) ?_
      refine AOps.read trivial rfl (by decide) (Reader.int rfl rfl rfl (r := .bool (decide (n < 0))) rfl) ?_
      refine AOps.nil ?_
      refine AWp.cond (b := decide (n < 0)) rfl (fun h2 => ?_) (fun h2 => ?_)
      · skip
        have h2' : n < 0 := (by have hh := of_decide_eq_true h2; omega)
        clear h2
        refine AWp.regionJ [4, 0, 1, 5, 6, 7, 8, 9, 26, 10, 11, 37] [] (fun z => ⟨(4, .lit (.bool z)) :: [(0, .lit (.int .i64 n)), (1, .lit (.int .u8 (zs : Int))), (5, .str (printV n.toNat)), (6, .lit (.int .i64 ((qv (printV n.toNat) : Nat) : Int))), (7, .lit (.int .i64 (qe (printV n.toNat)))), (8, .str (List.replicate i 48 ++ printV n.toNat)), (9, .lit (.int .i64 (i : Int))), (26, .lit (.bool (decide ((i : Int) < ((zs % 20 : Nat) : Int))))), (10, .lit (.int .i64 ((qv (List.replicate i 48 ++ printV n.toNat) : Nat) : Int))), (11, .lit (.int .i64 (qe (List.replicate i 48 ++ printV n.toNat)))), (37, .lit (.bool (decide (n < 0))))], [], M⟩) (z := bif ((printV n.toNat) == [48]) then (((qv (printV n.toNat) : Nat) : Int) == 0) else false) ?_ ?_
        · skip
          refine AOps.read trivial rfl (by decide) (Reader.move (.inl rfl) (ok_const rfl) (v := .str (printV n.toNat)) rfl) ?_
          refine AOps.read trivial rfl (by decide) (Reader.strs rfl rfl rfl (r := (printV n.toNat) == [48]) rfl) ?_
          refine AOps.read trivial rfl (by decide) (Reader.move (.inl rfl) (ok_const rfl) (v := .lit (.bool ((printV n.toNat) == [48]))) rfl) ?_
          refine AOps.splitJ (t := 40) (b := (printV n.toNat) == [48]) (x := (((qv (printV n.toNat) : Nat) : Int) == 0)) (y := false) rfl (fun h3 => ?_) (fun h3 => ?_)
          · skip
            have h3' : (printV n.toNat) = [48] := (eq_of_beq h3)
            clear h3
            refine AOps.read ⟨40, rfl, rfl⟩ rfl (by decide) (Reader.move (.inl rfl) (ok_const rfl) (v := .lit (.int .i64 ((qv (printV n.toNat) : Nat) : Int))) rfl) ?_
            refine AOps.read ⟨40, rfl, rfl⟩ rfl (by decide) (Reader.int rfl rfl rfl (r := .bool (((qv (printV n.toNat) : Nat) : Int) == 0)) rfl) ?_
            refine AOps.read trivial rfl (by decide) (Reader.pick rfl (b := true) rfl (ok_const rfl) (ok_const rfl) (v := .lit (.bool (((qv (printV n.toNat) : Nat) : Int) == 0))) rfl) ?_
            refine AOps.read trivial rfl (by decide) (Reader.move (.inr rfl) (ok_const rfl) (v := .lit (.bool (((qv (printV n.toNat) : Nat) : Int) == 0))) rfl) ?_
            exact AOps.nil rfl
          · skip
            have h3' : ¬ ((printV n.toNat) = [48]) := (beq_eq_false_iff_ne.1 h3)
            clear h3
            refine AOps.skip ⟨2, true, 40, _, rfl, rfl, rfl, by simp⟩ rfl (by decide) ?_
            refine AOps.skip ⟨2, true, 40, _, rfl, rfl, rfl, by simp⟩ rfl (by decide) ?_
            refine AOps.read trivial rfl (by decide) (Reader.pick rfl (b := false) rfl (ok_const rfl) (ok_const rfl) (v := .lit (.bool false)) rfl) ?_
            refine AOps.read trivial rfl (by decide) (Reader.move (.inr rfl) (ok_const rfl) (v := .lit (.bool false)) rfl) ?_
            exact AOps.nil rfl
        refine AWp.ret ?_
        exact ⟨.inl rfl, _, ResOf.one 4 (.lit (.bool (bif ((printV n.toNat) == [48]) then (((qv (printV n.toNat) : Nat) : Int) == 0) else false))) rfl rfl, ⟨congrArg (fun b => AV.lit (.bool b)) (back_neg (by assumption)), rfl⟩⟩
      · skip
        have h2' : ¬ (n < 0) := (by have hh := of_decide_eq_false h2; omega)
        clear h2
        refine AWp.skip ?_
        refine AWp.regionJ [4, 0, 1, 5, 6, 7, 8, 9, 26, 10, 11, 37] [] (fun z => ⟨(4, .lit (.bool z)) :: [(0, .lit (.int .i64 n)), (1, .lit (.int .u8 (zs : Int))), (5, .str (printV n.toNat)), (6, .lit (.int .i64 ((qv (printV n.toNat) : Nat) : Int))), (7, .lit (.int .i64 (qe (printV n.toNat)))), (8, .str (List.replicate i 48 ++ printV n.toNat)), (9, .lit (.int .i64 (i : Int))), (26, .lit (.bool (decide ((i : Int) < ((zs % 20 : Nat) : Int))))), (10, .lit (.int .i64 ((qv (List.replicate i 48 ++ printV n.toNat) : Nat) : Int))), (11, .lit (.int .i64 (qe (List.replicate i 48 ++ printV n.toNat)))), (37, .lit (.bool (decide (n < 0))))], [], M⟩) (z := bif ((qe (printV n.toNat)) == 0) then (bif (((qv (printV n.toNat) : Nat) : Int) == n) then (bif ((qe (List.replicate i 48 ++ printV n.toNat)) == 0) then (bif (((qv (List.replicate i 48 ++ printV n.toNat) : Nat) : Int) == n) then ((printV n.toNat) == (printV n.toNat)) else false) else false) else false) else false) ?_ ?_
        · skip
          refine AOps.read trivial rfl (by decide) (Reader.move (.inl rfl) (ok_const rfl) (v := .lit (.int .i64 (qe (printV n.toNat)))) rfl) ?_
          refine AOps.read trivial rfl (by decide) (Reader.int rfl rfl rfl (r := .bool ((qe (printV n.toNat)) == 0)) rfl) ?_
          refine AOps.read trivial rfl (by decide) (Reader.move (.inl rfl) (ok_const rfl) (v := .lit (.bool ((qe (printV n.toNat)) == 0))) rfl) ?_
          refine AOps.splitJ (t := 46) (b := (qe (printV n.toNat)) == 0) (x := (bif (((qv (printV n.toNat) : Nat) : Int) == n) then (bif ((qe (List.replicate i 48 ++ printV n.toNat)) == 0) then (bif (((qv (List.replicate i 48 ++ printV n.toNat) : Nat) : Int) == n) then ((printV n.toNat) == (printV n.toNat)) else false) else false) else false)) (y := false) rfl (fun h4 => ?_) (fun h4 => ?_)
          · skip
            have h4' : (qe (printV n.toNat)) = 0 := (by have hh := eq_of_beq h4; omega)
            clear h4
            refine AOps.read ⟨46, rfl, rfl⟩ rfl (by decide) (Reader.move (.inl rfl) (ok_const rfl) (v := .lit (.int .i64 ((qv (printV n.toNat) : Nat) : Int))) rfl) ?_
            refine AOps.read ⟨46, rfl, rfl⟩ rfl (by decide) (Reader.move (.inl rfl) (ok_const rfl) (v := .lit (.int .i64 n)) rfl) ?_
            refine AOps.read ⟨46, rfl, rfl⟩ rfl (by decide) (Reader.int rfl rfl rfl (r := .bool (((qv (printV n.toNat) : Nat) : Int) == n)) rfl) ?_
            refine AOps.read trivial rfl (by decide) (Reader.pick rfl (b := true) rfl (ok_const rfl) (ok_const rfl) (v := .lit (.bool (((qv (printV n.toNat) : Nat) : Int) == n))) rfl) ?_
            refine AOps.read trivial rfl (by decide) (Reader.move (.inl rfl) (ok_const rfl) (v := .lit (.bool (((qv (printV n.toNat) : Nat) : Int) == n))) rfl) ?_
            refine AOps.splitJ (t := 51) (b := ((qv (printV n.toNat) : Nat) : Int) == n) (x := (bif ((qe (List.replicate i 48 ++ printV n.toNat)) == 0) then (bif (((qv (List.replicate i 48 ++ printV n.toNat) : Nat) : Int) == n) then ((printV n.toNat) == (printV n.toNat)) else false) else false)) (y := false) rfl (fun h5 => ?_) (fun h5 => ?_)
            · skip
              have h5' : ((qv (printV n.toNat) : Nat) : Int) = n := (by have hh := eq_of_beq h5; omega)
              clear h5
              refine AOps.read ⟨51, rfl, rfl⟩ rfl (by decide) (Reader.move (.inl rfl) (ok_const rfl) (v := .lit (.int .i64 (qe (List.replicate i 48 ++ printV n.toNat)))) rfl) ?_
              refine AOps.read ⟨51, rfl, rfl⟩ rfl (by decide) (Reader.int rfl rfl rfl (r := .bool ((qe (List.replicate i 48 ++ printV n.toNat)) == 0)) rfl) ?_
              refine AOps.read trivial rfl (by decide) (Reader.pick rfl (b := true) rfl (ok_const rfl) (ok_const rfl) (v := .lit (.bool ((qe (List.replicate i 48 ++ printV n.toNat)) == 0))) rfl) ?_
              refine AOps.read trivial rfl (by decide) (Reader.move (.inl rfl) (ok_const rfl) (v := .lit (.bool ((qe (List.replicate i 48 ++ printV n.toNat)) == 0))) rfl) ?_
              refine AOps.splitJ (t := 55) (b := (qe (List.replicate i 48 ++ printV n.toNat)) == 0) (x := (bif (((qv (List.replicate i 48 ++ printV n.toNat) : Nat) : Int) == n) then ((printV n.toNat) == (printV n.toNat)) else false)) (y := false) rfl (fun h6 => ?_) (fun h6 => ?_)
              · skip
                have h6' : (qe (List.replicate i 48 ++ printV n.toNat)) = 0 := (by have hh := eq_of_beq h6; omega)
                clear h6
                refine AOps.read ⟨55, rfl, rfl⟩ rfl (by decide) (Reader.move (.inl rfl) (ok_const rfl) (v := .lit (.int .i64 ((qv (List.replicate i 48 ++ printV n.toNat) : Nat) : Int))) rfl) ?_
                refine AOps.read ⟨55, rfl, rfl⟩ rfl (by decide) (Reader.move (.inl rfl) (ok_const rfl) (v := .lit (.int .i64 n)) rfl) ?_
                refine AOps.read ⟨55, rfl, rfl⟩ rfl (by decide) (Reader.int rfl rfl rfl (r := .bool (((qv (List.replicate i 48 ++ printV n.toNat) : Nat) : Int) == n)) rfl) ?_
                refine AOps.read trivial rfl (by decide) (Reader.pick rfl (b := true) rfl (ok_const rfl) (ok_const rfl) (v := .lit (.bool (((qv (List.replicate i 48 ++ printV n.toNat) : Nat) : Int) == n))) rfl) ?_
                refine AOps.read trivial rfl (by decide) (Reader.move (.inl rfl) (ok_const rfl) (v := .lit (.bool (((qv (List.replicate i 48 ++ printV n.toNat) : Nat) : Int) == n))) rfl) ?_
                refine AOps.splitJ (t := 60) (b := ((qv (List.replicate i 48 ++ printV n.toNat) : Nat) : Int) == n) (x := ((printV n.toNat) == (printV n.toNat))) (y := false) rfl (fun h7 => ?_) (fun h7 => ?_)
                · skip
                  have h7' : ((qv (List.replicate i 48 ++ printV n.toNat) : Nat) : Int) = n := (by have hh := eq_of_beq h7; omega)
                  clear h7
                  refine AOps.read ⟨60, rfl, rfl⟩ rfl (by decide) (Reader.move (.inl rfl) (ok_const rfl) (v := .str (printV n.toNat)) rfl) ?_
                  refine AOps.read ⟨60, rfl, rfl⟩ rfl (by decide) (Reader.move (.inl rfl) (ok_const rfl) (v := .lit (.int .i64 n)) rfl) ?_
                  refine AOps.call (args := [.lit (.int .i64 n)]) ⟨60, rfl, rfl⟩ rfl (by decide) rfl rfl Tryd.call14 (args_ok rfl) rfl (by intro j x v hx hv; match j, hx, hv with | 0, hx, hv => cases hx; cases hv; exact .inl ⟨rfl, rfl⟩ | _ + 1, hx, hv => cases hx) (rPrint_int n (by omega) hn M) ?_
                  rintro _ _ ⟨rfl, rfl⟩
                  refine AOps.read ⟨60, rfl, rfl⟩ rfl (by decide) (Reader.strs rfl rfl rfl (r := (printV n.toNat) == (printV n.toNat)) rfl) ?_
                  refine AOps.read trivial rfl (by decide) (Reader.pick rfl (b := true) rfl (ok_const rfl) (ok_const rfl) (v := .lit (.bool ((printV n.toNat) == (printV n.toNat)))) rfl) ?_
                  refine AOps.read trivial rfl (by decide) (Reader.move (.inr rfl) (ok_const rfl) (v := .lit (.bool ((printV n.toNat) == (printV n.toNat)))) rfl) ?_
                  exact AOps.nil rfl
                · skip
                  have h7' : ¬ (((qv (List.replicate i 48 ++ printV n.toNat) : Nat) : Int) = n) := (by have hh := beq_eq_false_iff_ne.1 h7; omega)
                  clear h7
                  refine AOps.skip ⟨16, true, 60, _, rfl, rfl, rfl, by simp⟩ rfl (by decide) ?_
                  refine AOps.skip ⟨16, true, 60, _, rfl, rfl, rfl, by simp⟩ rfl (by decide) ?_
                  refine AOps.skip ⟨16, true, 60, _, rfl, rfl, rfl, by simp⟩ rfl (by decide) ?_
                  refine AOps.skip ⟨16, true, 60, _, rfl, rfl, rfl, by simp⟩ rfl (by decide) ?_
                  refine AOps.read trivial rfl (by decide) (Reader.pick rfl (b := false) rfl (ok_const rfl) (ok_const rfl) (v := .lit (.bool false)) rfl) ?_
                  refine AOps.read trivial rfl (by decide) (Reader.move (.inr rfl) (ok_const rfl) (v := .lit (.bool false)) rfl) ?_
                  exact AOps.nil rfl
              · skip
                have h6' : ¬ ((qe (List.replicate i 48 ++ printV n.toNat)) = 0) := (by have hh := beq_eq_false_iff_ne.1 h6; omega)
                clear h6
                refine AOps.skip ⟨11, true, 55, _, rfl, rfl, rfl, by simp⟩ rfl (by decide) ?_
                refine AOps.skip ⟨11, true, 55, _, rfl, rfl, rfl, by simp⟩ rfl (by decide) ?_
                refine AOps.skip ⟨11, true, 55, _, rfl, rfl, rfl, by simp⟩ rfl (by decide) ?_
                refine AOps.read trivial rfl (by decide) (Reader.pick rfl (b := false) rfl (ok_const rfl) (ok_const rfl) (v := .lit (.bool false)) rfl) ?_
                refine AOps.read trivial rfl (by decide) (Reader.move (.inl rfl) (ok_const rfl) (v := .lit (.bool false)) rfl) ?_
                refine AOps.skip ⟨16, true, 60, _, rfl, rfl, rfl, by simp⟩ rfl (by decide) ?_
                refine AOps.skip ⟨16, true, 60, _, rfl, rfl, rfl, by simp⟩ rfl (by decide) ?_
                refine AOps.skip ⟨16, true, 60, _, rfl, rfl, rfl, by simp⟩ rfl (by decide) ?_
                refine AOps.skip ⟨16, true, 60, _, rfl, rfl, rfl, by simp⟩ rfl (by decide) ?_
                refine AOps.read trivial rfl (by decide) (Reader.pick rfl (b := false) rfl (ok_const rfl) (ok_const rfl) (v := .lit (.bool false)) rfl) ?_
                refine AOps.read trivial rfl (by decide) (Reader.move (.inr rfl) (ok_const rfl) (v := .lit (.bool false)) rfl) ?_
                exact AOps.nil rfl
            · skip
              have h5' : ¬ (((qv (printV n.toNat) : Nat) : Int) = n) := (by have hh := beq_eq_false_iff_ne.1 h5; omega)
              clear h5
              refine AOps.skip ⟨7, true, 51, _, rfl, rfl, rfl, by simp⟩ rfl (by decide) ?_
              refine AOps.skip ⟨7, true, 51, _, rfl, rfl, rfl, by simp⟩ rfl (by decide) ?_
              refine AOps.read trivial rfl (by decide) (Reader.pick rfl (b := false) rfl (ok_const rfl) (ok_const rfl) (v := .lit (.bool false)) rfl) ?_
              refine AOps.read trivial rfl (by decide) (Reader.move (.inl rfl) (ok_const rfl) (v := .lit (.bool false)) rfl) ?_
              refine AOps.skip ⟨11, true, 55, _, rfl, rfl, rfl, by simp⟩ rfl (by decide) ?_
              refine AOps.skip ⟨11, true, 55, _, rfl, rfl, rfl, by simp⟩ rfl (by decide) ?_
              refine AOps.skip ⟨11, true, 55, _, rfl, rfl, rfl, by simp⟩ rfl (by decide) ?_
              refine AOps.read trivial rfl (by decide) (Reader.pick rfl (b := false) rfl (ok_const rfl) (ok_const rfl) (v := .lit (.bool false)) rfl) ?_
              refine AOps.read trivial rfl (by decide) (Reader.move (.inl rfl) (ok_const rfl) (v := .lit (.bool false)) rfl) ?_
              refine AOps.skip ⟨16, true, 60, _, rfl, rfl, rfl, by simp⟩ rfl (by decide) ?_
              refine AOps.skip ⟨16, true, 60, _, rfl, rfl, rfl, by simp⟩ rfl (by decide) ?_
              refine AOps.skip ⟨16, true, 60, _, rfl, rfl, rfl, by simp⟩ rfl (by decide) ?_
              refine AOps.skip ⟨16, true, 60, _, rfl, rfl, rfl, by simp⟩ rfl (by decide) ?_
              refine AOps.read trivial rfl (by decide) (Reader.pick rfl (b := false) rfl (ok_const rfl) (ok_const rfl) (v := .lit (.bool false)) rfl) ?_
              refine AOps.read trivial rfl (by decide) (Reader.move (.inr rfl) (ok_const rfl) (v := .lit (.bool false)) rfl) ?_
              exact AOps.nil rfl
          · skip
            have h4' : ¬ ((qe (printV n.toNat)) = 0) := (by have hh := beq_eq_false_iff_ne.1 h4; omega)
            clear h4
            refine AOps.skip ⟨2, true, 46, _, rfl, rfl, rfl, by simp⟩ rfl (by decide) ?_
            refine AOps.skip ⟨2, true, 46, _, rfl, rfl, rfl, by simp⟩ rfl (by decide) ?_
            refine AOps.skip ⟨2, true, 46, _, rfl, rfl, rfl, by simp⟩ rfl (by decide) ?_
            refine AOps.read trivial rfl (by decide) (Reader.pick rfl (b := false) rfl (ok_const rfl) (ok_const rfl) (v := .lit (.bool false)) rfl) ?_
            refine AOps.read trivial rfl (by decide) (Reader.move (.inl rfl) (ok_const rfl) (v := .lit (.bool false)) rfl) ?_
            refine AOps.skip ⟨7, true, 51, _, rfl, rfl, rfl, by simp⟩ rfl (by decide) ?_
            refine AOps.skip ⟨7, true, 51, _, rfl, rfl, rfl, by simp⟩ rfl (by decide) ?_
            refine AOps.read trivial rfl (by decide) (Reader.pick rfl (b := false) rfl (ok_const rfl) (ok_const rfl) (v := .lit (.bool false)) rfl) ?_
            refine AOps.read trivial rfl (by decide) (Reader.move (.inl rfl) (ok_const rfl) (v := .lit (.bool false)) rfl) ?_
            refine AOps.skip ⟨11, true, 55, _, rfl, rfl, rfl, by simp⟩ rfl (by decide) ?_
            refine AOps.skip ⟨11, true, 55, _, rfl, rfl, rfl, by simp⟩ rfl (by decide) ?_
            refine AOps.skip ⟨11, true, 55, _, rfl, rfl, rfl, by simp⟩ rfl (by decide) ?_
            refine AOps.read trivial rfl (by decide) (Reader.pick rfl (b := false) rfl (ok_const rfl) (ok_const rfl) (v := .lit (.bool false)) rfl) ?_
            refine AOps.read trivial rfl (by decide) (Reader.move (.inl rfl) (ok_const rfl) (v := .lit (.bool false)) rfl) ?_
            refine AOps.skip ⟨16, true, 60, _, rfl, rfl, rfl, by simp⟩ rfl (by decide) ?_
            refine AOps.skip ⟨16, true, 60, _, rfl, rfl, rfl, by simp⟩ rfl (by decide) ?_
            refine AOps.skip ⟨16, true, 60, _, rfl, rfl, rfl, by simp⟩ rfl (by decide) ?_
            refine AOps.skip ⟨16, true, 60, _, rfl, rfl, rfl, by simp⟩ rfl (by decide) ?_
            refine AOps.read trivial rfl (by decide) (Reader.pick rfl (b := false) rfl (ok_const rfl) (ok_const rfl) (v := .lit (.bool false)) rfl) ?_
            refine AOps.read trivial rfl (by decide) (Reader.move (.inr rfl) (ok_const rfl) (v := .lit (.bool false)) rfl) ?_
            exact AOps.nil rfl
        refine AWp.ret ?_
        exact ⟨.inl rfl, _, ResOf.one 4 (.lit (.bool (bif ((qe (printV n.toNat)) == 0) then (bif (((qv (printV n.toNat) : Nat) : Int) == n) then (bif ((qe (List.replicate i 48 ++ printV n.toNat)) == 0) then (bif (((qv (List.replicate i 48 ++ printV n.toNat) : Nat) : Int) == n) then ((printV n.toNat) == (printV n.toNat)) else false) else false) else false) else false))) rfl rfl, ⟨congrArg (fun b => AV.lit (.bool b)) (back_ok hn (by omega)), rfl⟩⟩

set_option maxRecDepth 20000 in
theorem QuantUnits_any (n i : Nat) (hn : n ≤ 4294967295) (hi : i ≤ 255) (M : Nat → Option (List AV)) : ACall Tryd.prog 5 [.lit (.int .u32 (n : Int)), .lit (.int .u8 (i : Int))] M (fun r M' => r = .lit (.bool true) ∧ M = M') := by
  have hd1 := digs_len20 n (by omega)
  have hd2 := digs_len20 (n % 8388608) (by omega)
  have hnl := name_len (i % 8)
  have hn0 := name_len 0
  have hul := unitOf_le (namesL.getD (i % 8) [])
  have hmu := mu_bound (n := n) hul
  refine ACall.of Tryd.func5 rfl (n := 147) rfl rfl rfl ?_
  refine AWp.seq (AWp.region ?_)
  refine AOps.read trivial rfl (by decide) (Reader.move (.inr rfl) (ok_const rfl) (v := .lit (.bool false)) rfl) ?_
  refine AOps.nil ?_
  refine AWp.seq ?_
  refine AWp.seq (AWp.region ?_)
  refine AOps.call (args := []) trivial rfl (by decide) rfl rfl Tryd.call8 (args_ok rfl) rfl (by intro j x v hx hv; match j, hx, hv with  | _ + 0, hx, hv => cases hx) (awake_any M) ?_
  rintro _ _ ⟨rfl, rfl⟩
  refine AOps.read trivial rfl (by decide) (Reader.not (b := true) rfl rfl) ?_
  refine AOps.nil ?_
  refine AWp.cond (b := false) rfl (fun hx => by cases hx) (fun hx => ?_)
  refine AWp.skip ?_
  refine AWp.seq (AWp.region ?_)
  refine AOps.call (args := []) trivial rfl (by decide) rfl rfl Tryd.call15 (args_ok rfl) rfl (by intro j x v hx hv; match j, hx, hv with  | _ + 0, hx, hv => cases hx) (Units_any M) ?_
  rintro _ _ ⟨rfl, rfl⟩
  refine AOps.steal trivial rfl (by decide) (by decide) (.inr rfl) (v := .list true 9 (namesL.map AV.str)) rfl ?_
  refine AOps.nil ?_
  refine AWp.seq (AWp.region ?_)
  refine AOps.call (args := []) trivial rfl (by decide) rfl rfl Tryd.call16 (args_ok rfl) rfl (by intro j x v hx hv; match j, hx, hv with  | _ + 0, hx, hv => cases hx) (names_any M) ?_
  rintro _ _ ⟨rfl, rfl⟩
  refine AOps.steal trivial rfl (by decide) (by decide) (.inr rfl) (v := .list true 9 (namesL.map AV.str)) rfl ?_
  refine AOps.nil ?_
  refine AWp.seq (AWp.region ?_)
  refine AOps.read trivial rfl (by decide) (Reader.move (.inl rfl) (ok_const rfl) (v := .lit (.int .u8 (i : Int))) rfl) ?_
  refine AOps.read trivial rfl (by decide) (Reader.rem rfl rfl rfl (by decide) (c := ((i % 8 : Nat) : Int)) (by first | rfl | exact nat_rem _ _)) ?_
  refine AOps.read trivial rfl (by decide) (Reader.conv rfl Tryd.underlying5 Tryd.underlying3 (by simp) rfl (c := ((i % 8 : Nat) : Int)) (by first | exact IntWalk.i64_in _ (by omega) | exact IntWalk.i64_in _ (by constructor <;> omega) | (simp only [];omega))) ?_
  refine AOps.read trivial rfl (by decide) (Reader.move (.inr rfl) (ok_const rfl) (v := .lit (.int .i64 ((i % 8 : Nat) : Int))) rfl) ?_
  refine AOps.nil ?_
  refine AWp.seq ?_
  refine AWp.seq (AWp.region ?_)
  refine AOps.read trivial rfl (by decide) (Reader.move (.inr rfl) (ok_const rfl) (v := .lit (.int .i64 0)) rfl) ?_
  refine AOps.nil ?_
  refine AWp.block ?_
  refine AWp.loopE [0, 1, 5, 6, 7, 8] [] (fun m s => ∃ (j : Nat), m = 8 - j ∧ s = ⟨[(0, .lit (.int .u32 (n : Int))), (1, .lit (.int .u8 (i : Int))), (5, .list true 9 (namesL.map AV.str)), (6, .list true 9 (namesL.map AV.str)), (7, .lit (.int .i64 ((i % 8 : Nat) : Int))), (8, .lit (.int .i64 (j : Int)))], [], M⟩ ∧ (j ≤ 8)) ?_ ?_
  · exact ⟨_, 0, rfl, rfl, by omega⟩
  · rintro _ _ ⟨j, rfl, rfl, hj⟩
    refine AWp.seq ?_
    refine AWp.seq (AWp.region ?_)
    refine AOps.read trivial rfl (by decide) (Reader.move (.inl rfl) (ok_const rfl) (v := .lit (.int .i64 (j : Int))) rfl) ?_
    refine AOps.read trivial rfl (by decide) (Reader.int rfl rfl rfl (r := .bool (decide ((j : Int) < 8))) rfl) ?_
    refine AOps.nil ?_
    refine AWp.cond (b := decide ((j : Int) < 8)) rfl (fun h1 => ?_) (fun h1 => ?_)
    · skip
      have h1' : j < 8 := (by have hh := of_decide_eq_true h1; omega)
      clear h1
      refine AWp.skip ?_
      refine AWp.seq ?_
      refine AWp.block ?_
      refine AWp.drawnJ [69, 0, 1, 5, 6, 7, 8, 27] [] (fun z => ⟨(69, .lit (.bool z)) :: [(0, .lit (.int .u32 (n : Int))), (1, .lit (.int .u8 (i : Int))), (5, .list true 9 (namesL.map AV.str)), (6, .list true 9 (namesL.map AV.str)), (7, .lit (.int .i64 ((i % 8 : Nat) : Int))), (8, .lit (.int .i64 (j : Int))), (27, .lit (.bool (decide ((j : Int) < 8))))], [], M⟩) (z := bif (!((namesL.getD j []) == (namesL.getD j []))) then true else (bif (((unitOf (namesL.getD j []) : Nat) : Int) != ((unitOf (namesL.getD j []) : Nat) : Int)) then true else (bif (decide ((j : Int) > 0)) then (decide (((unitOf (namesL.getD j []) : Nat) : Int) ≥ ((unitOf (namesL.getD (j - 1) []) : Nat) : Int))) else false))) (by kernel_rfl) (by kernel_rfl) ?_ ?_
      · skip
        refine AOpsE.read trivial rfl (by decide) (Reader.move (.inl rfl) (ok_const rfl) (v := .list false 9 (namesL.map AV.str)) rfl) ?_
        refine AOpsE.read trivial rfl (by decide) (Reader.move (.inl rfl) (ok_const rfl) (v := .lit (.int .i64 (j : Int))) rfl) ?_
        refine AOpsE.read trivial rfl (by decide) (Reader.elemAddr (m := j) rfl Tryd.underlying33 sizeOf_9 rfl rfl rfl (e := .str (namesL.getD j [])) (name_at (by omega))) ?_
        refine AOpsE.read trivial rfl (by decide) (Reader.loadE rfl Tryd.underlying9 sizeOf_9 rfl (v := .str (namesL.getD j [])) rfl rfl) ?_
        refine AOpsE.read trivial rfl (by decide) (Reader.move (.inl rfl) (ok_const rfl) (v := .list false 9 (namesL.map AV.str)) rfl) ?_
        refine AOpsE.read trivial rfl (by decide) (Reader.move (.inl rfl) (ok_const rfl) (v := .lit (.int .i64 (j : Int))) rfl) ?_
        refine AOpsE.read trivial rfl (by decide) (Reader.elemAddr (m := j) rfl Tryd.underlying33 sizeOf_9 rfl rfl rfl (e := .str (namesL.getD j [])) (name_at (by omega))) ?_
        refine AOpsE.read trivial rfl (by decide) (Reader.loadE rfl Tryd.underlying9 sizeOf_9 rfl (v := .str (namesL.getD j [])) rfl rfl) ?_
        refine AOpsE.read trivial rfl (by decide) (Reader.strs rfl rfl rfl (r := !((namesL.getD j []) == (namesL.getD j []))) rfl) ?_
        refine AOpsE.read trivial rfl (by decide) (Reader.move (.inl rfl) (ok_const rfl) (v := .lit (.bool (!((namesL.getD j []) == (namesL.getD j []))))) rfl) ?_
        refine AOpsE.splitJ (t := 39) (b := !((namesL.getD j []) == (namesL.getD j []))) (x := true) (y := (bif (((unitOf (namesL.getD j []) : Nat) : Int) != ((unitOf (namesL.getD j []) : Nat) : Int)) then true else (bif (decide ((j : Int) > 0)) then (decide (((unitOf (namesL.getD j []) : Nat) : Int) ≥ ((unitOf (namesL.getD (j - 1) []) : Nat) : Int))) else false))) rfl (fun h2 => ?_) (fun h2 => ?_)
        · skip
          have h2' : ¬ ((namesL.getD j []) = (namesL.getD j [])) := (beq_eq_false_iff_ne.1 (bnot_t h2))
          clear h2
          refine AOpsE.skip ⟨9, false, 39, _, rfl, rfl, rfl, by simp⟩ rfl (by decide) ?_
          refine AOpsE.skip ⟨9, false, 39, _, rfl, rfl, rfl, by simp⟩ rfl (by decide) ?_
          refine AOpsE.skip ⟨9, false, 39, _, rfl, rfl, rfl, by simp⟩ rfl (by decide) ?_
          refine AOpsE.skip ⟨9, false, 39, _, rfl, rfl, rfl, by simp⟩ rfl (by decide) ?_
          refine AOpsE.skip ⟨9, false, 39, _, rfl, rfl, rfl, by simp⟩ rfl (by decide) ?_
          refine AOpsE.skip ⟨9, false, 39, _, rfl, rfl, rfl, by simp⟩ rfl (by decide) ?_
          refine AOpsE.skip ⟨9, false, 39, _, rfl, rfl, rfl, by simp⟩ rfl (by decide) ?_
          refine AOpsE.skip ⟨9, false, 39, _, rfl, rfl, rfl, by simp⟩ rfl (by decide) ?_
          refine AOpsE.skip ⟨9, false, 39, _, rfl, rfl, rfl, by simp⟩ rfl (by decide) ?_
          refine AOpsE.skip ⟨9, false, 39, _, rfl, rfl, rfl, by simp⟩ rfl (by decide) ?_
          refine AOpsE.skip ⟨9, false, 39, _, rfl, rfl, rfl, by simp⟩ rfl (by decide) ?_
          refine AOpsE.read trivial rfl (by decide) (Reader.pick rfl (b := true) rfl (ok_const rfl) (ok_const rfl) (v := .lit (.bool true)) rfl) ?_
          refine AOpsE.read trivial rfl (by decide) (Reader.move (.inl rfl) (ok_const rfl) (v := .lit (.bool true)) rfl) ?_
          refine AOpsE.skip ⟨22, false, 52, _, rfl, rfl, rfl, by simp⟩ rfl (by decide) ?_
          refine AOpsE.skip ⟨22, false, 52, _, rfl, rfl, rfl, by simp⟩ rfl (by decide) ?_
          refine AOpsE.skip ⟨22, false, 52, _, rfl, rfl, rfl, by simp⟩ rfl (by decide) ?_
          refine AOpsE.skip ⟨25, true, 55, _, rfl, rfl, rfl, by simp [undef]⟩ rfl (by decide) ?_
          refine AOpsE.skip ⟨25, true, 55, _, rfl, rfl, rfl, by simp [undef]⟩ rfl (by decide) ?_
          refine AOpsE.skip ⟨25, true, 55, _, rfl, rfl, rfl, by simp [undef]⟩ rfl (by decide) ?_
          refine AOpsE.skip ⟨25, true, 55, _, rfl, rfl, rfl, by simp [undef]⟩ rfl (by decide) ?_
          refine AOpsE.skip ⟨25, true, 55, _, rfl, rfl, rfl, by simp [undef]⟩ rfl (by decide) ?_
          refine AOpsE.skip ⟨25, true, 55, _, rfl, rfl, rfl, by simp [undef]⟩ rfl (by decide) ?_
          refine AOpsE.skip ⟨25, true, 55, _, rfl, rfl, rfl, by simp [undef]⟩ rfl (by decide) ?_
          refine AOpsE.skip ⟨25, true, 55, _, rfl, rfl, rfl, by simp [undef]⟩ rfl (by decide) ?_
          refine AOpsE.skip ⟨25, true, 55, _, rfl, rfl, rfl, by simp [undef]⟩ rfl (by decide) ?_
          refine AOpsE.skip ⟨25, true, 55, _, rfl, rfl, rfl, by simp [undef]⟩ rfl (by decide) ?_
          refine AOpsE.skip ⟨25, true, 55, _, rfl, rfl, rfl, by simp [undef]⟩ rfl (by decide) ?_
          refine AOpsE.skip ⟨25, true, 55, _, rfl, rfl, rfl, by simp [undef]⟩ rfl (by decide) ?_
          refine AOpsE.skip ⟨22, false, 52, _, rfl, rfl, rfl, by simp⟩ rfl (by decide) ?_
          refine AOpsE.read trivial rfl (by decide) (Reader.pick rfl (b := true) rfl (ok_const rfl) (ok_const rfl) (v := .lit (.bool true)) rfl) ?_
          exact AOpsE.nil rfl
        · skip
          have h2' : (namesL.getD j []) = (namesL.getD j []) := (eq_of_beq (bnot_f h2))
          clear h2
          refine AOpsE.read ⟨39, rfl, rfl⟩ rfl (by decide) (Reader.move (.inl rfl) (ok_const rfl) (v := .list false 9 (namesL.map AV.str)) rfl) ?_
          refine AOpsE.read ⟨39, rfl, rfl⟩ rfl (by decide) (Reader.move (.inl rfl) (ok_const rfl) (v := .lit (.int .i64 (j : Int))) rfl) ?_
          refine AOpsE.read ⟨39, rfl, rfl⟩ rfl (by decide) (Reader.elemAddr (m := j) rfl Tryd.underlying33 sizeOf_9 rfl rfl rfl (e := .str (namesL.getD j [])) (name_at (by omega))) ?_
          refine AOpsE.read ⟨39, rfl, rfl⟩ rfl (by decide) (Reader.loadE rfl Tryd.underlying9 sizeOf_9 rfl (v := .str (namesL.getD j [])) rfl rfl) ?_
          refine AOpsE.call (args := [.str (namesL.getD j [])]) (v := .lit (.int .i64 ((unitOf (namesL.getD j []) : Nat) : Int))) ⟨39, rfl, rfl⟩ rfl (by decide) rfl rfl Tryd.call11 (args_ok rfl) rfl (by intro j x v hx hv; match j, hx, hv with | 0, hx, hv => cases hx; cases hv; exact .inl ⟨rfl, rfl⟩ | _ + 1, hx, hv => cases hx) (Unit_any (namesL.getD j []) noM) rfl ?_
          refine AOpsE.read ⟨39, rfl, rfl⟩ rfl (by decide) (Reader.move (.inl rfl) (ok_const rfl) (v := .list false 9 (namesL.map AV.str)) rfl) ?_
          refine AOpsE.read ⟨39, rfl, rfl⟩ rfl (by decide) (Reader.move (.inl rfl) (ok_const rfl) (v := .lit (.int .i64 (j : Int))) rfl) ?_
          refine AOpsE.read ⟨39, rfl, rfl⟩ rfl (by decide) (Reader.elemAddr (m := j) rfl Tryd.underlying33 sizeOf_9 rfl rfl rfl (e := .str (namesL.getD j [])) (name_at (by omega))) ?_
          refine AOpsE.read ⟨39, rfl, rfl⟩ rfl (by decide) (Reader.loadE rfl Tryd.underlying9 sizeOf_9 rfl (v := .str (namesL.getD j [])) rfl rfl) ?_
          refine AOpsE.call (args := [.str (namesL.getD j [])]) (v := .lit (.int .i64 ((unitOf (namesL.getD j []) : Nat) : Int))) ⟨39, rfl, rfl⟩ rfl (by decide) rfl rfl Tryd.call12 (args_ok rfl) rfl (by intro j x v hx hv; match j, hx, hv with | 0, hx, hv => cases hx; cases hv; exact .inl ⟨rfl, rfl⟩ | _ + 1, hx, hv => cases hx) (rUnit_any (namesL.getD j []) noM) rfl ?_
          refine AOpsE.read ⟨39, rfl, rfl⟩ rfl (by decide) (Reader.int rfl rfl rfl (r := .bool (((unitOf (namesL.getD j []) : Nat) : Int) != ((unitOf (namesL.getD j []) : Nat) : Int))) rfl) ?_
          refine AOpsE.read trivial rfl (by decide) (Reader.pick rfl (b := false) rfl (ok_const rfl) (ok_const rfl) (v := .lit (.bool (((unitOf (namesL.getD j []) : Nat) : Int) != ((unitOf (namesL.getD j []) : Nat) : Int)))) rfl) ?_
          refine AOpsE.read trivial rfl (by decide) (Reader.move (.inl rfl) (ok_const rfl) (v := .lit (.bool (((unitOf (namesL.getD j []) : Nat) : Int) != ((unitOf (namesL.getD j []) : Nat) : Int)))) rfl) ?_
          refine AOpsE.splitJ (t := 52) (b := ((unitOf (namesL.getD j []) : Nat) : Int) != ((unitOf (namesL.getD j []) : Nat) : Int)) (x := true) (y := (bif (decide ((j : Int) > 0)) then (decide (((unitOf (namesL.getD j []) : Nat) : Int) ≥ ((unitOf (namesL.getD (j - 1) []) : Nat) : Int))) else false)) rfl (fun h3 => ?_) (fun h3 => ?_)
          · skip
            have h3' : (unitOf (namesL.getD j [])) ≠ (unitOf (namesL.getD j [])) := (by have hh := bne_iff_ne.1 h3; omega)
            clear h3
            refine AOpsE.skip ⟨22, false, 52, _, rfl, rfl, rfl, by simp⟩ rfl (by decide) ?_
            refine AOpsE.skip ⟨22, false, 52, _, rfl, rfl, rfl, by simp⟩ rfl (by decide) ?_
            refine AOpsE.skip ⟨22, false, 52, _, rfl, rfl, rfl, by simp⟩ rfl (by decide) ?_
            refine AOpsE.skip ⟨25, true, 55, _, rfl, rfl, rfl, by simp [undef]⟩ rfl (by decide) ?_
            refine AOpsE.skip ⟨25, true, 55, _, rfl, rfl, rfl, by simp [undef]⟩ rfl (by decide) ?_
            refine AOpsE.skip ⟨25, true, 55, _, rfl, rfl, rfl, by simp [undef]⟩ rfl (by decide) ?_
            refine AOpsE.skip ⟨25, true, 55, _, rfl, rfl, rfl, by simp [undef]⟩ rfl (by decide) ?_
            refine AOpsE.skip ⟨25, true, 55, _, rfl, rfl, rfl, by simp [undef]⟩ rfl (by decide) ?_
            refine AOpsE.skip ⟨25, true, 55, _, rfl, rfl, rfl, by simp [undef]⟩ rfl (by decide) ?_
            refine AOpsE.skip ⟨25, true, 55, _, rfl, rfl, rfl, by simp [undef]⟩ rfl (by decide) ?_
            refine AOpsE.skip ⟨25, true, 55, _, rfl, rfl, rfl, by simp [undef]⟩ rfl (by decide) ?_
            refine AOpsE.skip ⟨25, true, 55, _, rfl, rfl, rfl, by simp [undef]⟩ rfl (by decide) ?_
            refine AOpsE.skip ⟨25, true, 55, _, rfl, rfl, rfl, by simp [undef]⟩ rfl (by decide) ?_
            refine AOpsE.skip ⟨25, true, 55, _, rfl, rfl, rfl, by simp [undef]⟩ rfl (by decide) ?_
            refine AOpsE.skip ⟨25, true, 55, _, rfl, rfl, rfl, by simp [undef]⟩ rfl (by decide) ?_
            refine AOpsE.skip ⟨22, false, 52, _, rfl, rfl, rfl, by simp⟩ rfl (by decide) ?_
            refine AOpsE.read trivial rfl (by decide) (Reader.pick rfl (b := true) rfl (ok_const rfl) (ok_const rfl) (v := .lit (.bool true)) rfl) ?_
            exact AOpsE.nil rfl
          · skip
            have h3' : ¬ ((unitOf (namesL.getD j [])) ≠ (unitOf (namesL.getD j []))) := (by have hh := bne_eq_false_iff_eq.1 h3; omega)
            clear h3
            refine AOpsE.read ⟨52, rfl, rfl⟩ rfl (by decide) (Reader.move (.inl rfl) (ok_const rfl) (v := .lit (.int .i64 (j : Int))) rfl) ?_
            refine AOpsE.read ⟨52, rfl, rfl⟩ rfl (by decide) (Reader.int rfl rfl rfl (r := .bool (decide ((j : Int) > 0))) rfl) ?_
            refine AOpsE.read ⟨52, rfl, rfl⟩ rfl (by decide) (Reader.move (.inl rfl) (ok_const rfl) (v := .lit (.bool (decide ((j : Int) > 0)))) rfl) ?_
            refine AOpsE.splitJ (t := 55) (b := decide ((j : Int) > 0)) (x := (decide (((unitOf (namesL.getD j []) : Nat) : Int) ≥ ((unitOf (namesL.getD (j - 1) []) : Nat) : Int)))) (y := false) rfl (fun h4 => ?_) (fun h4 => ?_)
            · skip
              have h4' : j > 0 := (by have hh := of_decide_eq_true h4; omega)
              clear h4
              refine AOpsE.read ⟨55, rfl, rfl⟩ rfl (by decide) (Reader.move (.inl rfl) (ok_const rfl) (v := .list false 9 (namesL.map AV.str)) rfl) ?_
              refine AOpsE.read ⟨55, rfl, rfl⟩ rfl (by decide) (Reader.move (.inl rfl) (ok_const rfl) (v := .lit (.int .i64 (j : Int))) rfl) ?_
              refine AOpsE.read ⟨55, rfl, rfl⟩ rfl (by decide) (Reader.elemAddr (m := j) rfl Tryd.underlying33 sizeOf_9 rfl rfl rfl (e := .str (namesL.getD j [])) (name_at (by omega))) ?_
              refine AOpsE.read ⟨55, rfl, rfl⟩ rfl (by decide) (Reader.loadE rfl Tryd.underlying9 sizeOf_9 rfl (v := .str (namesL.getD j [])) rfl rfl) ?_
              refine AOpsE.call (args := [.str (namesL.getD j [])]) (v := .lit (.int .i64 ((unitOf (namesL.getD j []) : Nat) : Int))) ⟨55, rfl, rfl⟩ rfl (by decide) rfl rfl Tryd.call11 (args_ok rfl) rfl (by intro j x v hx hv; match j, hx, hv with | 0, hx, hv => cases hx; cases hv; exact .inl ⟨rfl, rfl⟩ | _ + 1, hx, hv => cases hx) (Unit_any (namesL.getD j []) noM) rfl ?_
              refine AOpsE.read ⟨55, rfl, rfl⟩ rfl (by decide) (Reader.move (.inl rfl) (ok_const rfl) (v := .list false 9 (namesL.map AV.str)) rfl) ?_
              refine AOpsE.read ⟨55, rfl, rfl⟩ rfl (by decide) (Reader.move (.inl rfl) (ok_const rfl) (v := .lit (.int .i64 (j : Int))) rfl) ?_
              refine AOpsE.read ⟨55, rfl, rfl⟩ rfl (by decide) (Reader.sum rfl rfl rfl (m := (j : Int) - 1) (c := ((j - 1 : Nat) : Int)) rfl (by rw [IntWalk.i64_in _ (by omega)]; omega)) ?_
              refine AOpsE.read ⟨55, rfl, rfl⟩ rfl (by decide) (Reader.elemAddr (m := j - 1) rfl Tryd.underlying33 sizeOf_9 rfl rfl rfl (e := .str (namesL.getD (j - 1) [])) (name_at (by omega))) ?_
              refine AOpsE.read ⟨55, rfl, rfl⟩ rfl (by decide) (Reader.loadE rfl Tryd.underlying9 sizeOf_9 rfl (v := .str (namesL.getD (j - 1) [])) rfl rfl) ?_
              refine AOpsE.call (args := [.str (namesL.getD (j - 1) [])]) (v := .lit (.int .i64 ((unitOf (namesL.getD (j - 1) []) : Nat) : Int))) ⟨55, rfl, rfl⟩ rfl (by decide) rfl rfl Tryd.call11 (args_ok rfl) rfl (by intro j x v hx hv; match j, hx, hv with | 0, hx, hv => cases hx; cases hv; exact .inl ⟨rfl, rfl⟩ | _ + 1, hx, hv => cases hx) (Unit_any (namesL.getD (j - 1) []) noM) rfl ?_
              refine AOpsE.read ⟨55, rfl, rfl⟩ rfl (by decide) (Reader.int rfl rfl rfl (r := .bool (decide (((unitOf (namesL.getD j []) : Nat) : Int) ≥ ((unitOf (namesL.getD (j - 1) []) : Nat) : Int)))) rfl) ?_
              refine AOpsE.read ⟨52, rfl, rfl⟩ rfl (by decide) (Reader.pick rfl (b := true) rfl (ok_const rfl) (ok_const rfl) (v := .lit (.bool (decide (((unitOf (namesL.getD j []) : Nat) : Int) ≥ ((unitOf (namesL.getD (j - 1) []) : Nat) : Int))))) rfl) ?_
              refine AOpsE.read trivial rfl (by decide) (Reader.pick rfl (b := false) rfl (ok_const rfl) (ok_const rfl) (v := .lit (.bool (decide (((unitOf (namesL.getD j []) : Nat) : Int) ≥ ((unitOf (namesL.getD (j - 1) []) : Nat) : Int))))) rfl) ?_
              exact AOpsE.nil rfl
            · skip
              have h4' : ¬ (j > 0) := (by have hh := of_decide_eq_false h4; omega)
              clear h4
              refine AOpsE.skip ⟨25, true, 55, _, rfl, rfl, rfl, by simp⟩ rfl (by decide) ?_
              refine AOpsE.skip ⟨25, true, 55, _, rfl, rfl, rfl, by simp⟩ rfl (by decide) ?_
              refine AOpsE.skip ⟨25, true, 55, _, rfl, rfl, rfl, by simp⟩ rfl (by decide) ?_
              refine AOpsE.skip ⟨25, true, 55, _, rfl, rfl, rfl, by simp⟩ rfl (by decide) ?_
              refine AOpsE.skip ⟨25, true, 55, _, rfl, rfl, rfl, by simp⟩ rfl (by decide) ?_
              refine AOpsE.skip ⟨25, true, 55, _, rfl, rfl, rfl, by simp⟩ rfl (by decide) ?_
              refine AOpsE.skip ⟨25, true, 55, _, rfl, rfl, rfl, by simp⟩ rfl (by decide) ?_
              refine AOpsE.skip ⟨25, true, 55, _, rfl, rfl, rfl, by simp⟩ rfl (by decide) ?_
              refine AOpsE.skip ⟨25, true, 55, _, rfl, rfl, rfl, by simp⟩ rfl (by decide) ?_
              refine AOpsE.skip ⟨25, true, 55, _, rfl, rfl, rfl, by simp⟩ rfl (by decide) ?_
              refine AOpsE.skip ⟨25, true, 55, _, rfl, rfl, rfl, by simp⟩ rfl (by decide) ?_
              refine AOpsE.skip ⟨25, true, 55, _, rfl, rfl, rfl, by simp⟩ rfl (by decide) ?_
              refine AOpsE.read ⟨52, rfl, rfl⟩ rfl (by decide) (Reader.pick rfl (b := false) rfl (ok_const rfl) (ok_const rfl) (v := .lit (.bool false)) rfl) ?_
              refine AOpsE.read trivial rfl (by decide) (Reader.pick rfl (b := false) rfl (ok_const rfl) (ok_const rfl) (v := .lit (.bool false)) rfl) ?_
              exact AOpsE.nil rfl
      refine AWp.cond (b := bif (!((namesL.getD j []) == (namesL.getD j []))) then true else (bif (((unitOf (namesL.getD j []) : Nat) : Int) != ((unitOf (namesL.getD j []) : Nat) : Int)) then true else (bif (decide ((j : Int) > 0)) then (decide (((unitOf (namesL.getD j []) : Nat) : Int) ≥ ((unitOf (namesL.getD (j - 1) []) : Nat) : Int))) else false))) rfl (fun h5 => ?_) (fun h5 => ?_)
      · skip
        have h5' : False := (units_f (by omega) h5)
        clear h5
        refine AWp.seq (AWp.region ?_)
        refine AOps.read trivial rfl (by decide) (Reader.move (.inr rfl) (ok_const rfl) (v := .lit (.bool false)) rfl) ?_
        refine AOps.nil ?_
        refine AWp.ret ?_
        exact ⟨.inl rfl, _, ResOf.one 4 (.lit (.bool false)) rfl rfl, ⟨False.elim (by assumption), rfl⟩⟩
      · skip
        have h5' : True := trivial
        clear h5
        refine AWp.skip ?_
        refine AWp.region ?_
        refine AOps.read trivial rfl (by decide) (Reader.move (.inl rfl) (ok_const rfl) (v := .lit (.int .i64 (j : Int))) rfl) ?_
        refine AOps.read trivial rfl (by decide) (Reader.sum rfl rfl rfl (m := (j : Int) + 1) (c := ((j + 1 : Nat) : Int)) rfl (by first | exact IntWalk.i64_in _ (by omega) | exact IntWalk.i64_in _ (by constructor <;> omega) | (simp only [];omega))) ?_
        refine AOps.read trivial rfl (by decide) (Reader.move (.inr rfl) (ok_const rfl) (v := .lit (.int .i64 ((j + 1 : Nat) : Int))) rfl) ?_
        refine AOps.nil ?_
        exact ⟨_, by omega, j + 1, rfl, rfl, by omega⟩
    · skip
      have h1' : ¬ (j < 8) := (by have hh := of_decide_eq_false h1; omega)
      clear h1
      refine AWp.exit ?_
      refine AWp.seq (AWp.region ?_)
      refine AOps.read trivial rfl (by decide) (Reader.move (.inl rfl) (ok_const rfl) (v := .lit (.int .u32 (n : Int))) rfl) ?_
      refine AOps.read trivial rfl (by decide) (Reader.conv rfl Tryd.underlying32 Tryd.underlying3 (by simp) rfl (c := (n : Int)) (by first | exact IntWalk.i64_in _ (by omega) | exact IntWalk.i64_in _ (by constructor <;> omega) | (simp only [];omega))) ?_
      refine AOps.call (args := [.lit (.int .i64 (n : Int))]) trivial rfl (by decide) rfl rfl Tryd.call17 (args_ok rfl) rfl (by intro j x v hx hv; match j, hx, hv with | 0, hx, hv => cases hx; cases hv; exact .inl ⟨rfl, rfl⟩ | _ + 1, hx, hv => cases hx) (Digits_any n (by omega) M) ?_
      rintro _ _ ⟨rfl, rfl⟩
      refine AOps.read trivial rfl (by decide) (Reader.move (.inr rfl) (ok_const rfl) (v := .str (digs n)) rfl) ?_
      refine AOps.nil ?_
      refine AWp.seq (AWp.region ?_)
      refine AOps.read trivial rfl (by decide) (Reader.move (.inl rfl) (ok_const rfl) (v := .str (digs n)) rfl) ?_
      refine AOps.read trivial rfl (by decide) (Reader.move (.inl rfl) (ok_const rfl) (v := .list false 9 (namesL.map AV.str)) rfl) ?_
      refine AOps.read trivial rfl (by decide) (Reader.move (.inl rfl) (ok_const rfl) (v := .lit (.int .i64 ((i % 8 : Nat) : Int))) rfl) ?_
      refine AOps.read trivial rfl (by decide) (Reader.elemAddr (m := i % 8) rfl Tryd.underlying33 sizeOf_9 rfl rfl rfl (e := .str (namesL.getD (i % 8) [])) (name_at (by omega))) ?_
      refine AOps.read trivial rfl (by decide) (Reader.loadE rfl Tryd.underlying9 sizeOf_9 rfl (v := .str (namesL.getD (i % 8) [])) rfl rfl) ?_
      refine AOps.read trivial rfl (by decide) (Reader.cat rfl rfl rfl (by first | omega | (simp only [List.length_append, List.length_cons, List.length_nil]; omega) | (simp; omega)) (c := (digs n) ++ (namesL.getD (i % 8) [])) rfl) ?_
      refine AOps.call (args := [.str ((digs n) ++ (namesL.getD (i % 8) []))]) trivial rfl (by decide) rfl rfl Tryd.call9 (args_ok rfl) rfl (by intro j x v hx hv; match j, hx, hv with | 0, hx, hv => cases hx; cases hv; exact .inl ⟨rfl, rfl⟩ | _ + 1, hx, hv => cases hx) (Read_any ((digs n) ++ (namesL.getD (i % 8) [])) (by first | assumption | omega | (simp only [List.length_append, List.length_cons, List.length_nil]; omega)) M) ?_
      rintro _ _ ⟨rfl, rfl⟩
      refine AOps.read trivial rfl (by decide) (Reader.move (.inl rfl) (ok_const rfl) (v := .tuple [.lit (.int .i64 ((qv ((digs n) ++ (namesL.getD (i % 8) [])) : Nat) : Int)), .lit (.int .i64 (qe ((digs n) ++ (namesL.getD (i % 8) []))))]) rfl) ?_
      refine AOps.read trivial rfl (by decide) (Reader.extract (v := .lit (.int .i64 ((qv ((digs n) ++ (namesL.getD (i % 8) [])) : Nat) : Int))) rfl rfl rfl rfl) ?_
      refine AOps.read trivial rfl (by decide) (Reader.extract (v := .lit (.int .i64 (qe ((digs n) ++ (namesL.getD (i % 8) []))))) rfl rfl rfl rfl) ?_
      refine AOps.read trivial rfl (by decide) (Reader.move (.inr rfl) (ok_const rfl) (v := .lit (.int .i64 ((qv ((digs n) ++ (namesL.getD (i % 8) [])) : Nat) : Int))) rfl) ?_
      refine AOps.read trivial rfl (by decide) (Reader.move (.inr rfl) (ok_const rfl) (v := .lit (.int .i64 (qe ((digs n) ++ (namesL.getD (i % 8) []))))) rfl) ?_
      refine AOps.nil ?_
      refine AWp.seq (AWp.region ?_)
      refine AOps.read trivial rfl (by decide) (Reader.move (.inl rfl) (ok_const rfl) (v := .str (digs n)) rfl) ?_
      refine AOps.call (args := [.str (digs n)]) trivial rfl (by decide) rfl rfl Tryd.call9 (args_ok rfl) rfl (by intro j x v hx hv; match j, hx, hv with | 0, hx, hv => cases hx; cases hv; exact .inl ⟨rfl, rfl⟩ | _ + 1, hx, hv => cases hx) (Read_any (digs n) (by first | assumption | omega | (simp only [List.length_append, List.length_cons, List.length_nil]; omega)) M) ?_
      rintro _ _ ⟨rfl, rfl⟩
      refine AOps.read trivial rfl (by decide) (Reader.move (.inl rfl) (ok_const rfl) (v := .tuple [.lit (.int .i64 ((qv (digs n) : Nat) : Int)), .lit (.int .i64 (qe (digs n)))]) rfl) ?_
      refine AOps.read trivial rfl (by decide) (Reader.extract (v := .lit (.int .i64 ((qv (digs n) : Nat) : Int))) rfl rfl rfl rfl) ?_
      refine AOps.read trivial rfl (by decide) (Reader.extract (v := .lit (.int .i64 (qe (digs n)))) rfl rfl rfl rfl) ?_
      refine AOps.read trivial rfl (by decide) (Reader.move (.inr rfl) (ok_const rfl) (v := .lit (.int .i64 ((qv (digs n) : Nat) : Int))) rfl) ?_
      refine AOps.read trivial rfl (by decide) (Reader.move (.inr rfl) (ok_const rfl) (v := .lit (.int .i64 (qe (digs n)))) rfl) ?_
      refine AOps.nil ?_
      refine AWp.seq (AWp.region ?_)
      refine AOps.read trivial rfl (by decide) (Reader.move (.inl rfl) (ok_const rfl) (v := .str (digs n)) rfl) ?_
      refine AOps.read trivial rfl (by decide) (Reader.move (.inl rfl) (ok_const rfl) (v := .list false 9 (namesL.map AV.str)) rfl) ?_
      refine AOps.read trivial rfl (by decide) (Reader.elemAddr (m := 0) rfl Tryd.underlying33 sizeOf_9 rfl rfl rfl (e := .str (namesL.getD 0 [])) (name_at (by omega))) ?_
      refine AOps.read trivial rfl (by decide) (Reader.loadE rfl Tryd.underlying9 sizeOf_9 rfl (v := .str (namesL.getD 0 [])) rfl rfl) ?_
      refine AOps.read trivial rfl (by decide) (Reader.cat rfl rfl rfl (by first | omega | (simp only [List.length_append, List.length_cons, List.length_nil]; omega) | (simp; omega)) (c := (digs n) ++ (namesL.getD 0 [])) rfl) ?_
      refine AOps.call (args := [.str ((digs n) ++ (namesL.getD 0 []))]) trivial rfl (by decide) rfl rfl Tryd.call9 (args_ok rfl) rfl (by intro j x v hx hv; match j, hx, hv with | 0, hx, hv => cases hx; cases hv; exact .inl ⟨rfl, rfl⟩ | _ + 1, hx, hv => cases hx) (Read_any ((digs n) ++ (namesL.getD 0 [])) (by first | assumption | omega | (simp only [List.length_append, List.length_cons, List.length_nil]; omega)) M) ?_
      rintro _ _ ⟨rfl, rfl⟩
      refine AOps.read trivial rfl (by decide) (Reader.move (.inl rfl) (ok_const rfl) (v := .tuple [.lit (.int .i64 ((qv ((digs n) ++ (namesL.getD 0 [])) : Nat) : Int)), .lit (.int .i64 (qe ((digs n) ++ (namesL.getD 0 []))))]) rfl) ?_
      refine AOps.read trivial rfl (by decide) (Reader.extract (v := .lit (.int .i64 ((qv ((digs n) ++ (namesL.getD 0 [])) : Nat) : Int))) rfl rfl rfl rfl) ?_
      refine AOps.read trivial rfl (by decide) (Reader.extract (v := .lit (.int .i64 (qe ((digs n) ++ (namesL.getD 0 []))))) rfl rfl rfl rfl) ?_
      refine AOps.read trivial rfl (by decide) (Reader.move (.inr rfl) (ok_const rfl) (v := .lit (.int .i64 ((qv ((digs n) ++ (namesL.getD 0 [])) : Nat) : Int))) rfl) ?_
      refine AOps.read trivial rfl (by decide) (Reader.move (.inr rfl) (ok_const rfl) (v := .lit (.int .i64 (qe ((digs n) ++ (namesL.getD 0 []))))) rfl) ?_
      refine AOps.nil ?_
      refine AWp.seq (AWp.region ?_)
      refine AOps.read trivial rfl (by decide) (Reader.move (.inl rfl) (ok_const rfl) (v := .lit (.int .u32 (n : Int))) rfl) ?_
      refine AOps.read trivial rfl (by decide) (Reader.conv rfl Tryd.underlying32 Tryd.underlying3 (by simp) rfl (c := (n : Int)) (by first | exact IntWalk.i64_in _ (by omega) | exact IntWalk.i64_in _ (by constructor <;> omega) | (simp only [];omega))) ?_
      refine AOps.read trivial rfl (by decide) (Reader.rem rfl rfl rfl (by decide) (c := ((n % 8388608 : Nat) : Int)) (by first | rfl | exact nat_rem _ _)) ?_
      refine AOps.read trivial rfl (by decide) (Reader.move (.inr rfl) (ok_const rfl) (v := .lit (.int .i64 ((n % 8388608 : Nat) : Int))) rfl) ?_
      refine AOps.nil ?_
      refine AWp.seq (AWp.drawnAll (by kernel_rfl) (by kernel_rfl) ?_)
      refine AOpsE.read trivial rfl (by decide) (Reader.move (.inl rfl) (ok_const rfl) (v := .lit (.int .i64 ((n % 8388608 : Nat) : Int))) rfl) ?_
      refine AOpsE.call (args := [.lit (.int .i64 ((n % 8388608 : Nat) : Int))]) (v := .str (digs (n % 8388608))) trivial rfl (by decide) rfl rfl Tryd.call17 (args_ok rfl) rfl (by intro j x v hx hv; match j, hx, hv with | 0, hx, hv => cases hx; cases hv; exact .inl ⟨rfl, rfl⟩ | _ + 1, hx, hv => cases hx) (Digits_any (n % 8388608) (by omega) noM) rfl ?_
      refine AOpsE.read trivial rfl (by decide) (Reader.move (.inl rfl) (ok_const rfl) (v := .list false 9 (namesL.map AV.str)) rfl) ?_
      refine AOpsE.read trivial rfl (by decide) (Reader.move (.inl rfl) (ok_const rfl) (v := .lit (.int .i64 ((i % 8 : Nat) : Int))) rfl) ?_
      refine AOpsE.read trivial rfl (by decide) (Reader.elemAddr (m := i % 8) rfl Tryd.underlying33 sizeOf_9 rfl rfl rfl (e := .str (namesL.getD (i % 8) [])) (name_at (by omega))) ?_
      refine AOpsE.read trivial rfl (by decide) (Reader.loadE rfl Tryd.underlying9 sizeOf_9 rfl (v := .str (namesL.getD (i % 8) [])) rfl rfl) ?_
      refine AOpsE.read trivial rfl (by decide) (Reader.cat rfl rfl rfl (by first | omega | (simp only [List.length_append, List.length_cons, List.length_nil]; omega) | (simp; omega)) (c := (digs (n % 8388608)) ++ (namesL.getD (i % 8) [])) rfl) ?_
      refine AOpsE.call (args := [.str ((digs (n % 8388608)) ++ (namesL.getD (i % 8) []))]) (v := .tuple [.lit (.int .i64 ((qv ((digs (n % 8388608)) ++ (namesL.getD (i % 8) [])) : Nat) : Int)), .lit (.int .i64 (qe ((digs (n % 8388608)) ++ (namesL.getD (i % 8) []))))]) trivial rfl (by decide) rfl rfl Tryd.call9 (args_ok rfl) rfl (by intro j x v hx hv; match j, hx, hv with | 0, hx, hv => cases hx; cases hv; exact .inl ⟨rfl, rfl⟩ | _ + 1, hx, hv => cases hx) (Read_any ((digs (n % 8388608)) ++ (namesL.getD (i % 8) [])) (by first | assumption | omega | (simp only [List.length_append, List.length_cons, List.length_nil]; omega)) noM) rfl ?_
      refine AOpsE.read trivial rfl (by decide) (Reader.move (.inl rfl) (ok_const rfl) (v := .tuple [.lit (.int .i64 ((qv ((digs (n % 8388608)) ++ (namesL.getD (i % 8) [])) : Nat) : Int)), .lit (.int .i64 (qe ((digs (n % 8388608)) ++ (namesL.getD (i % 8) []))))]) rfl) ?_
      refine AOpsE.read trivial rfl (by decide) (Reader.extract (v := .lit (.int .i64 ((qv ((digs (n % 8388608)) ++ (namesL.getD (i % 8) [])) : Nat) : Int))) rfl rfl rfl rfl) ?_
      refine AOpsE.read trivial rfl (by decide) (Reader.extract (v := .lit (.int .i64 (qe ((digs (n % 8388608)) ++ (namesL.getD (i % 8) []))))) rfl rfl rfl rfl) ?_
      refine AOpsE.read trivial rfl (by decide) (Reader.move (.inr rfl) (ok_const rfl) (v := .lit (.int .i64 ((qv ((digs (n % 8388608)) ++ (namesL.getD (i % 8) [])) : Nat) : Int))) rfl) ?_
      refine AOpsE.read trivial rfl (by decide) (Reader.move (.inr rfl) (ok_const rfl) (v := .lit (.int .i64 (qe ((digs (n % 8388608)) ++ (namesL.getD (i % 8) []))))) rfl) ?_
      refine AOpsE.nil ?_
      refine AWp.regionJ [4, 0, 1, 5, 6, 7, 8, 27, 9, 10, 11, 12, 13, 14, 15, 16, 17, 18] [] (fun z => ⟨(4, .lit (.bool z)) :: [(0, .lit (.int .u32 (n : Int))), (1, .lit (.int .u8 (i : Int))), (5, .list true 9 (namesL.map AV.str)), (6, .list true 9 (namesL.map AV.str)), (7, .lit (.int .i64 ((i % 8 : Nat) : Int))), (8, .lit (.int .i64 (j : Int))), (27, .lit (.bool (decide ((j : Int) < 8)))), (9, .str (digs n)), (10, .lit (.int .i64 ((qv ((digs n) ++ (namesL.getD (i % 8) [])) : Nat) : Int))), (11, .lit (.int .i64 (qe ((digs n) ++ (namesL.getD (i % 8) []))))), (12, .lit (.int .i64 ((qv (digs n) : Nat) : Int))), (13, .lit (.int .i64 (qe (digs n)))), (14, .lit (.int .i64 ((qv ((digs n) ++ (namesL.getD 0 [])) : Nat) : Int))), (15, .lit (.int .i64 (qe ((digs n) ++ (namesL.getD 0 []))))), (16, .lit (.int .i64 ((n % 8388608 : Nat) : Int))), (17, .lit (.int .i64 ((qv ((digs (n % 8388608)) ++ (namesL.getD (i % 8) [])) : Nat) : Int))), (18, .lit (.int .i64 (qe ((digs (n % 8388608)) ++ (namesL.getD (i % 8) [])))))], [], M⟩) (z := bif ((qe ((digs n) ++ (namesL.getD (i % 8) []))) == 0) then (bif ((qe (digs n)) == 0) then (bif (((qv (digs n) : Nat) : Int) == (n : Int)) then (bif ((qe ((digs n) ++ (namesL.getD 0 []))) == 0) then (bif (decide (((qv ((digs n) ++ (namesL.getD (i % 8) [])) : Nat) : Int) ≤ ((qv ((digs n) ++ (namesL.getD 0 [])) : Nat) : Int))) then (bif ((qe ((digs (n % 8388608)) ++ (namesL.getD (i % 8) []))) == 0) then (((qv ((digs (n % 8388608)) ++ (namesL.getD (i % 8) [])) : Nat) : Int) == (((n % 8388608) * (unitOf (namesL.getD (i % 8) [])) : Nat) : Int)) else false) else false) else false) else false) else false) else false) ?_ ?_
      · skip
        refine AOps.read trivial rfl (by decide) (Reader.move (.inl rfl) (ok_const rfl) (v := .lit (.int .i64 (qe ((digs n) ++ (namesL.getD (i % 8) []))))) rfl) ?_
        refine AOps.read trivial rfl (by decide) (Reader.int rfl rfl rfl (r := .bool ((qe ((digs n) ++ (namesL.getD (i % 8) []))) == 0)) rfl) ?_
        refine AOps.read trivial rfl (by decide) (Reader.move (.inl rfl) (ok_const rfl) (v := .lit (.bool ((qe ((digs n) ++ (namesL.getD (i % 8) []))) == 0))) rfl) ?_
        refine AOps.splitJ (t := 113) (b := (qe ((digs n) ++ (namesL.getD (i % 8) []))) == 0) (x := (bif ((qe (digs n)) == 0) then (bif (((qv (digs n) : Nat) : Int) == (n : Int)) then (bif ((qe ((digs n) ++ (namesL.getD 0 []))) == 0) then (bif (decide (((qv ((digs n) ++ (namesL.getD (i % 8) [])) : Nat) : Int) ≤ ((qv ((digs n) ++ (namesL.getD 0 [])) : Nat) : Int))) then (bif ((qe ((digs (n % 8388608)) ++ (namesL.getD (i % 8) []))) == 0) then (((qv ((digs (n % 8388608)) ++ (namesL.getD (i % 8) [])) : Nat) : Int) == (((n % 8388608) * (unitOf (namesL.getD (i % 8) [])) : Nat) : Int)) else false) else false) else false) else false) else false)) (y := false) rfl (fun h6 => ?_) (fun h6 => ?_)
        · skip
          have h6' : (qe ((digs n) ++ (namesL.getD (i % 8) []))) = 0 := (by have hh := eq_of_beq h6; omega)
          clear h6
          refine AOps.read ⟨113, rfl, rfl⟩ rfl (by decide) (Reader.move (.inl rfl) (ok_const rfl) (v := .lit (.int .i64 (qe (digs n)))) rfl) ?_
          refine AOps.read ⟨113, rfl, rfl⟩ rfl (by decide) (Reader.int rfl rfl rfl (r := .bool ((qe (digs n)) == 0)) rfl) ?_
          refine AOps.read trivial rfl (by decide) (Reader.pick rfl (b := true) rfl (ok_const rfl) (ok_const rfl) (v := .lit (.bool ((qe (digs n)) == 0))) rfl) ?_
          refine AOps.read trivial rfl (by decide) (Reader.move (.inl rfl) (ok_const rfl) (v := .lit (.bool ((qe (digs n)) == 0))) rfl) ?_
          refine AOps.splitJ (t := 117) (b := (qe (digs n)) == 0) (x := (bif (((qv (digs n) : Nat) : Int) == (n : Int)) then (bif ((qe ((digs n) ++ (namesL.getD 0 []))) == 0) then (bif (decide (((qv ((digs n) ++ (namesL.getD (i % 8) [])) : Nat) : Int) ≤ ((qv ((digs n) ++ (namesL.getD 0 [])) : Nat) : Int))) then (bif ((qe ((digs (n % 8388608)) ++ (namesL.getD (i % 8) []))) == 0) then (((qv ((digs (n % 8388608)) ++ (namesL.getD (i % 8) [])) : Nat) : Int) == (((n % 8388608) * (unitOf (namesL.getD (i % 8) [])) : Nat) : Int)) else false) else false) else false) else false)) (y := false) rfl (fun h7 => ?_) (fun h7 => ?_)
          · skip
            have h7' : (qe (digs n)) = 0 := (by have hh := eq_of_beq h7; omega)
            clear h7
            refine AOps.read ⟨117, rfl, rfl⟩ rfl (by decide) (Reader.move (.inl rfl) (ok_const rfl) (v := .lit (.int .i64 ((qv (digs n) : Nat) : Int))) rfl) ?_
            refine AOps.read ⟨117, rfl, rfl⟩ rfl (by decide) (Reader.move (.inl rfl) (ok_const rfl) (v := .lit (.int .u32 (n : Int))) rfl) ?_
            refine AOps.read ⟨117, rfl, rfl⟩ rfl (by decide) (Reader.conv rfl Tryd.underlying32 Tryd.underlying3 (by simp) rfl (c := (n : Int)) (by first | exact IntWalk.i64_in _ (by omega) | exact IntWalk.i64_in _ (by constructor <;> omega) | (simp only [];omega))) ?_
            refine AOps.read ⟨117, rfl, rfl⟩ rfl (by decide) (Reader.int rfl rfl rfl (r := .bool (((qv (digs n) : Nat) : Int) == (n : Int))) rfl) ?_
            refine AOps.read trivial rfl (by decide) (Reader.pick rfl (b := true) rfl (ok_const rfl) (ok_const rfl) (v := .lit (.bool (((qv (digs n) : Nat) : Int) == (n : Int)))) rfl) ?_
            refine AOps.read trivial rfl (by decide) (Reader.move (.inl rfl) (ok_const rfl) (v := .lit (.bool (((qv (digs n) : Nat) : Int) == (n : Int)))) rfl) ?_
            refine AOps.splitJ (t := 123) (b := ((qv (digs n) : Nat) : Int) == (n : Int)) (x := (bif ((qe ((digs n) ++ (namesL.getD 0 []))) == 0) then (bif (decide (((qv ((digs n) ++ (namesL.getD (i % 8) [])) : Nat) : Int) ≤ ((qv ((digs n) ++ (namesL.getD 0 [])) : Nat) : Int))) then (bif ((qe ((digs (n % 8388608)) ++ (namesL.getD (i % 8) []))) == 0) then (((qv ((digs (n % 8388608)) ++ (namesL.getD (i % 8) [])) : Nat) : Int) == (((n % 8388608) * (unitOf (namesL.getD (i % 8) [])) : Nat) : Int)) else false) else false) else false)) (y := false) rfl (fun h8 => ?_) (fun h8 => ?_)
            · skip
              have h8' : (qv (digs n)) = n := (by have hh := eq_of_beq h8; omega)
              clear h8
              refine AOps.read ⟨123, rfl, rfl⟩ rfl (by decide) (Reader.move (.inl rfl) (ok_const rfl) (v := .lit (.int .i64 (qe ((digs n) ++ (namesL.getD 0 []))))) rfl) ?_
              refine AOps.read ⟨123, rfl, rfl⟩ rfl (by decide) (Reader.int rfl rfl rfl (r := .bool ((qe ((digs n) ++ (namesL.getD 0 []))) == 0)) rfl) ?_
              refine AOps.read trivial rfl (by decide) (Reader.pick rfl (b := true) rfl (ok_const rfl) (ok_const rfl) (v := .lit (.bool ((qe ((digs n) ++ (namesL.getD 0 []))) == 0))) rfl) ?_
              refine AOps.read trivial rfl (by decide) (Reader.move (.inl rfl) (ok_const rfl) (v := .lit (.bool ((qe ((digs n) ++ (namesL.getD 0 []))) == 0))) rfl) ?_
              refine AOps.splitJ (t := 127) (b := (qe ((digs n) ++ (namesL.getD 0 []))) == 0) (x := (bif (decide (((qv ((digs n) ++ (namesL.getD (i % 8) [])) : Nat) : Int) ≤ ((qv ((digs n) ++ (namesL.getD 0 [])) : Nat) : Int))) then (bif ((qe ((digs (n % 8388608)) ++ (namesL.getD (i % 8) []))) == 0) then (((qv ((digs (n % 8388608)) ++ (namesL.getD (i % 8) [])) : Nat) : Int) == (((n % 8388608) * (unitOf (namesL.getD (i % 8) [])) : Nat) : Int)) else false) else false)) (y := false) rfl (fun h9 => ?_) (fun h9 => ?_)
              · skip
                have h9' : (qe ((digs n) ++ (namesL.getD 0 []))) = 0 := (by have hh := eq_of_beq h9; omega)
                clear h9
                refine AOps.read ⟨127, rfl, rfl⟩ rfl (by decide) (Reader.move (.inl rfl) (ok_const rfl) (v := .lit (.int .i64 ((qv ((digs n) ++ (namesL.getD (i % 8) [])) : Nat) : Int))) rfl) ?_
                refine AOps.read ⟨127, rfl, rfl⟩ rfl (by decide) (Reader.move (.inl rfl) (ok_const rfl) (v := .lit (.int .i64 ((qv ((digs n) ++ (namesL.getD 0 [])) : Nat) : Int))) rfl) ?_
                refine AOps.read ⟨127, rfl, rfl⟩ rfl (by decide) (Reader.int rfl rfl rfl (r := .bool (decide (((qv ((digs n) ++ (namesL.getD (i % 8) [])) : Nat) : Int) ≤ ((qv ((digs n) ++ (namesL.getD 0 [])) : Nat) : Int)))) rfl) ?_
                refine AOps.read trivial rfl (by decide) (Reader.pick rfl (b := true) rfl (ok_const rfl) (ok_const rfl) (v := .lit (.bool (decide (((qv ((digs n) ++ (namesL.getD (i % 8) [])) : Nat) : Int) ≤ ((qv ((digs n) ++ (namesL.getD 0 [])) : Nat) : Int))))) rfl) ?_
                refine AOps.read trivial rfl (by decide) (Reader.move (.inl rfl) (ok_const rfl) (v := .lit (.bool (decide (((qv ((digs n) ++ (namesL.getD (i % 8) [])) : Nat) : Int) ≤ ((qv ((digs n) ++ (namesL.getD 0 [])) : Nat) : Int))))) rfl) ?_
                refine AOps.splitJ (t := 132) (b := decide (((qv ((digs n) ++ (namesL.getD (i % 8) [])) : Nat) : Int) ≤ ((qv ((digs n) ++ (namesL.getD 0 [])) : Nat) : Int))) (x := (bif ((qe ((digs (n % 8388608)) ++ (namesL.getD (i % 8) []))) == 0) then (((qv ((digs (n % 8388608)) ++ (namesL.getD (i % 8) [])) : Nat) : Int) == (((n % 8388608) * (unitOf (namesL.getD (i % 8) [])) : Nat) : Int)) else false)) (y := false) rfl (fun h10 => ?_) (fun h10 => ?_)
                · skip
                  have h10' : (qv ((digs n) ++ (namesL.getD (i % 8) []))) ≤ (qv ((digs n) ++ (namesL.getD 0 []))) := (by have hh := of_decide_eq_true h10; omega)
                  clear h10
                  refine AOps.read ⟨132, rfl, rfl⟩ rfl (by decide) (Reader.move (.inl rfl) (ok_const rfl) (v := .lit (.int .i64 (qe ((digs (n % 8388608)) ++ (namesL.getD (i % 8) []))))) rfl) ?_
                  refine AOps.read ⟨132, rfl, rfl⟩ rfl (by decide) (Reader.int rfl rfl rfl (r := .bool ((qe ((digs (n % 8388608)) ++ (namesL.getD (i % 8) []))) == 0)) rfl) ?_
                  refine AOps.read trivial rfl (by decide) (Reader.pick rfl (b := true) rfl (ok_const rfl) (ok_const rfl) (v := .lit (.bool ((qe ((digs (n % 8388608)) ++ (namesL.getD (i % 8) []))) == 0))) rfl) ?_
                  refine AOps.read trivial rfl (by decide) (Reader.move (.inl rfl) (ok_const rfl) (v := .lit (.bool ((qe ((digs (n % 8388608)) ++ (namesL.getD (i % 8) []))) == 0))) rfl) ?_
                  refine AOps.splitJ (t := 136) (b := (qe ((digs (n % 8388608)) ++ (namesL.getD (i % 8) []))) == 0) (x := (((qv ((digs (n % 8388608)) ++ (namesL.getD (i % 8) [])) : Nat) : Int) == (((n % 8388608) * (unitOf (namesL.getD (i % 8) [])) : Nat) : Int))) (y := false) rfl (fun h11 => ?_) (fun h11 => ?_)
                  · skip
                    have h11' : (qe ((digs (n % 8388608)) ++ (namesL.getD (i % 8) []))) = 0 := (by have hh := eq_of_beq h11; omega)
                    clear h11
                    refine AOps.read ⟨136, rfl, rfl⟩ rfl (by decide) (Reader.move (.inl rfl) (ok_const rfl) (v := .lit (.int .i64 ((qv ((digs (n % 8388608)) ++ (namesL.getD (i % 8) [])) : Nat) : Int))) rfl) ?_
                    refine AOps.read ⟨136, rfl, rfl⟩ rfl (by decide) (Reader.move (.inl rfl) (ok_const rfl) (v := .lit (.int .i64 ((n % 8388608 : Nat) : Int))) rfl) ?_
                    refine AOps.read ⟨136, rfl, rfl⟩ rfl (by decide) (Reader.move (.inl rfl) (ok_const rfl) (v := .list false 9 (namesL.map AV.str)) rfl) ?_
                    refine AOps.read ⟨136, rfl, rfl⟩ rfl (by decide) (Reader.move (.inl rfl) (ok_const rfl) (v := .lit (.int .i64 ((i % 8 : Nat) : Int))) rfl) ?_
                    refine AOps.read ⟨136, rfl, rfl⟩ rfl (by decide) (Reader.elemAddr (m := i % 8) rfl Tryd.underlying33 sizeOf_9 rfl rfl rfl (e := .str (namesL.getD (i % 8) [])) (name_at (by omega))) ?_
                    refine AOps.read ⟨136, rfl, rfl⟩ rfl (by decide) (Reader.loadE rfl Tryd.underlying9 sizeOf_9 rfl (v := .str (namesL.getD (i % 8) [])) rfl rfl) ?_
                    refine AOps.call (args := [.str (namesL.getD (i % 8) [])]) ⟨136, rfl, rfl⟩ rfl (by decide) rfl rfl Tryd.call11 (args_ok rfl) rfl (by intro j x v hx hv; match j, hx, hv with | 0, hx, hv => cases hx; cases hv; exact .inl ⟨rfl, rfl⟩ | _ + 1, hx, hv => cases hx) (Unit_any (namesL.getD (i % 8) []) M) ?_
                    rintro _ _ ⟨rfl, rfl⟩
                    refine AOps.read ⟨136, rfl, rfl⟩ rfl (by decide) (Reader.sum rfl rfl rfl (m := ((n % 8388608 : Nat) : Int) * ((unitOf (namesL.getD (i % 8) []) : Nat) : Int)) (c := (((n % 8388608) * (unitOf (namesL.getD (i % 8) [])) : Nat) : Int)) rfl (by first | exact IntWalk.i64_in _ (by omega) | exact IntWalk.i64_in _ (by constructor <;> omega) | (simp only [];omega))) ?_
                    refine AOps.read ⟨136, rfl, rfl⟩ rfl (by decide) (Reader.int rfl rfl rfl (r := .bool (((qv ((digs (n % 8388608)) ++ (namesL.getD (i % 8) [])) : Nat) : Int) == (((n % 8388608) * (unitOf (namesL.getD (i % 8) [])) : Nat) : Int))) rfl) ?_
                    refine AOps.read trivial rfl (by decide) (Reader.pick rfl (b := true) rfl (ok_const rfl) (ok_const rfl) (v := .lit (.bool (((qv ((digs (n % 8388608)) ++ (namesL.getD (i % 8) [])) : Nat) : Int) == (((n % 8388608) * (unitOf (namesL.getD (i % 8) [])) : Nat) : Int)))) rfl) ?_
                    refine AOps.read trivial rfl (by decide) (Reader.move (.inr rfl) (ok_const rfl) (v := .lit (.bool (((qv ((digs (n % 8388608)) ++ (namesL.getD (i % 8) [])) : Nat) : Int) == (((n % 8388608) * (unitOf (namesL.getD (i % 8) [])) : Nat) : Int)))) rfl) ?_
                    exact AOps.nil rfl
                  · skip
                    have h11' : ¬ ((qe ((digs (n % 8388608)) ++ (namesL.getD (i % 8) []))) = 0) := (by have hh := beq_eq_false_iff_ne.1 h11; omega)
                    clear h11
                    refine AOps.skip ⟨25, true, 136, _, rfl, rfl, rfl, by simp⟩ rfl (by decide) ?_
                    refine AOps.skip ⟨25, true, 136, _, rfl, rfl, rfl, by simp⟩ rfl (by decide) ?_
                    refine AOps.skip ⟨25, true, 136, _, rfl, rfl, rfl, by simp⟩ rfl (by decide) ?_
                    refine AOps.skip ⟨25, true, 136, _, rfl, rfl, rfl, by simp⟩ rfl (by decide) ?_
                    refine AOps.skip ⟨25, true, 136, _, rfl, rfl, rfl, by simp⟩ rfl (by decide) ?_
                    refine AOps.skip ⟨25, true, 136, _, rfl, rfl, rfl, by simp⟩ rfl (by decide) ?_
                    refine AOps.skip ⟨25, true, 136, _, rfl, rfl, rfl, by simp⟩ rfl (by decide) ?_
                    refine AOps.skip ⟨25, true, 136, _, rfl, rfl, rfl, by simp⟩ rfl (by decide) ?_
                    refine AOps.skip ⟨25, true, 136, _, rfl, rfl, rfl, by simp⟩ rfl (by decide) ?_
                    refine AOps.read trivial rfl (by decide) (Reader.pick rfl (b := false) rfl (ok_const rfl) (ok_const rfl) (v := .lit (.bool false)) rfl) ?_
                    refine AOps.read trivial rfl (by decide) (Reader.move (.inr rfl) (ok_const rfl) (v := .lit (.bool false)) rfl) ?_
                    exact AOps.nil rfl
                · skip
                  have h10' : ¬ ((qv ((digs n) ++ (namesL.getD (i % 8) []))) ≤ (qv ((digs n) ++ (namesL.getD 0 [])))) := (by have hh := of_decide_eq_false h10; omega)
                  clear h10
                  refine AOps.skip ⟨21, true, 132, _, rfl, rfl, rfl, by simp⟩ rfl (by decide) ?_
                  refine AOps.skip ⟨21, true, 132, _, rfl, rfl, rfl, by simp⟩ rfl (by decide) ?_
                  refine AOps.read trivial rfl (by decide) (Reader.pick rfl (b := false) rfl (ok_const rfl) (ok_const rfl) (v := .lit (.bool false)) rfl) ?_
                  refine AOps.read trivial rfl (by decide) (Reader.move (.inl rfl) (ok_const rfl) (v := .lit (.bool false)) rfl) ?_
                  refine AOps.skip ⟨25, true, 136, _, rfl, rfl, rfl, by simp⟩ rfl (by decide) ?_
                  refine AOps.skip ⟨25, true, 136, _, rfl, rfl, rfl, by simp⟩ rfl (by decide) ?_
                  refine AOps.skip ⟨25, true, 136, _, rfl, rfl, rfl, by simp⟩ rfl (by decide) ?_
                  refine AOps.skip ⟨25, true, 136, _, rfl, rfl, rfl, by simp⟩ rfl (by decide) ?_
                  refine AOps.skip ⟨25, true, 136, _, rfl, rfl, rfl, by simp⟩ rfl (by decide) ?_
                  refine AOps.skip ⟨25, true, 136, _, rfl, rfl, rfl, by simp⟩ rfl (by decide) ?_
                  refine AOps.skip ⟨25, true, 136, _, rfl, rfl, rfl, by simp⟩ rfl (by decide) ?_
                  refine AOps.skip ⟨25, true, 136, _, rfl, rfl, rfl, by simp⟩ rfl (by decide) ?_
                  refine AOps.skip ⟨25, true, 136, _, rfl, rfl, rfl, by simp⟩ rfl (by decide) ?_
                  refine AOps.read trivial rfl (by decide) (Reader.pick rfl (b := false) rfl (ok_const rfl) (ok_const rfl) (v := .lit (.bool false)) rfl) ?_
                  refine AOps.read trivial rfl (by decide) (Reader.move (.inr rfl) (ok_const rfl) (v := .lit (.bool false)) rfl) ?_
                  exact AOps.nil rfl
              · skip
                have h9' : ¬ ((qe ((digs n) ++ (namesL.getD 0 []))) = 0) := (by have hh := beq_eq_false_iff_ne.1 h9; omega)
                clear h9
                refine AOps.skip ⟨16, true, 127, _, rfl, rfl, rfl, by simp⟩ rfl (by decide) ?_
                refine AOps.skip ⟨16, true, 127, _, rfl, rfl, rfl, by simp⟩ rfl (by decide) ?_
                refine AOps.skip ⟨16, true, 127, _, rfl, rfl, rfl, by simp⟩ rfl (by decide) ?_
                refine AOps.read trivial rfl (by decide) (Reader.pick rfl (b := false) rfl (ok_const rfl) (ok_const rfl) (v := .lit (.bool false)) rfl) ?_
                refine AOps.read trivial rfl (by decide) (Reader.move (.inl rfl) (ok_const rfl) (v := .lit (.bool false)) rfl) ?_
                refine AOps.skip ⟨21, true, 132, _, rfl, rfl, rfl, by simp⟩ rfl (by decide) ?_
                refine AOps.skip ⟨21, true, 132, _, rfl, rfl, rfl, by simp⟩ rfl (by decide) ?_
                refine AOps.read trivial rfl (by decide) (Reader.pick rfl (b := false) rfl (ok_const rfl) (ok_const rfl) (v := .lit (.bool false)) rfl) ?_
                refine AOps.read trivial rfl (by decide) (Reader.move (.inl rfl) (ok_const rfl) (v := .lit (.bool false)) rfl) ?_
                refine AOps.skip ⟨25, true, 136, _, rfl, rfl, rfl, by simp⟩ rfl (by decide) ?_
                refine AOps.skip ⟨25, true, 136, _, rfl, rfl, rfl, by simp⟩ rfl (by decide) ?_
                refine AOps.skip ⟨25, true, 136, _, rfl, rfl, rfl, by simp⟩ rfl (by decide) ?_
                refine AOps.skip ⟨25, true, 136, _, rfl, rfl, rfl, by simp⟩ rfl (by decide) ?_
                refine AOps.skip ⟨25, true, 136, _, rfl, rfl, rfl, by simp⟩ rfl (by decide) ?_
                refine AOps.skip ⟨25, true, 136, _, rfl, rfl, rfl, by simp⟩ rfl (by decide) ?_
                refine AOps.skip ⟨25, true, 136, _, rfl, rfl, rfl, by simp⟩ rfl (by decide) ?_
                refine AOps.skip ⟨25, true, 136, _, rfl, rfl, rfl, by simp⟩ rfl (by decide) ?_
                refine AOps.skip ⟨25, true, 136, _, rfl, rfl, rfl, by simp⟩ rfl (by decide) ?_
                refine AOps.read trivial rfl (by decide) (Reader.pick rfl (b := false) rfl (ok_const rfl) (ok_const rfl) (v := .lit (.bool false)) rfl) ?_
                refine AOps.read trivial rfl (by decide) (Reader.move (.inr rfl) (ok_const rfl) (v := .lit (.bool false)) rfl) ?_
                exact AOps.nil rfl
            · skip
              have h8' : ¬ ((qv (digs n)) = n) := (by have hh := beq_eq_false_iff_ne.1 h8; omega)
              clear h8
              refine AOps.skip ⟨12, true, 123, _, rfl, rfl, rfl, by simp⟩ rfl (by decide) ?_
              refine AOps.skip ⟨12, true, 123, _, rfl, rfl, rfl, by simp⟩ rfl (by decide) ?_
              refine AOps.read trivial rfl (by decide) (Reader.pick rfl (b := false) rfl (ok_const rfl) (ok_const rfl) (v := .lit (.bool false)) rfl) ?_
              refine AOps.read trivial rfl (by decide) (Reader.move (.inl rfl) (ok_const rfl) (v := .lit (.bool false)) rfl) ?_
              refine AOps.skip ⟨16, true, 127, _, rfl, rfl, rfl, by simp⟩ rfl (by decide) ?_
              refine AOps.skip ⟨16, true, 127, _, rfl, rfl, rfl, by simp⟩ rfl (by decide) ?_
              refine AOps.skip ⟨16, true, 127, _, rfl, rfl, rfl, by simp⟩ rfl (by decide) ?_
              refine AOps.read trivial rfl (by decide) (Reader.pick rfl (b := false) rfl (ok_const rfl) (ok_const rfl) (v := .lit (.bool false)) rfl) ?_
              refine AOps.read trivial rfl (by decide) (Reader.move (.inl rfl) (ok_const rfl) (v := .lit (.bool false)) rfl) ?_
              refine AOps.skip ⟨21, true, 132, _, rfl, rfl, rfl, by simp⟩ rfl (by decide) ?_
              refine AOps.skip ⟨21, true, 132, _, rfl, rfl, rfl, by simp⟩ rfl (by decide) ?_
              refine AOps.read trivial rfl (by decide) (Reader.pick rfl (b := false) rfl (ok_const rfl) (ok_const rfl) (v := .lit (.bool false)) rfl) ?_
              refine AOps.read trivial rfl (by decide) (Reader.move (.inl rfl) (ok_const rfl) (v := .lit (.bool false)) rfl) ?_
              refine AOps.skip ⟨25, true, 136, _, rfl, rfl, rfl, by simp⟩ rfl (by decide) ?_
              refine AOps.skip ⟨25, true, 136, _, rfl, rfl, rfl, by simp⟩ rfl (by decide) ?_
              refine AOps.skip ⟨25, true, 136, _, rfl, rfl, rfl, by simp⟩ rfl (by decide) ?_
              refine AOps.skip ⟨25, true, 136, _, rfl, rfl, rfl, by simp⟩ rfl (by decide) ?_
              refine AOps.skip ⟨25, true, 136, _, rfl, rfl, rfl, by simp⟩ rfl (by decide) ?_
              refine AOps.skip ⟨25, true, 136, _, rfl, rfl, rfl, by simp⟩ rfl (by decide) ?_
              refine AOps.skip ⟨25, true, 136, _, rfl, rfl, rfl, by simp⟩ rfl (by decide) ?_
              refine AOps.skip ⟨25, true, 136, _, rfl, rfl, rfl, by simp⟩ rfl (by decide) ?_
              refine AOps.skip ⟨25, true, 136, _, rfl, rfl, rfl, by simp⟩ rfl (by decide) ?_
              refine AOps.read trivial rfl (by decide) (Reader.pick rfl (b := false) rfl (ok_const rfl) (ok_const rfl) (v := .lit (.bool false)) rfl) ?_
              refine AOps.read trivial rfl (by decide) (Reader.move (.inr rfl) (ok_const rfl) (v := .lit (.bool false)) rfl) ?_
              exact AOps.nil rfl
          · skip
            have h7' : ¬ ((qe (digs n)) = 0) := (by have hh := beq_eq_false_iff_ne.1 h7; omega)
            clear h7
            refine AOps.skip ⟨6, true, 117, _, rfl, rfl, rfl, by simp⟩ rfl (by decide) ?_
            refine AOps.skip ⟨6, true, 117, _, rfl, rfl, rfl, by simp⟩ rfl (by decide) ?_
            refine AOps.skip ⟨6, true, 117, _, rfl, rfl, rfl, by simp⟩ rfl (by decide) ?_
            refine AOps.skip ⟨6, true, 117, _, rfl, rfl, rfl, by simp⟩ rfl (by decide) ?_
            refine AOps.read trivial rfl (by decide) (Reader.pick rfl (b := false) rfl (ok_const rfl) (ok_const rfl) (v := .lit (.bool false)) rfl) ?_
            refine AOps.read trivial rfl (by decide) (Reader.move (.inl rfl) (ok_const rfl) (v := .lit (.bool false)) rfl) ?_
            refine AOps.skip ⟨12, true, 123, _, rfl, rfl, rfl, by simp⟩ rfl (by decide) ?_
            refine AOps.skip ⟨12, true, 123, _, rfl, rfl, rfl, by simp⟩ rfl (by decide) ?_
            refine AOps.read trivial rfl (by decide) (Reader.pick rfl (b := false) rfl (ok_const rfl) (ok_const rfl) (v := .lit (.bool false)) rfl) ?_
            refine AOps.read trivial rfl (by decide) (Reader.move (.inl rfl) (ok_const rfl) (v := .lit (.bool false)) rfl) ?_
            refine AOps.skip ⟨16, true, 127, _, rfl, rfl, rfl, by simp⟩ rfl (by decide) ?_
            refine AOps.skip ⟨16, true, 127, _, rfl, rfl, rfl, by simp⟩ rfl (by decide) ?_
            refine AOps.skip ⟨16, true, 127, _, rfl, rfl, rfl, by simp⟩ rfl (by decide) ?_
            refine AOps.read trivial rfl (by decide) (Reader.pick rfl (b := false) rfl (ok_const rfl) (ok_const rfl) (v := .lit (.bool false)) rfl) ?_
            refine AOps.read trivial rfl (by decide) (Reader.move (.inl rfl) (ok_const rfl) (v := .lit (.bool false)) rfl) ?_
            refine AOps.skip ⟨21, true, 132, _, rfl, rfl, rfl, by simp⟩ rfl (by decide) ?_
            refine AOps.skip ⟨21, true, 132, _, rfl, rfl, rfl, by simp⟩ rfl (by decide) ?_
            refine AOps.read trivial rfl (by decide) (Reader.pick rfl (b := false) rfl (ok_const rfl) (ok_const rfl) (v := .lit (.bool false)) rfl) ?_
            refine AOps.read trivial rfl (by decide) (Reader.move (.inl rfl) (ok_const rfl) (v := .lit (.bool false)) rfl) ?_
            refine AOps.skip ⟨25, true, 136, _, rfl, rfl, rfl, by simp⟩ rfl (by decide) ?_
            refine AOps.skip ⟨25, true, 136, _, rfl, rfl, rfl, by simp⟩ rfl (by decide) ?_
            refine AOps.skip ⟨25, true, 136, _, rfl, rfl, rfl, by simp⟩ rfl (by decide) ?_
            refine AOps.skip ⟨25, true, 136, _, rfl, rfl, rfl, by simp⟩ rfl (by decide) ?_
            refine AOps.skip ⟨25, true, 136, _, rfl, rfl, rfl, by simp⟩ rfl (by decide) ?_
            refine AOps.skip ⟨25, true, 136, _, rfl, rfl, rfl, by simp⟩ rfl (by decide) ?_
            refine AOps.skip ⟨25, true, 136, _, rfl, rfl, rfl, by simp⟩ rfl (by decide) ?_
            refine AOps.skip ⟨25, true, 136, _, rfl, rfl, rfl, by simp⟩ rfl (by decide) ?_
            refine AOps.skip ⟨25, true, 136, _, rfl, rfl, rfl, by simp⟩ rfl (by decide) ?_
            refine AOps.read trivial rfl (by decide) (Reader.pick rfl (b := false) rfl (ok_const rfl) (ok_const rfl) (v := .lit (.bool false)) rfl) ?_
            refine AOps.read trivial rfl (by decide) (Reader.move (.inr rfl) (ok_const rfl) (v := .lit (.bool false)) rfl) ?_
            exact AOps.nil rfl
        · skip
          have h6' : ¬ ((qe ((digs n) ++ (namesL.getD (i % 8) []))) = 0) := (by have hh := beq_eq_false_iff_ne.1 h6; omega)
          clear h6
          refine AOps.skip ⟨2, true, 113, _, rfl, rfl, rfl, by simp⟩ rfl (by decide) ?_
          refine AOps.skip ⟨2, true, 113, _, rfl, rfl, rfl, by simp⟩ rfl (by decide) ?_
          refine AOps.read trivial rfl (by decide) (Reader.pick rfl (b := false) rfl (ok_const rfl) (ok_const rfl) (v := .lit (.bool false)) rfl) ?_
          refine AOps.read trivial rfl (by decide) (Reader.move (.inl rfl) (ok_const rfl) (v := .lit (.bool false)) rfl) ?_
          refine AOps.skip ⟨6, true, 117, _, rfl, rfl, rfl, by simp⟩ rfl (by decide) ?_
          refine AOps.skip ⟨6, true, 117, _, rfl, rfl, rfl, by simp⟩ rfl (by decide) ?_
          refine AOps.skip ⟨6, true, 117, _, rfl, rfl, rfl, by simp⟩ rfl (by decide) ?_
          refine AOps.skip ⟨6, true, 117, _, rfl, rfl, rfl, by simp⟩ rfl (by decide) ?_
          refine AOps.read trivial rfl (by decide) (Reader.pick rfl (b := false) rfl (ok_const rfl) (ok_const rfl) (v := .lit (.bool false)) rfl) ?_
          refine AOps.read trivial rfl (by decide) (Reader.move (.inl rfl) (ok_const rfl) (v := .lit (.bool false)) rfl) ?_
          refine AOps.skip ⟨12, true, 123, _, rfl, rfl, rfl, by simp⟩ rfl (by decide) ?_
          refine AOps.skip ⟨12, true, 123, _, rfl, rfl, rfl, by simp⟩ rfl (by decide) ?_
          refine AOps.read trivial rfl (by decide) (Reader.pick rfl (b := false) rfl (ok_const rfl) (ok_const rfl) (v := .lit (.bool false)) rfl) ?_
          refine AOps.read trivial rfl (by decide) (Reader.move (.inl rfl) (ok_const rfl) (v := .lit (.bool false)) rfl) ?_
          refine AOps.skip ⟨16, true, 127, _, rfl, rfl, rfl, by simp⟩ rfl (by decide) ?_
          refine AOps.skip ⟨16, true, 127, _, rfl, rfl, rfl, by simp⟩ rfl (by decide) ?_
          refine AOps.skip ⟨16, true, 127, _, rfl, rfl, rfl, by simp⟩ rfl (by decide) ?_
          refine AOps.read trivial rfl (by decide) (Reader.pick rfl (b := false) rfl (ok_const rfl) (ok_const rfl) (v := .lit (.bool false)) rfl) ?_
          refine AOps.read trivial rfl (by decide) (Reader.move (.inl rfl) (ok_const rfl) (v := .lit (.bool false)) rfl) ?_
          refine AOps.skip ⟨21, true, 132, _, rfl, rfl, rfl, by simp⟩ rfl (by decide) ?_
          refine AOps.skip ⟨21, true, 132, _, rfl, rfl, rfl, by simp⟩ rfl (by decide) ?_
          refine AOps.read trivial rfl (by decide) (Reader.pick rfl (b := false) rfl (ok_const rfl) (ok_const rfl) (v := .lit (.bool false)) rfl) ?_
          refine AOps.read trivial rfl (by decide) (Reader.move (.inl rfl) (ok_const rfl) (v := .lit (.bool false)) rfl) ?_
          refine AOps.skip ⟨25, true, 136, _, rfl, rfl, rfl, by simp⟩ rfl (by decide) ?_
          refine AOps.skip ⟨25, true, 136, _, rfl, rfl, rfl, by simp⟩ rfl (by decide) ?_
          refine AOps.skip ⟨25, true, 136, _, rfl, rfl, rfl, by simp⟩ rfl (by decide) ?_
          refine AOps.skip ⟨25, true, 136, _, rfl, rfl, rfl, by simp⟩ rfl (by decide) ?_
          refine AOps.skip ⟨25, true, 136, _, rfl, rfl, rfl, by simp⟩ rfl (by decide) ?_
          refine AOps.skip ⟨25, true, 136, _, rfl, rfl, rfl, by simp⟩ rfl (by decide) ?_
          refine AOps.skip ⟨25, true, 136, _, rfl, rfl, rfl, by simp⟩ rfl (by decide) ?_
          refine AOps.skip ⟨25, true, 136, _, rfl, rfl, rfl, by simp⟩ rfl (by decide) ?_
          refine AOps.skip ⟨25, true, 136, _, rfl, rfl, rfl, by simp⟩ rfl (by decide) ?_
          refine AOps.read trivial rfl (by decide) (Reader.pick rfl (b := false) rfl (ok_const rfl) (ok_const rfl) (v := .lit (.bool false)) rfl) ?_
          refine AOps.read trivial rfl (by decide) (Reader.move (.inr rfl) (ok_const rfl) (v := .lit (.bool false)) rfl) ?_
          exact AOps.nil rfl
      refine AWp.ret ?_
      exact ⟨.inl rfl, _, ResOf.one 4 (.lit (.bool (bif ((qe ((digs n) ++ (namesL.getD (i % 8) []))) == 0) then (bif ((qe (digs n)) == 0) then (bif (((qv (digs n) : Nat) : Int) == (n : Int)) then (bif ((qe ((digs n) ++ (namesL.getD 0 []))) == 0) then (bif (decide (((qv ((digs n) ++ (namesL.getD (i % 8) [])) : Nat) : Int) ≤ ((qv ((digs n) ++ (namesL.getD 0 [])) : Nat) : Int))) then (bif ((qe ((digs (n % 8388608)) ++ (namesL.getD (i % 8) []))) == 0) then (((qv ((digs (n % 8388608)) ++ (namesL.getD (i % 8) [])) : Nat) : Int) == (((n % 8388608) * (unitOf (namesL.getD (i % 8) [])) : Nat) : Int)) else false) else false) else false) else false) else false) else false))) rfl rfl, ⟨congrArg (fun b => AV.lit (.bool b)) (units_ok hn), rfl⟩⟩

end Go.Proofs.YtpfplkbbdoijnaaDoor
