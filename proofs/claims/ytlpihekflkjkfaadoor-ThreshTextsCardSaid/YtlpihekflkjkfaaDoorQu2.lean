/- Walks over abstract values, printed by my program av.py. -/
import Derived.Test.YtlpihekflkjkfaaDoorQu1
import Derived.Test.YtlpihekflkjkfaaDoorQuS
namespace Go.Proofs.YtlpihekflkjkfaaDoor
open Go.RowKit

theorem isD_le (c : UInt8) : isD c = true → 48 ≤ c.toNat ∧ c.toNat ≤ 57 := by rw [isD_iff]; intro h; simpa using h
theorem rd_t {t : List UInt8} {i : Nat} (h : (bif decide ((i : Int) < (t.length : Int)) then (bif decide (((t.getD i 0).toNat : Int) ≥ 48) then decide (((t.getD i 0).toNat : Int) ≤ 57) else false) else false) = true) : i < t.length ∧ isD (t.getD i 0) = true ∧ 48 ≤ (t.getD i 0).toNat ∧ (t.getD i 0).toNat ≤ 57 := by
  by_cases h1 : (i : Int) < (t.length : Int)
  · rw [decide_eq_true h1, cond_true] at h
    by_cases h2 : ((t.getD i 0).toNat : Int) ≥ 48
    · rw [decide_eq_true h2, cond_true] at h
      have := of_decide_eq_true h
      have h48 : 48 ≤ (t.getD i 0).toNat := by omega
      have h57 : (t.getD i 0).toNat ≤ 57 := by omega
      refine ⟨by omega, ?_, h48, h57⟩
      rw [isD_iff, decide_eq_true h48, decide_eq_true h57]; rfl
    · rw [decide_eq_false h2] at h; cases h
  · rw [decide_eq_false h1] at h; cases h
theorem rd_f {t : List UInt8} {i : Nat} (h : (bif decide ((i : Int) < (t.length : Int)) then (bif decide (((t.getD i 0).toNat : Int) ≥ 48) then decide (((t.getD i 0).toNat : Int) ≤ 57) else false) else false) = false) : i < t.length → isD (t.getD i 0) = false := by
  intro hi
  rw [decide_eq_true (show (i : Int) < (t.length : Int) by omega), cond_true] at h
  rw [isD_iff]
  by_cases h2 : ((t.getD i 0).toNat : Int) ≥ 48
  · rw [decide_eq_true h2, cond_true] at h
    have := of_decide_eq_false h
    have e : decide ((t.getD i 0).toNat ≤ 57) = false := by simp only [decide_eq_false_iff_not]; omega
    rw [e, Bool.and_false]
  · have e : decide (48 ≤ (t.getD i 0).toNat) = false := by simp only [decide_eq_false_iff_not]; omega
    rw [e, Bool.false_and]
theorem ru_t {i u : Nat} (h : (bif (i : Int) == 0 then true else (u : Int) == 0) = true) : i = 0 ∨ u = 0 := by
  by_cases h1 : i = 0
  · exact .inl h1
  · rw [beq_eq_false_iff_ne.2 (show (i : Int) ≠ 0 by omega), cond_false] at h
    have := eq_of_beq h
    exact .inr (by omega)
theorem ru_f {i u : Nat} (h : (bif (i : Int) == 0 then true else (u : Int) == 0) = false) : i ≠ 0 ∧ u ≠ 0 := by
  by_cases h1 : i = 0
  · subst h1; simp at h
  · rw [beq_eq_false_iff_ne.2 (show (i : Int) ≠ 0 by omega), cond_false] at h
    have := beq_eq_false_iff_ne.1 h
    exact ⟨h1, by omega⟩
/-- Where the reader stopped. -/
structure Stop (t : List UInt8) (i : Nat) : Prop where
  tw : t.takeWhile isD = t.take i
  dw : t.dropWhile isD = t.drop i
  le : i ≤ t.length
theorem Stop.of {t : List UInt8} {i : Nat} (hi : i ≤ t.length) (hall : ∀ j, j < i → isD (t.getD j 0) = true) (hs : i < t.length → isD (t.getD i 0) = false) : Stop t i := by
  obtain ⟨h1, h2⟩ := tw_to isD t i hi hall hs
  exact ⟨h1, h2, hi⟩
theorem rq_none {t : List UInt8} {i : Nat} (hs : Stop t i) (h : i = 0 ∨ unitOf (t.drop i) = 0) : qv t = 0 ∧ (quantV t).isSome = false := by
  have : quantV t = none := by
    unfold quantV
    rw [hs.tw, hs.dw, if_pos]
    rcases h with h | h
    · subst h; exact .inl rfl
    · exact .inr h
  simp [qv, this]
theorem rq_some {t : List UInt8} {i : Nat} (hs : Stop t i) (h : i ≠ 0 ∧ unitOf (t.drop i) ≠ 0) : qv t = satN (decV (t.take i) * unitOf (t.drop i)) ∧ (quantV t).isSome = true := by
  have : quantV t = some (satN (decV (t.take i) * unitOf (t.drop i))) := by
    unfold quantV
    rw [hs.tw, hs.dw, if_neg]
    rintro (h2 | h2)
    · have := congrArg List.length h2
      have hle := hs.le
      rw [List.length_take, List.length_nil] at this; omega
    · exact h.2 h2
  simp [qv, this]
theorem conv_dig {n : Nat} (h : n < 10) : IntKind.u8.wrap ((48 + n : Nat) : Int) = (((UInt8.ofNat (48 + n)).toNat : Nat) : Int) := by
  rw [IntWalk.u8_in _ (by omega), UInt8.toNat_ofNat_of_lt' (by show 48 + n < 256; omega)]
theorem digs_one {n : Nat} (h : n < 10) : [UInt8.ofNat (48 + n)] = digs n := (digs_small h).symm
theorem digs_len20 (n : Nat) (h : n ≤ 9223372036854775807) : (digs n).length ≤ 19 := digs_len n 19 (by omega) (by decide)

set_option maxRecDepth 20000 in
theorem Read_any (t : List UInt8) (hl : t.length ≤ 140737488355328) (M : Nat → Option (List AV)) : ACall Tryd.prog 20 [.str t] M (fun r M' => r = .tuple [.lit (.int .i64 ((qv t : Nat) : Int)), .lit (.int .i64 (qe t))] ∧ M = M') := by
  have hdl := dw_le isD t
  have htl := tw_le isD t
  have hul := unitOf_le (t.dropWhile isD)
  refine ACall.of Tryd.func20 rfl (n := 44) rfl rfl rfl ?_
  refine AWp.seq (AWp.region ?_)
  refine AOps.read trivial rfl (by decide) (Reader.move (.inr rfl) (ok_const rfl) (v := .lit (.int .i64 0)) rfl) ?_
  refine AOps.read trivial rfl (by decide) (Reader.move (.inr rfl) (ok_const rfl) (v := .lit (.int .i64 0)) rfl) ?_
  refine AOps.nil ?_
  refine AWp.seq (AWp.region ?_)
  refine AOps.read trivial rfl (by decide) (Reader.move (.inl rfl) (ok_const rfl) (v := .str t) rfl) ?_
  refine AOps.call (args := [.str t, .str [48, 49, 50, 51, 52, 53, 54, 55, 56, 57]]) trivial rfl (by decide) rfl rfl Tryd.call45 (args_ok rfl) rfl (by intro j x v hx hv; match j, hx, hv with | 0, hx, hv => cases hx; cases hv; exact .inl ⟨rfl, rfl⟩ | 1, hx, hv => cases hx; cases hv; exact .inl ⟨rfl, rfl⟩ | _ + 2, hx, hv => cases hx) (trim_any t M) ?_
  rintro _ _ ⟨rfl, rfl⟩
  refine AOps.read trivial rfl (by decide) (Reader.move (.inr rfl) (ok_const rfl) (v := .str (t.dropWhile isD)) rfl) ?_
  refine AOps.nil ?_
  refine AWp.seq (AWp.region ?_)
  refine AOps.read trivial rfl (by decide) (Reader.move (.inl rfl) (ok_const rfl) (v := .str t) rfl) ?_
  refine AOps.read trivial rfl (by decide) (Reader.move (.inl rfl) (ok_const rfl) (v := .str t) rfl) ?_
  refine AOps.read trivial rfl (by decide) (Reader.lenStr' (l := t) rfl rfl rfl rfl Tryd.underlying9 rfl (m := t.length) (by first | rfl | simp)) ?_
  refine AOps.read trivial rfl (by decide) (Reader.move (.inl rfl) (ok_const rfl) (v := .str (t.dropWhile isD)) rfl) ?_
  refine AOps.read trivial rfl (by decide) (Reader.lenStr' (l := t.dropWhile isD) rfl rfl rfl rfl Tryd.underlying9 rfl (m := (t.dropWhile isD).length) (by first | rfl | simp)) ?_
  refine AOps.read trivial rfl (by decide) (Reader.sum rfl rfl rfl (m := (t.length : Int) - (((t.dropWhile isD).length : Nat) : Int)) (c := ((t.length - ((t.dropWhile isD).length) : Nat) : Int)) rfl (by rw [IntWalk.i64_in _ (by omega)]; omega)) ?_
  refine AOps.read trivial rfl (by decide) (Reader.sub (i := 0) (j := t.length - ((t.dropWhile isD).length)) rfl Tryd.underlying9 rfl rfl ⟨_, _, rfl, rfl⟩ (by first | omega | (simp; omega)) (by first | omega | (simp; omega)) (m := (t.takeWhile isD)) (tw_take isD t)) ?_
  refine AOps.read trivial rfl (by decide) (Reader.move (.inr rfl) (ok_const rfl) (v := .str (t.takeWhile isD)) rfl) ?_
  refine AOps.nil ?_
  refine AWp.seq (AWp.region ?_)
  refine AOps.read trivial rfl (by decide) (Reader.move (.inl rfl) (ok_const rfl) (v := .str (t.dropWhile isD)) rfl) ?_
  refine AOps.call (args := [.str (t.dropWhile isD)]) trivial rfl (by decide) rfl rfl Tryd.call42 (args_ok rfl) rfl (by intro j x v hx hv; match j, hx, hv with | 0, hx, hv => cases hx; cases hv; exact .inl ⟨rfl, rfl⟩ | _ + 1, hx, hv => cases hx) (Unit_any (t.dropWhile isD) M) ?_
  rintro _ _ ⟨rfl, rfl⟩
  refine AOps.read trivial rfl (by decide) (Reader.move (.inr rfl) (ok_const rfl) (v := .lit (.int .i64 ((unitOf (t.dropWhile isD) : Nat) : Int))) rfl) ?_
  refine AOps.nil ?_
  refine AWp.seq ?_
  refine AWp.regionJ [26, 0, 2, 3, 4, 5, 6] [] (fun z => ⟨(26, .lit (.bool z)) :: [(0, .str t), (2, .lit (.int .i64 0)), (3, .lit (.int .i64 0)), (4, .str (t.dropWhile isD)), (5, .str (t.takeWhile isD)), (6, .lit (.int .i64 ((unitOf (t.dropWhile isD) : Nat) : Int)))], [], M⟩) (z := bif ((t.takeWhile isD) == []) then true else (((unitOf (t.dropWhile isD) : Nat) : Int) == 0)) ?_ ?_
  · skip
    refine AOps.read trivial rfl (by decide) (Reader.move (.inl rfl) (ok_const rfl) (v := .str (t.takeWhile isD)) rfl) ?_
    refine AOps.read trivial rfl (by decide) (Reader.strs rfl rfl rfl (r := (t.takeWhile isD) == []) rfl) ?_
    refine AOps.read trivial rfl (by decide) (Reader.move (.inl rfl) (ok_const rfl) (v := .lit (.bool ((t.takeWhile isD) == []))) rfl) ?_
    refine AOps.splitJ (t := 23) (b := (t.takeWhile isD) == []) (x := true) (y := (((unitOf (t.dropWhile isD) : Nat) : Int) == 0)) rfl (fun h1 => ?_) (fun h1 => ?_)
    · skip
      have h1' : (t.takeWhile isD) = [] := (eq_of_beq h1)
      clear h1
      refine AOps.skip ⟨2, false, 23, _, rfl, rfl, rfl, by simp⟩ rfl (by decide) ?_
      refine AOps.skip ⟨2, false, 23, _, rfl, rfl, rfl, by simp⟩ rfl (by decide) ?_
      refine AOps.read trivial rfl (by decide) (Reader.pick rfl (b := true) rfl (ok_const rfl) (ok_const rfl) (v := .lit (.bool true)) rfl) ?_
      exact AOps.nil rfl
    · skip
      have h1' : ¬ ((t.takeWhile isD) = []) := (beq_eq_false_iff_ne.1 h1)
      clear h1
      refine AOps.read ⟨23, rfl, rfl⟩ rfl (by decide) (Reader.move (.inl rfl) (ok_const rfl) (v := .lit (.int .i64 ((unitOf (t.dropWhile isD) : Nat) : Int))) rfl) ?_
      refine AOps.read ⟨23, rfl, rfl⟩ rfl (by decide) (Reader.int rfl rfl rfl (r := .bool (((unitOf (t.dropWhile isD) : Nat) : Int) == 0)) rfl) ?_
      refine AOps.read trivial rfl (by decide) (Reader.pick rfl (b := false) rfl (ok_const rfl) (ok_const rfl) (v := .lit (.bool (((unitOf (t.dropWhile isD) : Nat) : Int) == 0))) rfl) ?_
      exact AOps.nil rfl
  refine AWp.cond (b := bif ((t.takeWhile isD) == []) then true else (((unitOf (t.dropWhile isD) : Nat) : Int) == 0)) rfl (fun h2 => ?_) (fun h2 => ?_)
  · skip
    have h2' : quantV t = none := (qbad_of h2)
    clear h2
    refine AWp.seq (AWp.region ?_)
    refine AOps.read trivial rfl (by decide) (Reader.move (.inr rfl) (ok_const rfl) (v := .lit (.int .i64 0)) rfl) ?_
    refine AOps.read trivial rfl (by decide) (Reader.move (.inr rfl) (ok_const rfl) (v := .lit (.int .i64 2)) rfl) ?_
    refine AOps.nil ?_
    refine AWp.ret ?_
    exact ⟨.inl rfl, _, ResOf.two 2 3 (.lit (.int .i64 0)) (.lit (.int .i64 2)) rfl rfl (.inl rfl) (.inl rfl) (by decide), ⟨by rw [(q_none (by assumption)).1, (q_none (by assumption)).2]; rfl, rfl⟩⟩
  · skip
    have h2' : quantV t = some (satN (decV (t.takeWhile isD) * unitOf (t.dropWhile isD))) := (qgood_of h2)
    clear h2
    refine AWp.skip ?_
    refine AWp.seq (AWp.region ?_)
    refine AOps.read trivial rfl (by decide) (Reader.move (.inr rfl) (ok_const rfl) (v := .lit (.int .i64 0)) rfl) ?_
    refine AOps.nil ?_
    refine AWp.seq ?_
    refine AWp.seq (AWp.region ?_)
    refine AOps.read trivial rfl (by decide) (Reader.move (.inl rfl) (ok_const rfl) (v := .str (t.takeWhile isD)) rfl) ?_
    refine AOps.toBytes (D := .bool) trivial rfl (by decide) rfl Tryd.underlying9 Tryd.underlying31 Tryd.underlying5 rfl (sizeOf_5) (by first | omega | (simp; omega)) ?_
    refine AOps.read trivial rfl (by decide) (Reader.len' (xs := byteAVs (t.takeWhile isD)) rfl rfl rfl rfl Tryd.underlying31 rfl (m := (t.takeWhile isD).length) (byteAVs_len _)) ?_
    refine AOps.read trivial rfl (by decide) (Reader.move (.inl rfl) (ok_const rfl) (v := .lit (.int .i64 0)) rfl) ?_
    refine AOps.nil ?_
    refine AWp.block ?_
    refine AWp.loopE [4, 6, 7, 28, 29, 30] [] (fun m s => ∃ (k : Nat), m = (t.takeWhile isD).length - k ∧ s = ⟨[(4, .str (t.dropWhile isD)), (6, .lit (.int .i64 ((unitOf (t.dropWhile isD) : Nat) : Int))), (7, .lit (.int .i64 ((decV ((t.takeWhile isD).take k) : Nat) : Int))), (28, .list false 5 (byteAVs (t.takeWhile isD))), (29, .lit (.int .i64 (((t.takeWhile isD).length : Nat) : Int))), (30, .lit (.int .i64 (k : Int)))], [], M⟩ ∧ (k ≤ (t.takeWhile isD).length) ∧ (quantV t = some (satN (decV (t.takeWhile isD) * unitOf (t.dropWhile isD))))) ?_ ?_
    · exact ⟨_, 0, rfl, rfl, Nat.zero_le _, by assumption⟩
    · rintro _ _ ⟨k, rfl, rfl, hk, hq⟩
      have hdg := tw_dig t k
      have hdv := decV_le ((t.takeWhile isD).take k)
      have hs1 := satN_le (decV ((t.takeWhile isD).take k) * 10)
      refine AWp.seq (AWp.region ?_)
      refine AOps.read trivial rfl (by decide) (Reader.int rfl rfl rfl (r := .bool (decide ((k : Int) < (((t.takeWhile isD).length : Nat) : Int)))) rfl) ?_
      refine AOps.nil ?_
      refine AWp.seq ?_
      refine AWp.cond (b := decide ((k : Int) < (((t.takeWhile isD).length : Nat) : Int))) rfl (fun h3 => ?_) (fun h3 => ?_)
      · skip
        have h3' : k < ((t.takeWhile isD).length) := (by have hh := of_decide_eq_true h3; omega)
        clear h3
        refine AWp.skip ?_
        refine AWp.seq ?_
        refine AWp.block ?_
        refine AWp.seq (AWp.region ?_)
        refine AOps.read trivial rfl (by decide) (Reader.elemAddr (m := k) rfl Tryd.underlying31 sizeOf_5 rfl rfl rfl (e := .lit (.int .u8 (((t.takeWhile isD).getD k 0).toNat : Int))) (byteAVs_at (by first | omega | (simp; omega)))) ?_
        refine AOps.read trivial rfl (by decide) (Reader.loadE rfl Tryd.underlying5 sizeOf_5 rfl (v := .lit (.int .u8 (((t.takeWhile isD).getD k 0).toNat : Int))) rfl rfl) ?_
        refine AOps.read trivial rfl (by decide) (Reader.move (.inr rfl) (ok_const rfl) (v := .lit (.int .u8 (((t.takeWhile isD).getD k 0).toNat : Int))) rfl) ?_
        refine AOps.nil ?_
        refine AWp.region ?_
        refine AOps.read trivial rfl (by decide) (Reader.move (.inl rfl) (ok_const rfl) (v := .lit (.int .i64 ((decV ((t.takeWhile isD).take k) : Nat) : Int))) rfl) ?_
        refine AOps.call (args := [.lit (.int .i64 ((decV ((t.takeWhile isD).take k) : Nat) : Int)), .lit (.int .i64 10)]) trivial rfl (by decide) rfl rfl Tryd.call47 (args_ok rfl) rfl (by intro j x v hx hv; match j, hx, hv with | 0, hx, hv => cases hx; cases hv; exact .inl ⟨rfl, rfl⟩ | 1, hx, hv => cases hx; cases hv; exact .inl ⟨rfl, rfl⟩ | _ + 2, hx, hv => cases hx) (sat_mulN (decV ((t.takeWhile isD).take k)) 10 (by first | assumption | omega) (by first | assumption | omega) M) ?_
        rintro _ _ ⟨rfl, rfl⟩
        refine AOps.read trivial rfl (by decide) (Reader.move (.inl rfl) (ok_const rfl) (v := .lit (.int .u8 (((t.takeWhile isD).getD k 0).toNat : Int))) rfl) ?_
        refine AOps.read trivial rfl (by decide) (Reader.sum rfl rfl rfl (m := (((t.takeWhile isD).getD k 0).toNat : Int) - 48) (c := (((((t.takeWhile isD).getD k 0).toNat) - 48 : Nat) : Int)) rfl (by rw [IntWalk.u8_in _ (by omega)]; omega)) ?_
        refine AOps.read trivial rfl (by decide) (Reader.conv rfl Tryd.underlying5 Tryd.underlying3 (by simp) rfl (c := (((((t.takeWhile isD).getD k 0).toNat) - 48 : Nat) : Int)) (by first | exact IntWalk.i64_in _ (by omega) | exact IntWalk.i64_in _ (by constructor <;> omega) | (simp only [];omega))) ?_
        refine AOps.call (args := [.lit (.int .i64 ((satN ((decV ((t.takeWhile isD).take k)) * 10) : Nat) : Int)), .lit (.int .i64 (((((t.takeWhile isD).getD k 0).toNat) - 48 : Nat) : Int))]) trivial rfl (by decide) rfl rfl Tryd.call46 (args_ok rfl) rfl (by intro j x v hx hv; match j, hx, hv with | 0, hx, hv => cases hx; cases hv; exact .inl ⟨rfl, rfl⟩ | 1, hx, hv => cases hx; cases hv; exact .inl ⟨rfl, rfl⟩ | _ + 2, hx, hv => cases hx) (sat_addN (satN ((decV ((t.takeWhile isD).take k)) * 10)) ((((t.takeWhile isD).getD k 0).toNat) - 48) (by first | assumption | omega) (by first | assumption | omega) M) ?_
        rintro _ _ ⟨rfl, rfl⟩
        refine AOps.read trivial rfl (by decide) (Reader.move (.inr rfl) (ok_const rfl) (v := .lit (.int .i64 ((satN ((satN ((decV ((t.takeWhile isD).take k)) * 10)) + ((((t.takeWhile isD).getD k 0).toNat) - 48)) : Nat) : Int))) rfl) ?_
        refine AOps.nil ?_
        refine AWp.region ?_
        refine AOps.read trivial rfl (by decide) (Reader.sum rfl rfl rfl (m := (k : Int) + 1) (c := ((k + 1 : Nat) : Int)) rfl (by first | exact IntWalk.i64_in _ (by omega) | exact IntWalk.i64_in _ (by constructor <;> omega) | (simp only [];omega))) ?_
        refine AOps.read trivial rfl (by decide) (Reader.move (.inl rfl) (ok_const rfl) (v := .lit (.int .i64 ((k + 1 : Nat) : Int))) rfl) ?_
        refine AOps.nil ?_
        exact ⟨_, by omega, k + 1, rfl, (by rw [← decV_step (by omega)]; rfl), by omega, hq⟩
      · skip
        have h3' : ¬ (k < ((t.takeWhile isD).length)) := (by have hh := of_decide_eq_false h3; omega)
        clear h3
        refine AWp.exit ?_
        refine AWp.seq (AWp.region ?_)
        refine AOps.read trivial rfl (by decide) (Reader.move (.inl rfl) (ok_const rfl) (v := .lit (.int .i64 ((decV ((t.takeWhile isD).take k) : Nat) : Int))) rfl) ?_
        refine AOps.read trivial rfl (by decide) (Reader.move (.inl rfl) (ok_const rfl) (v := .lit (.int .i64 ((unitOf (t.dropWhile isD) : Nat) : Int))) rfl) ?_
        refine AOps.call (args := [.lit (.int .i64 ((decV ((t.takeWhile isD).take k) : Nat) : Int)), .lit (.int .i64 ((unitOf (t.dropWhile isD) : Nat) : Int))]) trivial rfl (by decide) rfl rfl Tryd.call47 (args_ok rfl) rfl (by intro j x v hx hv; match j, hx, hv with | 0, hx, hv => cases hx; cases hv; exact .inl ⟨rfl, rfl⟩ | 1, hx, hv => cases hx; cases hv; exact .inl ⟨rfl, rfl⟩ | _ + 2, hx, hv => cases hx) (sat_mulN (decV ((t.takeWhile isD).take k)) (unitOf (t.dropWhile isD)) (by first | assumption | omega) (by first | assumption | omega) M) ?_
        rintro _ _ ⟨rfl, rfl⟩
        refine AOps.read trivial rfl (by decide) (Reader.move (.inr rfl) (ok_const rfl) (v := .lit (.int .i64 ((satN ((decV ((t.takeWhile isD).take k)) * (unitOf (t.dropWhile isD))) : Nat) : Int))) rfl) ?_
        refine AOps.read trivial rfl (by decide) (Reader.move (.inr rfl) (ok_const rfl) (v := .lit (.int .i64 0)) rfl) ?_
        refine AOps.nil ?_
        refine AWp.ret ?_
        exact ⟨.inl rfl, _, ResOf.two 2 3 (.lit (.int .i64 ((satN ((decV ((t.takeWhile isD).take k)) * (unitOf (t.dropWhile isD))) : Nat) : Int))) (.lit (.int .i64 0)) rfl rfl (.inl rfl) (.inl rfl) (by decide), ⟨by rw [(q_some hq).1, (q_some hq).2, List.take_of_length_le (by omega)], rfl⟩⟩

set_option maxRecDepth 20000 in
theorem rRead_any (t : List UInt8) (hl : t.length ≤ 140737488355328) (M : Nat → Option (List AV)) : ACall Tryd.prog 67 [.str t] M (fun r M' => r = .tuple [.lit (.int .i64 ((qv t : Nat) : Int)), .lit (.bool (quantV t).isSome)] ∧ M = M') := by
  have hul := fun i => unitOf_le (t.drop i)
  refine ACall.of Tryd.func67 rfl (n := 46) rfl rfl rfl ?_
  refine AWp.seq (AWp.region ?_)
  refine AOps.read trivial rfl (by decide) (Reader.move (.inr rfl) (ok_const rfl) (v := .lit (.int .i64 0)) rfl) ?_
  refine AOps.read trivial rfl (by decide) (Reader.move (.inr rfl) (ok_const rfl) (v := .lit (.bool false)) rfl) ?_
  refine AOps.nil ?_
  refine AWp.seq (AWp.region ?_)
  refine AOps.read trivial rfl (by decide) (Reader.move (.inr rfl) (ok_const rfl) (v := .lit (.int .i64 0)) rfl) ?_
  refine AOps.nil ?_
  refine AWp.seq (AWp.region ?_)
  refine AOps.read trivial rfl (by decide) (Reader.move (.inr rfl) (ok_const rfl) (v := .lit (.int .i64 0)) rfl) ?_
  refine AOps.nil ?_
  refine AWp.seq ?_
  refine AWp.block ?_
  refine AWp.loopE [0, 4, 5] [] (fun m s => ∃ (i : Nat), m = t.length - i ∧ s = ⟨[(0, .str t), (4, .lit (.int .i64 (i : Int))), (5, .lit (.int .i64 ((decV (t.take i) : Nat) : Int)))], [], M⟩ ∧ (i ≤ t.length) ∧ (∀ j, j < i → isD (t.getD j 0) = true)) ?_ ?_
  · exact ⟨_, 0, rfl, rfl, Nat.zero_le _, fun j hj => by omega⟩
  · rintro _ _ ⟨i, rfl, rfl, hi, hall⟩
    have hdv := decV_le (t.take i)
    have hs1 := satN_le (decV (t.take i) * 10)
    have hui := unitOf_le (t.drop i)
    refine AWp.seq ?_
    refine AWp.regionJ [22, 0, 4, 5] [] (fun z => ⟨(22, .lit (.bool z)) :: [(0, .str t), (4, .lit (.int .i64 (i : Int))), (5, .lit (.int .i64 ((decV (t.take i) : Nat) : Int)))], [], M⟩) (z := bif (decide ((i : Int) < (t.length : Int))) then (bif (decide (((t.getD i 0).toNat : Int) ≥ 48)) then (decide (((t.getD i 0).toNat : Int) ≤ 57)) else false) else false) ?_ ?_
    · skip
      refine AOps.read trivial rfl (by decide) (Reader.move (.inl rfl) (ok_const rfl) (v := .lit (.int .i64 (i : Int))) rfl) ?_
      refine AOps.read trivial rfl (by decide) (Reader.move (.inl rfl) (ok_const rfl) (v := .str t) rfl) ?_
      refine AOps.read trivial rfl (by decide) (Reader.lenStr' (l := t) rfl rfl rfl rfl Tryd.underlying9 rfl (m := t.length) (by first | rfl | simp)) ?_
      refine AOps.read trivial rfl (by decide) (Reader.int rfl rfl rfl (r := .bool (decide ((i : Int) < (t.length : Int)))) rfl) ?_
      refine AOps.read trivial rfl (by decide) (Reader.move (.inl rfl) (ok_const rfl) (v := .lit (.bool (decide ((i : Int) < (t.length : Int))))) rfl) ?_
      refine AOps.splitJ (t := 11) (b := decide ((i : Int) < (t.length : Int))) (x := (bif (decide (((t.getD i 0).toNat : Int) ≥ 48)) then (decide (((t.getD i 0).toNat : Int) ≤ 57)) else false)) (y := false) rfl (fun h1 => ?_) (fun h1 => ?_)
      · skip
        have h1' : i < t.length := (by have hh := of_decide_eq_true h1; omega)
        clear h1
        refine AOps.read ⟨11, rfl, rfl⟩ rfl (by decide) (Reader.move (.inl rfl) (ok_const rfl) (v := .str t) rfl) ?_
        refine AOps.read ⟨11, rfl, rfl⟩ rfl (by decide) (Reader.move (.inl rfl) (ok_const rfl) (v := .lit (.int .i64 (i : Int))) rfl) ?_
        refine AOps.read ⟨11, rfl, rfl⟩ rfl (by decide) (Reader.byte (m := i) (c := t.getD i 0) rfl Tryd.underlying9 rfl rfl rfl (getD_some (by first | omega | (simp; omega)))) ?_
        refine AOps.read ⟨11, rfl, rfl⟩ rfl (by decide) (Reader.int rfl rfl rfl (r := .bool (decide (((t.getD i 0).toNat : Int) ≥ 48))) rfl) ?_
        refine AOps.read trivial rfl (by decide) (Reader.pick rfl (b := true) rfl (ok_const rfl) (ok_const rfl) (v := .lit (.bool (decide (((t.getD i 0).toNat : Int) ≥ 48)))) rfl) ?_
        refine AOps.read trivial rfl (by decide) (Reader.move (.inl rfl) (ok_const rfl) (v := .lit (.bool (decide (((t.getD i 0).toNat : Int) ≥ 48)))) rfl) ?_
        refine AOps.splitJ (t := 17) (b := decide (((t.getD i 0).toNat : Int) ≥ 48)) (x := (decide (((t.getD i 0).toNat : Int) ≤ 57))) (y := false) rfl (fun h2 => ?_) (fun h2 => ?_)
        · skip
          have h2' : ((t.getD i 0).toNat) ≥ 48 := (by have hh := of_decide_eq_true h2; omega)
          clear h2
          refine AOps.read ⟨17, rfl, rfl⟩ rfl (by decide) (Reader.move (.inl rfl) (ok_const rfl) (v := .str t) rfl) ?_
          refine AOps.read ⟨17, rfl, rfl⟩ rfl (by decide) (Reader.move (.inl rfl) (ok_const rfl) (v := .lit (.int .i64 (i : Int))) rfl) ?_
          refine AOps.read ⟨17, rfl, rfl⟩ rfl (by decide) (Reader.byte (m := i) (c := t.getD i 0) rfl Tryd.underlying9 rfl rfl rfl (getD_some (by first | omega | (simp; omega)))) ?_
          refine AOps.read ⟨17, rfl, rfl⟩ rfl (by decide) (Reader.int rfl rfl rfl (r := .bool (decide (((t.getD i 0).toNat : Int) ≤ 57))) rfl) ?_
          refine AOps.read trivial rfl (by decide) (Reader.pick rfl (b := true) rfl (ok_const rfl) (ok_const rfl) (v := .lit (.bool (decide (((t.getD i 0).toNat : Int) ≤ 57)))) rfl) ?_
          exact AOps.nil rfl
        · skip
          have h2' : ¬ (((t.getD i 0).toNat) ≥ 48) := (by have hh := of_decide_eq_false h2; omega)
          clear h2
          refine AOps.skip ⟨10, true, 17, _, rfl, rfl, rfl, by simp⟩ rfl (by decide) ?_
          refine AOps.skip ⟨10, true, 17, _, rfl, rfl, rfl, by simp⟩ rfl (by decide) ?_
          refine AOps.skip ⟨10, true, 17, _, rfl, rfl, rfl, by simp⟩ rfl (by decide) ?_
          refine AOps.skip ⟨10, true, 17, _, rfl, rfl, rfl, by simp⟩ rfl (by decide) ?_
          refine AOps.read trivial rfl (by decide) (Reader.pick rfl (b := false) rfl (ok_const rfl) (ok_const rfl) (v := .lit (.bool false)) rfl) ?_
          exact AOps.nil rfl
      · skip
        have h1' : ¬ (i < t.length) := (by have hh := of_decide_eq_false h1; omega)
        clear h1
        refine AOps.skip ⟨4, true, 11, _, rfl, rfl, rfl, by simp⟩ rfl (by decide) ?_
        refine AOps.skip ⟨4, true, 11, _, rfl, rfl, rfl, by simp⟩ rfl (by decide) ?_
        refine AOps.skip ⟨4, true, 11, _, rfl, rfl, rfl, by simp⟩ rfl (by decide) ?_
        refine AOps.skip ⟨4, true, 11, _, rfl, rfl, rfl, by simp⟩ rfl (by decide) ?_
        refine AOps.read trivial rfl (by decide) (Reader.pick rfl (b := false) rfl (ok_const rfl) (ok_const rfl) (v := .lit (.bool false)) rfl) ?_
        refine AOps.read trivial rfl (by decide) (Reader.move (.inl rfl) (ok_const rfl) (v := .lit (.bool false)) rfl) ?_
        refine AOps.skip ⟨10, true, 17, _, rfl, rfl, rfl, by simp⟩ rfl (by decide) ?_
        refine AOps.skip ⟨10, true, 17, _, rfl, rfl, rfl, by simp⟩ rfl (by decide) ?_
        refine AOps.skip ⟨10, true, 17, _, rfl, rfl, rfl, by simp⟩ rfl (by decide) ?_
        refine AOps.skip ⟨10, true, 17, _, rfl, rfl, rfl, by simp⟩ rfl (by decide) ?_
        refine AOps.read trivial rfl (by decide) (Reader.pick rfl (b := false) rfl (ok_const rfl) (ok_const rfl) (v := .lit (.bool false)) rfl) ?_
        exact AOps.nil rfl
    refine AWp.cond (b := bif (decide ((i : Int) < (t.length : Int))) then (bif (decide (((t.getD i 0).toNat : Int) ≥ 48)) then (decide (((t.getD i 0).toNat : Int) ≤ 57)) else false) else false) rfl (fun h3 => ?_) (fun h3 => ?_)
    · skip
      have h3' : i < t.length ∧ isD (t.getD i 0) = true ∧ 48 ≤ (t.getD i 0).toNat ∧ (t.getD i 0).toNat ≤ 57 := (rd_t h3)
      clear h3
      refine AWp.skip ?_
      refine AWp.block ?_
      refine AWp.seq (AWp.drawn 8 (by kernel_rfl) (by kernel_rfl) ?_)
      refine AOpsE.read trivial rfl (by decide) (Reader.move (.inl rfl) (ok_const rfl) (v := .lit (.int .i64 ((decV (t.take i) : Nat) : Int))) rfl) ?_
      refine AOpsE.call (args := [.lit (.int .i64 ((decV (t.take i) : Nat) : Int)), .lit (.int .i64 10)]) (v := .lit (.int .i64 ((satN ((decV (t.take i)) * 10) : Nat) : Int))) trivial rfl (by decide) rfl rfl Tryd.call90 (args_ok rfl) rfl (by intro j x v hx hv; match j, hx, hv with | 0, hx, hv => cases hx; cases hv; exact .inl ⟨rfl, rfl⟩ | 1, hx, hv => cases hx; cases hv; exact .inl ⟨rfl, rfl⟩ | _ + 2, hx, hv => cases hx) (ref_mulN (decV (t.take i)) 10 (by first | assumption | omega) (by first | assumption | omega) noM) rfl ?_
      refine AOpsE.read trivial rfl (by decide) (Reader.move (.inl rfl) (ok_const rfl) (v := .str t) rfl) ?_
      refine AOpsE.read trivial rfl (by decide) (Reader.move (.inl rfl) (ok_const rfl) (v := .lit (.int .i64 (i : Int))) rfl) ?_
      refine AOpsE.read trivial rfl (by decide) (Reader.byte (m := i) (c := t.getD i 0) rfl Tryd.underlying9 rfl rfl rfl (getD_some (by first | omega | (simp; omega)))) ?_
      refine AOpsE.read trivial rfl (by decide) (Reader.conv rfl Tryd.underlying5 Tryd.underlying3 (by simp) rfl (c := ((t.getD i 0).toNat : Int)) (by first | exact IntWalk.i64_in _ (by omega) | exact IntWalk.i64_in _ (by constructor <;> omega) | (simp only [];omega))) ?_
      refine AOpsE.read trivial rfl (by decide) (Reader.sum rfl rfl rfl (m := ((t.getD i 0).toNat : Int) - 48) (c := ((((t.getD i 0).toNat) - 48 : Nat) : Int)) rfl (by rw [IntWalk.i64_in _ (by omega)]; omega)) ?_
      refine AOpsE.call (args := [.lit (.int .i64 ((satN ((decV (t.take i)) * 10) : Nat) : Int)), .lit (.int .i64 ((((t.getD i 0).toNat) - 48 : Nat) : Int))]) (v := .lit (.int .i64 ((satN ((satN ((decV (t.take i)) * 10)) + (((t.getD i 0).toNat) - 48)) : Nat) : Int))) trivial rfl (by decide) rfl rfl Tryd.call89 (args_ok rfl) rfl (by intro j x v hx hv; match j, hx, hv with | 0, hx, hv => cases hx; cases hv; exact .inl ⟨rfl, rfl⟩ | 1, hx, hv => cases hx; cases hv; exact .inl ⟨rfl, rfl⟩ | _ + 2, hx, hv => cases hx) (ref_addN (satN ((decV (t.take i)) * 10)) (((t.getD i 0).toNat) - 48) (by first | assumption | omega) (by first | assumption | omega) noM) rfl ?_
      refine AOpsE.nil ?_
      refine AOps.read trivial rfl (by decide) (Reader.move (.inr rfl) (ok_const rfl) (v := .lit (.int .i64 ((satN ((satN ((decV (t.take i)) * 10)) + (((t.getD i 0).toNat) - 48)) : Nat) : Int))) rfl) ?_
      refine AOps.nil ?_
      refine AWp.region ?_
      refine AOps.read trivial rfl (by decide) (Reader.move (.inl rfl) (ok_const rfl) (v := .lit (.int .i64 (i : Int))) rfl) ?_
      refine AOps.read trivial rfl (by decide) (Reader.sum rfl rfl rfl (m := (i : Int) + 1) (c := ((i + 1 : Nat) : Int)) rfl (by first | exact IntWalk.i64_in _ (by omega) | exact IntWalk.i64_in _ (by constructor <;> omega) | (simp only [];omega))) ?_
      refine AOps.read trivial rfl (by decide) (Reader.move (.inr rfl) (ok_const rfl) (v := .lit (.int .i64 ((i + 1 : Nat) : Int))) rfl) ?_
      refine AOps.nil ?_
      exact ⟨_, by omega, i + 1, rfl, (by rw [← decV_step (by omega)]; rfl), by omega, nx_0 hall (by have hx := (by assumption : i < t.length ∧ isD (t.getD i 0) = true ∧ 48 ≤ (t.getD i 0).toNat ∧ (t.getD i 0).toNat ≤ 57); exact hx.2.1)⟩
    · skip
      have h3' : i < t.length → isD (t.getD i 0) = false := (rd_f h3)
      clear h3
      refine AWp.exit ?_
      refine AWp.seq (AWp.region ?_)
      refine AOps.read trivial rfl (by decide) (Reader.move (.inl rfl) (ok_const rfl) (v := .str t) rfl) ?_
      refine AOps.read trivial rfl (by decide) (Reader.move (.inl rfl) (ok_const rfl) (v := .lit (.int .i64 (i : Int))) rfl) ?_
      refine AOps.read trivial rfl (by decide) (Reader.sub (i := i) (j := t.length) rfl Tryd.underlying9 rfl ⟨_, _, rfl, rfl⟩ rfl (by first | omega | (simp; omega)) (by first | omega | (simp; omega)) (m := t.drop i) (by rw [List.take_length])) ?_
      refine AOps.call (args := [.str (t.drop i)]) trivial rfl (by decide) rfl rfl Tryd.call91 (args_ok rfl) rfl (by intro j x v hx hv; match j, hx, hv with | 0, hx, hv => cases hx; cases hv; exact .inl ⟨rfl, rfl⟩ | _ + 1, hx, hv => cases hx) (rUnit_any (t.drop i) M) ?_
      rintro _ _ ⟨rfl, rfl⟩
      refine AOps.read trivial rfl (by decide) (Reader.move (.inr rfl) (ok_const rfl) (v := .lit (.int .i64 ((unitOf (t.drop i) : Nat) : Int))) rfl) ?_
      refine AOps.nil ?_
      refine AWp.seq ?_
      refine AWp.regionJ [42, 22, 0, 4, 5, 6] [] (fun z => ⟨(42, .lit (.bool z)) :: [(22, .lit (.bool (bif (decide ((i : Int) < (t.length : Int))) then (bif (decide (((t.getD i 0).toNat : Int) ≥ 48)) then (decide (((t.getD i 0).toNat : Int) ≤ 57)) else false) else false))), (0, .str t), (4, .lit (.int .i64 (i : Int))), (5, .lit (.int .i64 ((decV (t.take i) : Nat) : Int))), (6, .lit (.int .i64 ((unitOf (t.drop i) : Nat) : Int)))], [], M⟩) (z := bif ((i : Int) == 0) then true else (((unitOf (t.drop i) : Nat) : Int) == 0)) ?_ ?_
      · skip
        refine AOps.read trivial rfl (by decide) (Reader.move (.inl rfl) (ok_const rfl) (v := .lit (.int .i64 (i : Int))) rfl) ?_
        refine AOps.read trivial rfl (by decide) (Reader.int rfl rfl rfl (r := .bool ((i : Int) == 0)) rfl) ?_
        refine AOps.read trivial rfl (by decide) (Reader.move (.inl rfl) (ok_const rfl) (v := .lit (.bool ((i : Int) == 0))) rfl) ?_
        refine AOps.splitJ (t := 39) (b := (i : Int) == 0) (x := true) (y := (((unitOf (t.drop i) : Nat) : Int) == 0)) rfl (fun h4 => ?_) (fun h4 => ?_)
        · skip
          have h4' : i = 0 := (by have hh := eq_of_beq h4; omega)
          clear h4
          refine AOps.skip ⟨2, false, 39, _, rfl, rfl, rfl, by simp⟩ rfl (by decide) ?_
          refine AOps.skip ⟨2, false, 39, _, rfl, rfl, rfl, by simp⟩ rfl (by decide) ?_
          refine AOps.read trivial rfl (by decide) (Reader.pick rfl (b := true) rfl (ok_const rfl) (ok_const rfl) (v := .lit (.bool true)) rfl) ?_
          exact AOps.nil rfl
        · skip
          have h4' : ¬ (i = 0) := (by have hh := beq_eq_false_iff_ne.1 h4; omega)
          clear h4
          refine AOps.read ⟨39, rfl, rfl⟩ rfl (by decide) (Reader.move (.inl rfl) (ok_const rfl) (v := .lit (.int .i64 ((unitOf (t.drop i) : Nat) : Int))) rfl) ?_
          refine AOps.read ⟨39, rfl, rfl⟩ rfl (by decide) (Reader.int rfl rfl rfl (r := .bool (((unitOf (t.drop i) : Nat) : Int) == 0)) rfl) ?_
          refine AOps.read trivial rfl (by decide) (Reader.pick rfl (b := false) rfl (ok_const rfl) (ok_const rfl) (v := .lit (.bool (((unitOf (t.drop i) : Nat) : Int) == 0))) rfl) ?_
          exact AOps.nil rfl
      refine AWp.cond (b := bif ((i : Int) == 0) then true else (((unitOf (t.drop i) : Nat) : Int) == 0)) rfl (fun h5 => ?_) (fun h5 => ?_)
      · skip
        have h5' : i = 0 ∨ unitOf (t.drop i) = 0 := (ru_t h5)
        clear h5
        refine AWp.seq (AWp.region ?_)
        refine AOps.read trivial rfl (by decide) (Reader.move (.inr rfl) (ok_const rfl) (v := .lit (.int .i64 0)) rfl) ?_
        refine AOps.read trivial rfl (by decide) (Reader.move (.inr rfl) (ok_const rfl) (v := .lit (.bool false)) rfl) ?_
        refine AOps.nil ?_
        refine AWp.ret ?_
        have hst := Stop.of hi hall (by assumption)
        exact ⟨.inl rfl, _, ResOf.two 2 3 (.lit (.int .i64 0)) (.lit (.bool false)) rfl rfl (.inl rfl) (.inl rfl) (by decide), ⟨by rw [(rq_none hst (by assumption)).1, (rq_none hst (by assumption)).2]; rfl, rfl⟩⟩
      · skip
        have h5' : i ≠ 0 ∧ unitOf (t.drop i) ≠ 0 := (ru_f h5)
        clear h5
        refine AWp.skip ?_
        refine AWp.seq (AWp.region ?_)
        refine AOps.read trivial rfl (by decide) (Reader.move (.inl rfl) (ok_const rfl) (v := .lit (.int .i64 ((decV (t.take i) : Nat) : Int))) rfl) ?_
        refine AOps.read trivial rfl (by decide) (Reader.move (.inl rfl) (ok_const rfl) (v := .lit (.int .i64 ((unitOf (t.drop i) : Nat) : Int))) rfl) ?_
        refine AOps.call (args := [.lit (.int .i64 ((decV (t.take i) : Nat) : Int)), .lit (.int .i64 ((unitOf (t.drop i) : Nat) : Int))]) trivial rfl (by decide) rfl rfl Tryd.call90 (args_ok rfl) rfl (by intro j x v hx hv; match j, hx, hv with | 0, hx, hv => cases hx; cases hv; exact .inl ⟨rfl, rfl⟩ | 1, hx, hv => cases hx; cases hv; exact .inl ⟨rfl, rfl⟩ | _ + 2, hx, hv => cases hx) (ref_mulN (decV (t.take i)) (unitOf (t.drop i)) (by first | assumption | omega) (by first | assumption | omega) M) ?_
        rintro _ _ ⟨rfl, rfl⟩
        refine AOps.read trivial rfl (by decide) (Reader.move (.inr rfl) (ok_const rfl) (v := .lit (.int .i64 ((satN ((decV (t.take i)) * (unitOf (t.drop i))) : Nat) : Int))) rfl) ?_
        refine AOps.read trivial rfl (by decide) (Reader.move (.inr rfl) (ok_const rfl) (v := .lit (.bool true)) rfl) ?_
        refine AOps.nil ?_
        refine AWp.ret ?_
        have hst := Stop.of hi hall (by assumption)
        exact ⟨.inl rfl, _, ResOf.two 2 3 (.lit (.int .i64 ((satN ((decV (t.take i)) * (unitOf (t.drop i))) : Nat) : Int))) (.lit (.bool true)) rfl rfl (.inl rfl) (.inl rfl) (by decide), ⟨by rw [(rq_some hst (by assumption)).1, (rq_some hst (by assumption)).2], rfl⟩⟩

set_option maxRecDepth 20000 in
theorem digits_step (n : Nat) (hn : n ≤ 9223372036854775807) (IH : ∀ m, m < n → m ≤ 9223372036854775807 → ∀ M, ACall Tryd.prog 19 [.lit (.int .i64 (m : Int))] M (fun r M' => r = .str (digs m) ∧ M = M')) (M : Nat → Option (List AV)) : ACall Tryd.prog 19 [.lit (.int .i64 (n : Int))] M (fun r M' => r = .str (digs n) ∧ M = M') := by
  have hd1 := digs_len20 (n / 10) (by omega)
  have hd2 := digs_len20 (n % 10) (by omega)
  refine ACall.of Tryd.func19 rfl (n := 17) rfl rfl rfl ?_
  refine AWp.seq (AWp.region ?_)
  refine AOps.read trivial rfl (by decide) (Reader.move (.inr rfl) (ok_const rfl) (v := .str []) rfl) ?_
  refine AOps.nil ?_
  refine AWp.seq ?_
  refine AWp.seq (AWp.region ?_)
  refine AOps.read trivial rfl (by decide) (Reader.move (.inl rfl) (ok_const rfl) (v := .lit (.int .i64 (n : Int))) rfl) ?_
  refine AOps.read trivial rfl (by decide) (Reader.int rfl rfl rfl (r := .bool (decide ((n : Int) < 10))) rfl) ?_
  refine AOps.nil ?_
  refine AWp.cond (b := decide ((n : Int) < 10)) rfl (fun h1 => ?_) (fun h1 => ?_)
  · skip
    have h1' : n < 10 := (by have hh := of_decide_eq_true h1; omega)
    clear h1
    refine AWp.seq (AWp.region ?_)
    refine AOps.read trivial rfl (by decide) (Reader.move (.inl rfl) (ok_const rfl) (v := .lit (.int .i64 (n : Int))) rfl) ?_
    refine AOps.read trivial rfl (by decide) (Reader.sum rfl rfl rfl (m := 48 + (n : Int)) (c := ((48 + n : Nat) : Int)) rfl (by first | exact IntWalk.i64_in _ (by omega) | exact IntWalk.i64_in _ (by constructor <;> omega) | (simp only [];omega))) ?_
    refine AOps.read trivial rfl (by decide) (Reader.conv rfl Tryd.underlying3 Tryd.underlying5 (by simp) rfl (c := (((UInt8.ofNat (48 + n)).toNat : Nat) : Int)) (conv_dig (by omega))) ?_
    refine AOps.buildSlice (ys := [(0, .lit (.int .u8 (((UInt8.ofNat (48 + n)).toNat : Nat) : Int)))]) (Es := []) (cs := [.lit (.int .u8 (((UInt8.ofNat (48 + n)).toNat : Nat) : Int))]) (xs := (byteAVs [UInt8.ofNat (48 + n)])) trivial rfl (by decide) rfl Tryd.underlying31 Tryd.i5 rfl rfl rfl (by decide) (by refine ⟨rfl, fun j p x hp hx => ?_⟩; match j, hp, hx with | 0, hp, hx => cases hp; cases hx; exact ⟨rfl, .inl ⟨rfl, rfl⟩, rfl, rfl⟩ | _ + 1, hp, hx => cases hp) rfl rfl rfl (all_len rfl) (all_sc rfl) rfl ?_
    refine AOps.read trivial rfl (by decide) (Reader.ofBytes (l := [UInt8.ofNat (48 + n)]) rfl Tryd.underlying31 Tryd.underlying9 Tryd.underlying5 rfl) ?_
    refine AOps.read trivial rfl (by decide) (Reader.move (.inr rfl) (ok_const rfl) (v := .str [UInt8.ofNat (48 + n)]) rfl) ?_
    refine AOps.nil ?_
    refine AWp.ret ?_
    exact ⟨.inl rfl, _, ResOf.one 2 (.str [UInt8.ofNat (48 + n)]) rfl rfl, ⟨congrArg AV.str (digs_one (by omega)), rfl⟩⟩
  · skip
    have h1' : ¬ (n < 10) := (by have hh := of_decide_eq_false h1; omega)
    clear h1
    refine AWp.skip ?_
    refine AWp.seq (AWp.region ?_)
    refine AOps.read trivial rfl (by decide) (Reader.move (.inl rfl) (ok_const rfl) (v := .lit (.int .i64 (n : Int))) rfl) ?_
    refine AOps.read trivial rfl (by decide) (Reader.quo rfl rfl rfl (by decide) (c := ((n / 10 : Nat) : Int)) (by rw [show (10 : Int) = ((10 : Nat) : Int) from rfl, nat_quo]; exact IntWalk.i64_in _ (by omega))) ?_
    refine AOps.call (args := [.lit (.int .i64 ((n / 10 : Nat) : Int))]) trivial rfl (by decide) rfl rfl Tryd.call19 (args_ok rfl) rfl (by intro j x v hx hv; match j, hx, hv with | 0, hx, hv => cases hx; cases hv; exact .inl ⟨rfl, rfl⟩ | _ + 1, hx, hv => cases hx) (IH (n / 10) (by omega) (by omega) M) ?_
    rintro _ _ ⟨rfl, rfl⟩
    refine AOps.read trivial rfl (by decide) (Reader.move (.inl rfl) (ok_const rfl) (v := .lit (.int .i64 (n : Int))) rfl) ?_
    refine AOps.read trivial rfl (by decide) (Reader.rem rfl rfl rfl (by decide) (c := ((n % 10 : Nat) : Int)) (by first | rfl | exact nat_rem _ _)) ?_
    refine AOps.call (args := [.lit (.int .i64 ((n % 10 : Nat) : Int))]) trivial rfl (by decide) rfl rfl Tryd.call19 (args_ok rfl) rfl (by intro j x v hx hv; match j, hx, hv with | 0, hx, hv => cases hx; cases hv; exact .inl ⟨rfl, rfl⟩ | _ + 1, hx, hv => cases hx) (IH (n % 10) (by omega) (by omega) M) ?_
    rintro _ _ ⟨rfl, rfl⟩
    refine AOps.read trivial rfl (by decide) (Reader.cat rfl rfl rfl (by first | omega | (simp only [List.length_append, List.length_cons, List.length_nil]; omega) | (simp; omega)) (c := (digs (n / 10)) ++ (digs (n % 10))) rfl) ?_
    refine AOps.read trivial rfl (by decide) (Reader.move (.inr rfl) (ok_const rfl) (v := .str ((digs (n / 10)) ++ (digs (n % 10)))) rfl) ?_
    refine AOps.nil ?_
    refine AWp.ret ?_
    exact ⟨.inl rfl, _, ResOf.one 2 (.str ((digs (n / 10)) ++ (digs (n % 10)))) rfl rfl, ⟨congrArg AV.str ((digs_big (by omega)).symm), rfl⟩⟩

theorem Digits_any (n : Nat) (hn : n ≤ 9223372036854775807) : ∀ M, ACall Tryd.prog 19 [.lit (.int .i64 (n : Int))] M (fun r M' => r = .str (digs n) ∧ M = M') := by
  induction n using Nat.strongRecOn with
  | _ n ih => intro M; exact digits_step n hn (fun m hm hm2 => ih m hm hm2) M

end Go.Proofs.YtlpihekflkjkfaaDoor
