/- Walks over abstract values, printed by my program av.py. -/
import Derived.Test.YtlpihekflkjkfaaDoorTh3
namespace Go.Proofs.YtlpihekflkjkfaaDoor
open Go.RowKit

theorem rth_no {t : List UInt8} (h : ¬ OkT t) : readT t = t0 ∧ decide (OkT t) = false := ⟨(th_no h).1, decide_eq_false h⟩
def sgTo (w : List UInt8) (i : Nat) : Int := if i = 0 then -1 else if i = 1 then (if w = w0L then 0 else -1) else if i = 2 then (if w = w0L then 0 else if w = w1L then 1 else -1) else sigOf w
theorem sgTo_3 {w : List UInt8} {i : Nat} (h : i = 3) : sgTo w i = sigOf w := by subst h; rfl
theorem sgTo_hit {w : List UInt8} {i : Nat} (hi : i < 3) (h : wordOf (i : Int) = w) : sgTo w (i + 1) = (i : Int) := by
  subst h
  match i, hi with
  | 0, _ | 1, _ | 2, _ => decide
theorem sgTo_miss {w : List UInt8} {i : Nat} (hi : i < 3) (h : ¬ wordOf (i : Int) = w) : sgTo w (i + 1) = sgTo w i := by
  match i, hi with
  | 0, _ =>
    have h0 : ¬ w = w0L := fun e => h e.symm
    simp [sgTo, h0]
  | 1, _ =>
    have h0 : ¬ w = w1L := fun e => h e.symm
    simp [sgTo, h0]
  | 2, _ =>
    have h0 : ¬ w = w2L := fun e => h e.symm
    simp [sgTo, sigOf, h0]
theorem cut_take (c : UInt8) (t : List UInt8) : (t.take (cutA c t).1.length).drop 0 = (cutA c t).1 := by
  rw [List.drop_zero]
  show t.take (t.takeWhile (· != c)).length = t.takeWhile (· != c)
  exact (List.prefix_iff_eq_take.1 (List.takeWhile_prefix _)).symm
theorem cut_split {c : UInt8} {t : List UInt8} (h : t.contains c = true) : t = (cutA c t).1 ++ c :: (cutA c t).2.1 := by
  have e := (List.takeWhile_append_dropWhile (p := (· != c)) (l := t)).symm
  cases hd : t.dropWhile (· != c) with
  | nil =>
    rw [hd, List.append_nil] at e
    have hm : c ∈ t := by simpa using h
    rw [e] at hm
    have hall : ∀ (l : List UInt8), ∀ x ∈ l.takeWhile (· != c), (x != c) = true := by
      intro l
      induction l with
      | nil => intro x hx; cases hx
      | cons b r ih =>
        intro x hx
        rw [List.takeWhile_cons] at hx
        split at hx
        · rename_i hb
          rcases List.mem_cons.1 hx with rfl | hx
          · exact hb
          · exact ih x hx
        · cases hx
    have := hall t c hm
    simp at this
  | cons b r =>
    have hb : b = c := by
      have := List.head?_dropWhile_not (p := (· != c)) (l := t)
      rw [hd] at this
      simpa using this
    subst hb
    show t = t.takeWhile (· != b) ++ b :: (t.dropWhile (· != b)).drop 1
    rw [hd]
    show t = t.takeWhile (· != b) ++ b :: r
    rw [← hd]; exact e
theorem cut_lt {c : UInt8} {t : List UInt8} (h : t.contains c = true) : (cutA c t).1.length + 1 ≤ t.length := by
  have := congrArg List.length (cut_split h)
  rw [List.length_append, List.length_cons] at this
  omega
theorem cut_drop {c : UInt8} {t : List UInt8} (h : t.contains c = true) : (t.take t.length).drop ((cutA c t).1.length + 1) = (cutA c t).2.1 := by
  rw [List.take_length]
  have e := cut_split h
  generalize (cutA c t).1 = a at e ⊢
  generalize (cutA c t).2.1 = b at e ⊢
  rw [e, List.drop_append]
  simp
theorem cut_id {c : UInt8} {t : List UInt8} (h : t.contains c = false) : (cutA c t).1 = t := by
  have : ∀ x ∈ t, x ≠ c := by
    rintro x hx rfl
    rw [List.contains_eq_mem] at h
    simp [hx] at h
  rw [cutA_none this]
theorem suf_last {v : List UInt8} (h : 0 < v.length) : Lib.hasSuffix v [37] = (v.getD (v.length - 1) 0 == 37) := by
  have hne : v ≠ [] := by intro e; rw [e] at h; cases h
  have hl := List.dropLast_concat_getLast hne
  have e : v.getD (v.length - 1) 0 = v.getLast hne := by
    rw [List.getD_eq_getElem?_getD, List.getElem?_eq_getElem (by omega), List.getLast_eq_getElem]; rfl
  rw [e]
  conv => lhs; rw [← hl]
  exact suf_snoc _ _
theorem sufl_t {v : List UInt8} (h : (bif decide ((v.length : Int) > 0) then (((v.getD (v.length - 1) 0).toNat : Int) == 37) else false) = true) : Lib.hasSuffix v [37] = true := by
  by_cases h0 : (v.length : Int) > 0
  · rw [decide_eq_true h0, cond_true] at h
    rw [suf_last (by omega), beq_iff_eq]
    have := eq_of_beq h
    exact UInt8.toNat_inj.1 (by show _ = 37; omega)
  · rw [decide_eq_false h0] at h; cases h
theorem sufl_f {v : List UInt8} (h : (bif decide ((v.length : Int) > 0) then (((v.getD (v.length - 1) 0).toNat : Int) == 37) else false) = false) : Lib.hasSuffix v [37] = false := by
  by_cases h0 : (v.length : Int) > 0
  · rw [decide_eq_true h0, cond_true] at h
    rw [suf_last (by omega), beq_eq_false_iff_ne]
    intro e
    rw [e] at h
    cases h
  · rw [List.length_eq_zero_iff.1 (show v.length = 0 by omega)]; rfl
theorem suf_pos {v : List UInt8} (h : Lib.hasSuffix v [37] = true) : 0 < v.length := by
  rcases Nat.eq_zero_or_pos v.length with h0 | h0
  · rw [List.length_eq_zero_iff.1 h0] at h; cases h
  · exact h0
theorem suv {t X : List UInt8} {su : Bool} {p : Prop} (hv : vlOf t = X) (h : Lib.hasSuffix X [37] = su ∧ p) : Lib.hasSuffix (vlOf t) [37] = su := by rw [hv]; exact h.1
theorem qn_of {v : List UInt8} (h : (!(quantV v).isSome) = true) : quantV v = none := by
  cases hq : quantV v with
  | none => rfl
  | some n => rw [hq] at h; cases h
theorem thrR_of {t : List UInt8} {so su : Bool} (h1 : sfOf t = so) (h2 : Lib.hasSuffix (vlOf t) [37] = su) :
    thrOf numR t = ⟨sigOf (wdOf t), bif su then numR ((vlOf t).take ((vlOf t).length - 1)) else 0, bif su then 0 else ((qv (vlOf t) : Nat) : Int), so, bif so then numR (grOf t) else 0⟩ := by
  unfold thrOf pctOf amtOf
  rw [h1, h2]
  cases so <;> cases su <;> rfl
theorem rth_f {t : List UInt8} {i : Nat} {pc am gr : Int} {so : Bool} (hs3 : sgTo (wdOf t) i = sigOf (wdOf t)) (hq : thrOf numR t = ⟨sigOf (wdOf t), pc, am, so, gr⟩) (h : ¬ RightT ⟨sgTo (wdOf t) i, pc, am, so, gr⟩) : ¬ RightT (thrOf numR t) := by rw [hq, ← hs3]; exact h
theorem rth_t {t : List UInt8} {i : Nat} {pc am gr : Int} {so : Bool} (hs3 : sgTo (wdOf t) i = sigOf (wdOf t)) (hq : thrOf numR t = ⟨sigOf (wdOf t), pc, am, so, gr⟩) (h : RightT ⟨sgTo (wdOf t) i, pc, am, so, gr⟩) : RightT (thrOf numR t) := by rw [hq, ← hs3]; exact h

set_option maxRecDepth 20000 in
theorem rTRead_no (t : List UInt8) (hl : t.length ≤ 4294967280) (hc60 : t.contains 60 = false) (M : Nat → Option (List AV)) : ACall Tryd.prog 34 [.str t] M (fun r M' => r = .tuple [encT (readT t), .lit (.bool (decide (OkT t)))] ∧ M = M') := by
  have hc1 := cutA_len 60 t
  have hc2 := cutA_len 58 (cutA 60 t).2.1
  refine ACall.of Tryd.func34 rfl (n := 80) rfl rfl rfl ?_
  refine AWp.seq (AWp.region ?_)
  refine AOps.alloc (Es := []) trivial rfl (by decide) rfl (noL rfl) rfl zero_65 rfl (cells := [.lit (.int .i64 0), .lit (.int .i64 0), .lit (.int .i64 0), .lit (.bool false), .lit (.int .i64 0)]) rfl (all_scalar rfl) (all_flat rfl) ?_
  refine AOps.read trivial rfl (by decide) (Reader.move (.inr rfl) (ok_const rfl) (v := .lit (.bool false)) rfl) ?_
  refine AOps.nil ?_
  refine AWp.seq (AWp.region ?_)
  refine AOps.read trivial rfl (by decide) (Reader.build (xs := [(0, .lit (.int .i64 (-1)))]) (Es := []) (places := places_65) rfl Tryd.underlying65 (by refine ⟨rfl, fun j p x hp hx => ?_⟩; match j, hp, hx with | 0, hp, hx => cases hp; cases hx; exact ⟨rfl, .inl ⟨rfl, rfl⟩, rfl, rfl⟩ | _ + 1, hp, hx => cases hp) zero_65 rfl places_65_ok (cs := [.lit (.int .i64 (-1)), .lit (.int .i64 0), .lit (.int .i64 0), .lit (.bool false), .lit (.int .i64 0)]) rfl) ?_
  refine AOps.alloc (Es := []) trivial rfl (by decide) rfl (noL rfl) rfl zero_65 rfl (cells := [.lit (.int .i64 0), .lit (.int .i64 0), .lit (.int .i64 0), .lit (.bool false), .lit (.int .i64 0)]) rfl (all_scalar rfl) (all_flat rfl) ?_
  refine AOps.storeL trivial rfl rfl rfl rfl sizeOf_65 (.inl ⟨rfl, rfl⟩) rfl (v := .agg [.lit (.int .i64 (-1)), .lit (.int .i64 0), .lit (.int .i64 0), .lit (.bool false), .lit (.int .i64 0)]) rfl (all_flat rfl) rfl (Nat.le_of_ble_eq_true rfl) ?_
  refine AOps.nil ?_
  refine AWp.seq (AWp.region ?_)
  refine AOps.read trivial rfl (by decide) (Reader.move (.inl rfl) (ok_const rfl) (v := .str t) rfl) ?_
  refine AOps.call (args := [.str t, .lit (.int .u8 60)]) trivial rfl (by decide) rfl rfl Tryd.call65 (args_ok rfl) rfl (by intro j x v hx hv; match j, hx, hv with | 0, hx, hv => cases hx; cases hv; exact .inl ⟨rfl, rfl⟩ | 1, hx, hv => cases hx; cases hv; exact .inl ⟨rfl, rfl⟩ | _ + 2, hx, hv => cases hx) (find_no t 60 hl hc60 M) ?_
  rintro _ _ ⟨rfl, rfl⟩
  refine AOps.read trivial rfl (by decide) (Reader.move (.inr rfl) (ok_const rfl) (v := .lit (.int .i64 (-1))) rfl) ?_
  refine AOps.nil ?_
  refine AWp.seq ?_
  refine AWp.seq (AWp.region ?_)
  refine AOps.read trivial rfl (by decide) (Reader.move (.inl rfl) (ok_const rfl) (v := .lit (.int .i64 (-1))) rfl) ?_
  refine AOps.read trivial rfl (by decide) (Reader.int rfl rfl rfl (r := .bool true) rfl) ?_
  refine AOps.nil ?_
  refine AWp.cond (b := true) rfl (fun hx => ?_) (fun hx => by cases hx)
  refine AWp.seq (AWp.region ?_)
  refine AOps.read trivial rfl (by decide) (Reader.build (xs := []) (Es := []) (places := places_65) rfl Tryd.underlying65 (by refine ⟨rfl, fun j p x hp hx => ?_⟩; match j, hp, hx with | _ + 0, hp, hx => cases hp) zero_65 rfl places_65_ok (cs := [.lit (.int .i64 0), .lit (.int .i64 0), .lit (.int .i64 0), .lit (.bool false), .lit (.int .i64 0)]) rfl) ?_
  refine AOps.storeL trivial rfl rfl rfl rfl sizeOf_65 (.inl ⟨rfl, rfl⟩) rfl (v := .agg [.lit (.int .i64 0), .lit (.int .i64 0), .lit (.int .i64 0), .lit (.bool false), .lit (.int .i64 0)]) rfl (all_flat rfl) rfl (Nat.le_of_ble_eq_true rfl) ?_
  refine AOps.read trivial rfl (by decide) (Reader.move (.inr rfl) (ok_const rfl) (v := .lit (.bool false)) rfl) ?_
  refine AOps.nil ?_
  refine AWp.ret ?_
  exact ⟨.inl rfl, _, ResOf.cellTmp 2 2 0 5 65 _ _ (.agg [.lit (.int .i64 0), .lit (.int .i64 0), .lit (.int .i64 0), .lit (.bool false), .lit (.int .i64 0)]) rfl rfl Tryd.underlying65 sizeOf_65 rfl (Eq.refl true) 3 (.lit (.bool false)) rfl rfl, ⟨by rw [(rth_no (ref_no (.inl hc60)).1).1, (rth_no (ref_no (.inl hc60)).1).2]; rfl, rfl⟩⟩

set_option maxRecDepth 20000 in
theorem rTRead_soft (t : List UInt8) (hl : t.length ≤ 4294967280) (hc60 : t.contains 60 = true) (hc58 : (cutA 60 t).2.1.contains 58 = true) (M : Nat → Option (List AV)) : ACall Tryd.prog 34 [.str t] M (fun r M' => r = .tuple [encT (readT t), .lit (.bool (decide (OkT t)))] ∧ M = M') := by
  have hc1 := cutA_len 60 t
  have hc2 := cutA_len 58 (cutA 60 t).2.1
  have hk := cut_lt hc60
  have hk2 := cut_lt hc58
  refine ACall.of Tryd.func34 rfl (n := 80) rfl rfl rfl ?_
  refine AWp.seq (AWp.region ?_)
  refine AOps.alloc (Es := []) trivial rfl (by decide) rfl (noL rfl) rfl zero_65 rfl (cells := [.lit (.int .i64 0), .lit (.int .i64 0), .lit (.int .i64 0), .lit (.bool false), .lit (.int .i64 0)]) rfl (all_scalar rfl) (all_flat rfl) ?_
  refine AOps.read trivial rfl (by decide) (Reader.move (.inr rfl) (ok_const rfl) (v := .lit (.bool false)) rfl) ?_
  refine AOps.nil ?_
  refine AWp.seq (AWp.region ?_)
  refine AOps.read trivial rfl (by decide) (Reader.build (xs := [(0, .lit (.int .i64 (-1)))]) (Es := []) (places := places_65) rfl Tryd.underlying65 (by refine ⟨rfl, fun j p x hp hx => ?_⟩; match j, hp, hx with | 0, hp, hx => cases hp; cases hx; exact ⟨rfl, .inl ⟨rfl, rfl⟩, rfl, rfl⟩ | _ + 1, hp, hx => cases hp) zero_65 rfl places_65_ok (cs := [.lit (.int .i64 (-1)), .lit (.int .i64 0), .lit (.int .i64 0), .lit (.bool false), .lit (.int .i64 0)]) rfl) ?_
  refine AOps.alloc (Es := []) trivial rfl (by decide) rfl (noL rfl) rfl zero_65 rfl (cells := [.lit (.int .i64 0), .lit (.int .i64 0), .lit (.int .i64 0), .lit (.bool false), .lit (.int .i64 0)]) rfl (all_scalar rfl) (all_flat rfl) ?_
  refine AOps.storeL trivial rfl rfl rfl rfl sizeOf_65 (.inl ⟨rfl, rfl⟩) rfl (v := .agg [.lit (.int .i64 (-1)), .lit (.int .i64 0), .lit (.int .i64 0), .lit (.bool false), .lit (.int .i64 0)]) rfl (all_flat rfl) rfl (Nat.le_of_ble_eq_true rfl) ?_
  refine AOps.nil ?_
  refine AWp.seq (AWp.region ?_)
  refine AOps.read trivial rfl (by decide) (Reader.move (.inl rfl) (ok_const rfl) (v := .str t) rfl) ?_
  refine AOps.call (args := [.str t, .lit (.int .u8 60)]) trivial rfl (by decide) rfl rfl Tryd.call65 (args_ok rfl) rfl (by intro j x v hx hv; match j, hx, hv with | 0, hx, hv => cases hx; cases hv; exact .inl ⟨rfl, rfl⟩ | 1, hx, hv => cases hx; cases hv; exact .inl ⟨rfl, rfl⟩ | _ + 2, hx, hv => cases hx) (find_yes t 60 hl hc60 M) ?_
  rintro _ _ ⟨rfl, rfl⟩
  refine AOps.read trivial rfl (by decide) (Reader.move (.inr rfl) (ok_const rfl) (v := .lit (.int .i64 (((cutA 60 t).1.length : Nat) : Int))) rfl) ?_
  refine AOps.nil ?_
  refine AWp.seq ?_
  refine AWp.seq (AWp.region ?_)
  refine AOps.read trivial rfl (by decide) (Reader.move (.inl rfl) (ok_const rfl) (v := .lit (.int .i64 (((cutA 60 t).1.length : Nat) : Int))) rfl) ?_
  refine AOps.read trivial rfl (by decide) (Reader.int rfl rfl rfl (r := .bool (decide ((((cutA 60 t).1.length : Nat) : Int) < 0))) rfl) ?_
  refine AOps.nil ?_
  refine AWp.cond (b := decide ((((cutA 60 t).1.length : Nat) : Int) < 0)) rfl (fun h1 => ?_) (fun h1 => ?_)
  · skip
    have h1' : ((cutA 60 t).1.length) < 0 := (by have hh := of_decide_eq_true h1; omega)
    clear h1
    exfalso; omega
  · skip
    have h1' : ¬ (((cutA 60 t).1.length) < 0) := (by have hh := of_decide_eq_false h1; omega)
    clear h1
    refine AWp.skip ?_
    refine AWp.seq ?_
    refine AWp.seq (AWp.region ?_)
    refine AOps.read trivial rfl (by decide) (Reader.move (.inr rfl) (ok_const rfl) (v := .lit (.int .i64 0)) rfl) ?_
    refine AOps.nil ?_
    refine AWp.block ?_
    refine AWp.loopE [0, 2, 4, 5, 6] [2, 4] (fun m s => ∃ (i : Nat), m = 3 - i ∧ s = ⟨[(0, .str t), (2, .lptr 2 0), (4, .lptr 4 0), (5, .lit (.int .i64 (((cutA 60 t).1.length : Nat) : Int))), (6, .lit (.int .i64 (i : Int)))], [(2, [.lit (.int .i64 0), .lit (.int .i64 0), .lit (.int .i64 0), .lit (.bool false), .lit (.int .i64 0)]), (4, [.lit (.int .i64 (sgTo (cutA 60 t).1 i)), .lit (.int .i64 0), .lit (.int .i64 0), .lit (.bool false), .lit (.int .i64 0)])], M⟩ ∧ (i ≤ 3)) ?_ ?_
    · exact ⟨_, 0, rfl, rfl, by omega⟩
    · rintro _ _ ⟨i, rfl, rfl, hi⟩
      refine AWp.seq ?_
      refine AWp.seq (AWp.region ?_)
      refine AOps.read trivial rfl (by decide) (Reader.move (.inl rfl) (ok_const rfl) (v := .lit (.int .i64 (i : Int))) rfl) ?_
      refine AOps.read trivial rfl (by decide) (Reader.int rfl rfl rfl (r := .bool (decide ((i : Int) < 3))) rfl) ?_
      refine AOps.nil ?_
      refine AWp.cond (b := decide ((i : Int) < 3)) rfl (fun h2 => ?_) (fun h2 => ?_)
      · skip
        have h2' : i < 3 := (by have hh := of_decide_eq_true h2; omega)
        clear h2
        refine AWp.skip ?_
        refine AWp.seq ?_
        refine AWp.block ?_
        refine AWp.seq (AWp.drawnAll (by kernel_rfl) (by kernel_rfl) ?_)
        refine AOpsE.read trivial rfl (by decide) (Reader.move (.inl rfl) (ok_const rfl) (v := .lit (.int .i64 (i : Int))) rfl) ?_
        refine AOpsE.call (args := [.lit (.int .i64 (i : Int))]) (v := .str (wordOf (i : Int))) trivial rfl (by decide) rfl rfl Tryd.call41 (args_ok rfl) rfl (by intro j x v hx hv; match j, hx, hv with | 0, hx, hv => cases hx; cases hv; exact .inl ⟨rfl, rfl⟩ | _ + 1, hx, hv => cases hx) (rWord_any (i : Int) noM) rfl ?_
        refine AOpsE.read trivial rfl (by decide) (Reader.move (.inl rfl) (ok_const rfl) (v := .str t) rfl) ?_
        refine AOpsE.read trivial rfl (by decide) (Reader.move (.inl rfl) (ok_const rfl) (v := .lit (.int .i64 (((cutA 60 t).1.length : Nat) : Int))) rfl) ?_
        refine AOpsE.read trivial rfl (by decide) (Reader.sub (i := 0) (j := (cutA 60 t).1.length) rfl Tryd.underlying9 rfl rfl ⟨_, _, rfl, rfl⟩ (by first | omega | (simp; omega)) (by first | omega | (simp; omega)) (m := (cutA 60 t).1) (cut_take 60 t)) ?_
        refine AOpsE.read trivial rfl (by decide) (Reader.strs rfl rfl rfl (r := (wordOf (i : Int)) == ((cutA 60 t).1)) rfl) ?_
        refine AOpsE.nil ?_
        refine AWp.cond (b := (wordOf (i : Int)) == ((cutA 60 t).1)) rfl (fun h3 => ?_) (fun h3 => ?_)
        · skip
          have h3' : (wordOf (i : Int)) = ((cutA 60 t).1) := (eq_of_beq h3)
          clear h3
          refine AWp.region ?_
          refine AOps.read trivial rfl (by decide) (Reader.move (.inl rfl) (ok_const rfl) (v := .lit (.int .i64 (i : Int))) rfl) ?_
          refine AOps.read trivial rfl (by decide) (Reader.fieldL rfl ⟨_, _, Tryd.underlying65, rfl, rfl, rfl, sizeOf_3⟩ (by decide) rfl) ?_
          refine AOps.storeL trivial rfl rfl rfl rfl sizeOf_3 (.inl ⟨rfl, rfl⟩) rfl (v := .lit (.int .i64 (i : Int))) rfl (all_flat rfl) rfl (Nat.le_of_ble_eq_true rfl) ?_
          refine AOps.nil ?_
          refine AWp.region ?_
          refine AOps.read trivial rfl (by decide) (Reader.move (.inl rfl) (ok_const rfl) (v := .lit (.int .i64 (i : Int))) rfl) ?_
          refine AOps.read trivial rfl (by decide) (Reader.sum rfl rfl rfl (m := (i : Int) + 1) (c := ((i + 1 : Nat) : Int)) rfl (by first | exact IntWalk.i64_in _ (by omega) | exact IntWalk.i64_in _ (by constructor <;> omega) | (simp only [];omega))) ?_
          refine AOps.read trivial rfl (by decide) (Reader.move (.inr rfl) (ok_const rfl) (v := .lit (.int .i64 ((i + 1 : Nat) : Int))) rfl) ?_
          refine AOps.nil ?_
          first | exact ⟨_, by omega, i + 1, rfl, (by rw [sgTo_hit (by omega) (by assumption)]; rfl), by omega⟩ | exact ⟨_, by omega, i + 1, rfl, (by rw [sgTo_miss (by omega) (by assumption)]; rfl), by omega⟩
        · skip
          have h3' : ¬ ((wordOf (i : Int)) = ((cutA 60 t).1)) := (beq_eq_false_iff_ne.1 h3)
          clear h3
          refine AWp.skip ?_
          refine AWp.region ?_
          refine AOps.read trivial rfl (by decide) (Reader.move (.inl rfl) (ok_const rfl) (v := .lit (.int .i64 (i : Int))) rfl) ?_
          refine AOps.read trivial rfl (by decide) (Reader.sum rfl rfl rfl (m := (i : Int) + 1) (c := ((i + 1 : Nat) : Int)) rfl (by first | exact IntWalk.i64_in _ (by omega) | exact IntWalk.i64_in _ (by constructor <;> omega) | (simp only [];omega))) ?_
          refine AOps.read trivial rfl (by decide) (Reader.move (.inr rfl) (ok_const rfl) (v := .lit (.int .i64 ((i + 1 : Nat) : Int))) rfl) ?_
          refine AOps.nil ?_
          first | exact ⟨_, by omega, i + 1, rfl, (by rw [sgTo_hit (by omega) (by assumption)]; rfl), by omega⟩ | exact ⟨_, by omega, i + 1, rfl, (by rw [sgTo_miss (by omega) (by assumption)]; rfl), by omega⟩
      · skip
        have h2' : ¬ (i < 3) := (by have hh := of_decide_eq_false h2; omega)
        clear h2
        refine AWp.exit ?_
        refine AWp.seq (AWp.region ?_)
        refine AOps.read trivial rfl (by decide) (Reader.move (.inl rfl) (ok_const rfl) (v := .str t) rfl) ?_
        refine AOps.read trivial rfl (by decide) (Reader.move (.inl rfl) (ok_const rfl) (v := .lit (.int .i64 (((cutA 60 t).1.length : Nat) : Int))) rfl) ?_
        refine AOps.read trivial rfl (by decide) (Reader.sum rfl rfl rfl (m := (((cutA 60 t).1.length : Nat) : Int) + 1) (c := ((((cutA 60 t).1.length) + 1 : Nat) : Int)) rfl (by first | exact IntWalk.i64_in _ (by omega) | exact IntWalk.i64_in _ (by constructor <;> omega) | (simp only [];omega))) ?_
        refine AOps.read trivial rfl (by decide) (Reader.sub (i := ((cutA 60 t).1.length) + 1) (j := t.length) rfl Tryd.underlying9 rfl ⟨_, _, rfl, rfl⟩ rfl (by first | omega | (simp; omega)) (by first | omega | (simp; omega)) (m := (cutA 60 t).2.1) (cut_drop hc60)) ?_
        refine AOps.read trivial rfl (by decide) (Reader.move (.inr rfl) (ok_const rfl) (v := .str ((cutA 60 t).2.1)) rfl) ?_
        refine AOps.nil ?_
        refine AWp.seq (AWp.region ?_)
        refine AOps.read trivial rfl (by decide) (Reader.move (.inl rfl) (ok_const rfl) (v := .str ((cutA 60 t).2.1)) rfl) ?_
        refine AOps.call (args := [.str ((cutA 60 t).2.1), .lit (.int .u8 58)]) trivial rfl (by decide) rfl rfl Tryd.call65 (args_ok rfl) rfl (by intro j x v hx hv; match j, hx, hv with | 0, hx, hv => cases hx; cases hv; exact .inl ⟨rfl, rfl⟩ | 1, hx, hv => cases hx; cases hv; exact .inl ⟨rfl, rfl⟩ | _ + 2, hx, hv => cases hx) (find_yes (cutA 60 t).2.1 58 (by omega) hc58 M) ?_
        rintro _ _ ⟨rfl, rfl⟩
        refine AOps.read trivial rfl (by decide) (Reader.move (.inr rfl) (ok_const rfl) (v := .lit (.int .i64 (((cutA 58 (cutA 60 t).2.1).1.length : Nat) : Int))) rfl) ?_
        refine AOps.nil ?_
        refine AWp.seq ?_
        refine AWp.seq (AWp.region ?_)
        refine AOps.read trivial rfl (by decide) (Reader.move (.inl rfl) (ok_const rfl) (v := .lit (.int .i64 (((cutA 58 (cutA 60 t).2.1).1.length : Nat) : Int))) rfl) ?_
        refine AOps.read trivial rfl (by decide) (Reader.int rfl rfl rfl (r := .bool (decide ((((cutA 58 (cutA 60 t).2.1).1.length : Nat) : Int) ≥ 0))) rfl) ?_
        refine AOps.nil ?_
        refine AWp.cond (b := decide ((((cutA 58 (cutA 60 t).2.1).1.length : Nat) : Int) ≥ 0)) rfl (fun h4 => ?_) (fun h4 => ?_)
        · skip
          have h4' : ((cutA 58 (cutA 60 t).2.1).1.length) ≥ 0 := (by have hh := of_decide_eq_true h4; omega)
          clear h4
          refine AWp.seq (AWp.region ?_)
          refine AOps.read trivial rfl (by decide) (Reader.fieldL rfl ⟨_, _, Tryd.underlying65, rfl, rfl, rfl, sizeOf_4⟩ (by decide) rfl) ?_
          refine AOps.storeL trivial rfl rfl rfl rfl sizeOf_4 (.inl ⟨rfl, rfl⟩) rfl (v := .lit (.bool true)) rfl (all_flat rfl) rfl (Nat.le_of_ble_eq_true rfl) ?_
          refine AOps.nil ?_
          refine AWp.seq (AWp.region ?_)
          refine AOps.read trivial rfl (by decide) (Reader.move (.inl rfl) (ok_const rfl) (v := .str ((cutA 60 t).2.1)) rfl) ?_
          refine AOps.read trivial rfl (by decide) (Reader.move (.inl rfl) (ok_const rfl) (v := .lit (.int .i64 (((cutA 58 (cutA 60 t).2.1).1.length : Nat) : Int))) rfl) ?_
          refine AOps.read trivial rfl (by decide) (Reader.sum rfl rfl rfl (m := (((cutA 58 (cutA 60 t).2.1).1.length : Nat) : Int) + 1) (c := ((((cutA 58 (cutA 60 t).2.1).1.length) + 1 : Nat) : Int)) rfl (by first | exact IntWalk.i64_in _ (by omega) | exact IntWalk.i64_in _ (by constructor <;> omega) | (simp only [];omega))) ?_
          refine AOps.read trivial rfl (by decide) (Reader.sub (i := ((cutA 58 (cutA 60 t).2.1).1.length) + 1) (j := ((cutA 60 t).2.1).length) rfl Tryd.underlying9 rfl ⟨_, _, rfl, rfl⟩ rfl (by first | omega | (simp; omega)) (by first | omega | (simp; omega)) (m := (cutA 58 (cutA 60 t).2.1).2.1) (cut_drop hc58)) ?_
          refine AOps.call (args := [.str ((cutA 58 (cutA 60 t).2.1).2.1)]) trivial rfl (by decide) rfl rfl Tryd.call66 (args_ok rfl) rfl (by intro j x v hx hv; match j, hx, hv with | 0, hx, hv => cases hx; cases hv; exact .inl ⟨rfl, rfl⟩ | _ + 1, hx, hv => cases hx) (rnum_any ((cutA 58 (cutA 60 t).2.1).2.1) (by first | omega | (simp only [List.length_take, List.length_drop]; omega)) M) ?_
          rintro _ _ ⟨rfl, rfl⟩
          refine AOps.read trivial rfl (by decide) (Reader.fieldL rfl ⟨_, _, Tryd.underlying65, rfl, rfl, rfl, sizeOf_3⟩ (by decide) rfl) ?_
          refine AOps.storeL trivial rfl rfl rfl rfl sizeOf_3 (.inl ⟨rfl, rfl⟩) rfl (v := .lit (.int .i64 (numR ((cutA 58 (cutA 60 t).2.1).2.1)))) rfl (all_flat rfl) rfl (Nat.le_of_ble_eq_true rfl) ?_
          refine AOps.nil ?_
          refine AWp.region ?_
          refine AOps.read trivial rfl (by decide) (Reader.move (.inl rfl) (ok_const rfl) (v := .str ((cutA 60 t).2.1)) rfl) ?_
          refine AOps.read trivial rfl (by decide) (Reader.move (.inl rfl) (ok_const rfl) (v := .lit (.int .i64 (((cutA 58 (cutA 60 t).2.1).1.length : Nat) : Int))) rfl) ?_
          refine AOps.read trivial rfl (by decide) (Reader.sub (i := 0) (j := (cutA 58 (cutA 60 t).2.1).1.length) rfl Tryd.underlying9 rfl rfl ⟨_, _, rfl, rfl⟩ (by first | omega | (simp; omega)) (by first | omega | (simp; omega)) (m := (cutA 58 (cutA 60 t).2.1).1) (cut_take 58 _)) ?_
          refine AOps.read trivial rfl (by decide) (Reader.move (.inr rfl) (ok_const rfl) (v := .str ((cutA 58 (cutA 60 t).2.1).1)) rfl) ?_
          refine AOps.nil ?_
          refine AWp.seq ?_
          refine AWp.regionJ [57, 0, 2, 4, 5, 6, 18, 7, 8, 36] [2, 4] (fun z => ⟨(57, .lit (.bool z)) :: [(0, .str t), (2, .lptr 2 0), (4, .lptr 4 0), (5, .lit (.int .i64 (((cutA 60 t).1.length : Nat) : Int))), (6, .lit (.int .i64 (i : Int))), (18, .lit (.bool (decide ((i : Int) < 3)))), (7, .str ((cutA 58 (cutA 60 t).2.1).1)), (8, .lit (.int .i64 (((cutA 58 (cutA 60 t).2.1).1.length : Nat) : Int))), (36, .lit (.bool (decide ((((cutA 58 (cutA 60 t).2.1).1.length : Nat) : Int) ≥ 0))))], [(2, [.lit (.int .i64 0), .lit (.int .i64 0), .lit (.int .i64 0), .lit (.bool false), .lit (.int .i64 0)]), (4, [.lit (.int .i64 (sgTo (cutA 60 t).1 i)), .lit (.int .i64 0), .lit (.int .i64 0), .lit (.bool true), .lit (.int .i64 (numR ((cutA 58 (cutA 60 t).2.1).2.1)))])], M⟩) (z := bif (decide (((((cutA 58 (cutA 60 t).2.1).1).length : Nat) : Int) > 0)) then (((((cutA 58 (cutA 60 t).2.1).1).getD ((((cutA 58 (cutA 60 t).2.1).1).length) - 1) 0).toNat : Int) == 37) else false) ?_ ?_
          · skip
            refine AOps.read trivial rfl (by decide) (Reader.move (.inl rfl) (ok_const rfl) (v := .str ((cutA 58 (cutA 60 t).2.1).1)) rfl) ?_
            refine AOps.read trivial rfl (by decide) (Reader.lenStr' (l := (cutA 58 (cutA 60 t).2.1).1) rfl rfl rfl rfl Tryd.underlying9 rfl (m := ((cutA 58 (cutA 60 t).2.1).1).length) (by first | rfl | simp)) ?_
            refine AOps.read trivial rfl (by decide) (Reader.int rfl rfl rfl (r := .bool (decide (((((cutA 58 (cutA 60 t).2.1).1).length : Nat) : Int) > 0))) rfl) ?_
            refine AOps.read trivial rfl (by decide) (Reader.move (.inl rfl) (ok_const rfl) (v := .lit (.bool (decide (((((cutA 58 (cutA 60 t).2.1).1).length : Nat) : Int) > 0)))) rfl) ?_
            refine AOps.splitJ (t := 50) (b := decide (((((cutA 58 (cutA 60 t).2.1).1).length : Nat) : Int) > 0)) (x := (((((cutA 58 (cutA 60 t).2.1).1).getD ((((cutA 58 (cutA 60 t).2.1).1).length) - 1) 0).toNat : Int) == 37)) (y := false) rfl (fun h5 => ?_) (fun h5 => ?_)
            · skip
              have h5' : (((cutA 58 (cutA 60 t).2.1).1).length) > 0 := (by have hh := of_decide_eq_true h5; omega)
              clear h5
              refine AOps.read ⟨50, rfl, rfl⟩ rfl (by decide) (Reader.move (.inl rfl) (ok_const rfl) (v := .str ((cutA 58 (cutA 60 t).2.1).1)) rfl) ?_
              refine AOps.read ⟨50, rfl, rfl⟩ rfl (by decide) (Reader.move (.inl rfl) (ok_const rfl) (v := .str ((cutA 58 (cutA 60 t).2.1).1)) rfl) ?_
              refine AOps.read ⟨50, rfl, rfl⟩ rfl (by decide) (Reader.lenStr' (l := (cutA 58 (cutA 60 t).2.1).1) rfl rfl rfl rfl Tryd.underlying9 rfl (m := ((cutA 58 (cutA 60 t).2.1).1).length) (by first | rfl | simp)) ?_
              refine AOps.read ⟨50, rfl, rfl⟩ rfl (by decide) (Reader.sum rfl rfl rfl (m := ((((cutA 58 (cutA 60 t).2.1).1).length : Nat) : Int) - 1) (c := (((((cutA 58 (cutA 60 t).2.1).1).length) - 1 : Nat) : Int)) rfl (by rw [IntWalk.i64_in _ (by omega)]; omega)) ?_
              refine AOps.read ⟨50, rfl, rfl⟩ rfl (by decide) (Reader.byte (m := (((cutA 58 (cutA 60 t).2.1).1).length) - 1) (c := ((cutA 58 (cutA 60 t).2.1).1).getD ((((cutA 58 (cutA 60 t).2.1).1).length) - 1) 0) rfl Tryd.underlying9 rfl rfl rfl (getD_some (by first | omega | (simp; omega)))) ?_
              refine AOps.read ⟨50, rfl, rfl⟩ rfl (by decide) (Reader.int rfl rfl rfl (r := .bool (((((cutA 58 (cutA 60 t).2.1).1).getD ((((cutA 58 (cutA 60 t).2.1).1).length) - 1) 0).toNat : Int) == 37)) rfl) ?_
              refine AOps.read trivial rfl (by decide) (Reader.pick rfl (b := true) rfl (ok_const rfl) (ok_const rfl) (v := .lit (.bool (((((cutA 58 (cutA 60 t).2.1).1).getD ((((cutA 58 (cutA 60 t).2.1).1).length) - 1) 0).toNat : Int) == 37))) rfl) ?_
              exact AOps.nil rfl
            · skip
              have h5' : ¬ ((((cutA 58 (cutA 60 t).2.1).1).length) > 0) := (by have hh := of_decide_eq_false h5; omega)
              clear h5
              refine AOps.skip ⟨3, true, 50, _, rfl, rfl, rfl, by simp⟩ rfl (by decide) ?_
              refine AOps.skip ⟨3, true, 50, _, rfl, rfl, rfl, by simp⟩ rfl (by decide) ?_
              refine AOps.skip ⟨3, true, 50, _, rfl, rfl, rfl, by simp⟩ rfl (by decide) ?_
              refine AOps.skip ⟨3, true, 50, _, rfl, rfl, rfl, by simp⟩ rfl (by decide) ?_
              refine AOps.skip ⟨3, true, 50, _, rfl, rfl, rfl, by simp⟩ rfl (by decide) ?_
              refine AOps.skip ⟨3, true, 50, _, rfl, rfl, rfl, by simp⟩ rfl (by decide) ?_
              refine AOps.read trivial rfl (by decide) (Reader.pick rfl (b := false) rfl (ok_const rfl) (ok_const rfl) (v := .lit (.bool false)) rfl) ?_
              exact AOps.nil rfl
          refine AWp.cond (b := bif (decide (((((cutA 58 (cutA 60 t).2.1).1).length : Nat) : Int) > 0)) then (((((cutA 58 (cutA 60 t).2.1).1).getD ((((cutA 58 (cutA 60 t).2.1).1).length) - 1) 0).toNat : Int) == 37) else false) rfl (fun h6 => ?_) (fun h6 => ?_)
          · skip
            have h6' : Lib.hasSuffix (cutA 58 (cutA 60 t).2.1).1 [37] = true ∧ 0 < (cutA 58 (cutA 60 t).2.1).1.length := ⟨sufl_t h6, suf_pos (sufl_t h6)⟩
            clear h6
            refine AWp.region ?_
            refine AOps.read trivial rfl (by decide) (Reader.move (.inl rfl) (ok_const rfl) (v := .str ((cutA 58 (cutA 60 t).2.1).1)) rfl) ?_
            refine AOps.read trivial rfl (by decide) (Reader.move (.inl rfl) (ok_const rfl) (v := .str ((cutA 58 (cutA 60 t).2.1).1)) rfl) ?_
            refine AOps.read trivial rfl (by decide) (Reader.lenStr' (l := (cutA 58 (cutA 60 t).2.1).1) rfl rfl rfl rfl Tryd.underlying9 rfl (m := ((cutA 58 (cutA 60 t).2.1).1).length) (by first | rfl | simp)) ?_
            refine AOps.read trivial rfl (by decide) (Reader.sum rfl rfl rfl (m := ((((cutA 58 (cutA 60 t).2.1).1).length : Nat) : Int) - 1) (c := (((((cutA 58 (cutA 60 t).2.1).1).length) - 1 : Nat) : Int)) rfl (by rw [IntWalk.i64_in _ (by omega)]; omega)) ?_
            refine AOps.read trivial rfl (by decide) (Reader.sub (i := 0) (j := (((cutA 58 (cutA 60 t).2.1).1).length) - 1) rfl Tryd.underlying9 rfl rfl ⟨_, _, rfl, rfl⟩ (by first | omega | (simp; omega)) (by first | omega | (simp; omega)) (m := (cutA 58 (cutA 60 t).2.1).1.take ((cutA 58 (cutA 60 t).2.1).1.length - 1)) rfl) ?_
            refine AOps.call (args := [.str ((cutA 58 (cutA 60 t).2.1).1.take ((cutA 58 (cutA 60 t).2.1).1.length - 1))]) trivial rfl (by decide) rfl rfl Tryd.call66 (args_ok rfl) rfl (by intro j x v hx hv; match j, hx, hv with | 0, hx, hv => cases hx; cases hv; exact .inl ⟨rfl, rfl⟩ | _ + 1, hx, hv => cases hx) (rnum_any ((cutA 58 (cutA 60 t).2.1).1.take ((cutA 58 (cutA 60 t).2.1).1.length - 1)) (by first | omega | (simp only [List.length_take, List.length_drop]; omega)) M) ?_
            rintro _ _ ⟨rfl, rfl⟩
            refine AOps.read trivial rfl (by decide) (Reader.fieldL rfl ⟨_, _, Tryd.underlying65, rfl, rfl, rfl, sizeOf_3⟩ (by decide) rfl) ?_
            refine AOps.storeL trivial rfl rfl rfl rfl sizeOf_3 (.inl ⟨rfl, rfl⟩) rfl (v := .lit (.int .i64 (numR ((cutA 58 (cutA 60 t).2.1).1.take ((cutA 58 (cutA 60 t).2.1).1.length - 1))))) rfl (all_flat rfl) rfl (Nat.le_of_ble_eq_true rfl) ?_
            refine AOps.nil ?_
            refine AWp.seq ?_
            refine AWp.seq (AWp.region ?_)
            refine AOps.read trivial rfl (by decide) (Reader.loadL rfl Tryd.underlying65 sizeOf_65 rfl rfl (v := .agg [.lit (.int .i64 (sgTo (cutA 60 t).1 i)), .lit (.int .i64 (numR ((cutA 58 (cutA 60 t).2.1).1.take ((cutA 58 (cutA 60 t).2.1).1.length - 1)))), .lit (.int .i64 0), .lit (.bool true), .lit (.int .i64 (numR ((cutA 58 (cutA 60 t).2.1).2.1)))]) rfl rfl) ?_
            refine AOps.call (args := [.agg [.lit (.int .i64 (sgTo (cutA 60 t).1 i)), .lit (.int .i64 (numR ((cutA 58 (cutA 60 t).2.1).1.take ((cutA 58 (cutA 60 t).2.1).1.length - 1)))), .lit (.int .i64 0), .lit (.bool true), .lit (.int .i64 (numR ((cutA 58 (cutA 60 t).2.1).2.1)))]]) trivial rfl (by decide) rfl rfl Tryd.call37 (args_ok rfl) rfl (by intro j x v hx hv; match j, hx, hv with | 0, hx, hv => cases hx; cases hv; exact .inl ⟨rfl, rfl⟩ | _ + 1, hx, hv => cases hx) (rRight_any ⟨sgTo (cutA 60 t).1 i, numR ((cutA 58 (cutA 60 t).2.1).1.take ((cutA 58 (cutA 60 t).2.1).1.length - 1)), 0, true, numR ((cutA 58 (cutA 60 t).2.1).2.1)⟩ M) ?_
            rintro _ _ ⟨rfl, rfl⟩
            refine AOps.read trivial rfl (by decide) (Reader.not (b := decide (RightT ⟨sgTo (cutA 60 t).1 i, numR ((cutA 58 (cutA 60 t).2.1).1.take ((cutA 58 (cutA 60 t).2.1).1.length - 1)), 0, true, numR ((cutA 58 (cutA 60 t).2.1).2.1)⟩)) rfl rfl) ?_
            refine AOps.nil ?_
            refine AWp.cond (b := !(decide (RightT ⟨sgTo (cutA 60 t).1 i, numR ((cutA 58 (cutA 60 t).2.1).1.take ((cutA 58 (cutA 60 t).2.1).1.length - 1)), 0, true, numR ((cutA 58 (cutA 60 t).2.1).2.1)⟩))) rfl (fun h7 => ?_) (fun h7 => ?_)
            · skip
              have h7' : ¬ RightT ⟨sgTo (cutA 60 t).1 i, numR ((cutA 58 (cutA 60 t).2.1).1.take ((cutA 58 (cutA 60 t).2.1).1.length - 1)), 0, true, numR ((cutA 58 (cutA 60 t).2.1).2.1)⟩ := (of_decide_eq_false (bnot_t h7))
              clear h7
              refine AWp.seq (AWp.region ?_)
              refine AOps.read trivial rfl (by decide) (Reader.build (xs := []) (Es := []) (places := places_65) rfl Tryd.underlying65 (by refine ⟨rfl, fun j p x hp hx => ?_⟩; match j, hp, hx with | _ + 0, hp, hx => cases hp) zero_65 rfl places_65_ok (cs := [.lit (.int .i64 0), .lit (.int .i64 0), .lit (.int .i64 0), .lit (.bool false), .lit (.int .i64 0)]) rfl) ?_
              refine AOps.storeL trivial rfl rfl rfl rfl sizeOf_65 (.inl ⟨rfl, rfl⟩) rfl (v := .agg [.lit (.int .i64 0), .lit (.int .i64 0), .lit (.int .i64 0), .lit (.bool false), .lit (.int .i64 0)]) rfl (all_flat rfl) rfl (Nat.le_of_ble_eq_true rfl) ?_
              refine AOps.read trivial rfl (by decide) (Reader.move (.inr rfl) (ok_const rfl) (v := .lit (.bool false)) rfl) ?_
              refine AOps.nil ?_
              refine AWp.ret ?_
              have hs3 := sgTo_3 (w := wdOf t) (i := i) (by omega)
              have hno : ¬ OkT t := by first | exact (ref_no (.inr (no_amt (suv rfl (by assumption)) (qn_of (by assumption))))).1 | exact (ref_no (.inr (rth_f hs3 (thrR_of (t := t) hc58 (suv rfl (by assumption))) (by assumption)))).1
              exact ⟨.inl rfl, _, ResOf.cellTmp 2 2 0 5 65 _ _ (.agg [.lit (.int .i64 0), .lit (.int .i64 0), .lit (.int .i64 0), .lit (.bool false), .lit (.int .i64 0)]) rfl rfl Tryd.underlying65 sizeOf_65 rfl (Eq.refl true) 3 (.lit (.bool false)) rfl rfl, ⟨by rw [(rth_no hno).1, (rth_no hno).2]; rfl, rfl⟩⟩
            · skip
              have h7' : RightT ⟨sgTo (cutA 60 t).1 i, numR ((cutA 58 (cutA 60 t).2.1).1.take ((cutA 58 (cutA 60 t).2.1).1.length - 1)), 0, true, numR ((cutA 58 (cutA 60 t).2.1).2.1)⟩ := (of_decide_eq_true (bnot_f h7))
              clear h7
              refine AWp.skip ?_
              refine AWp.seq (AWp.region ?_)
              refine AOps.read trivial rfl (by decide) (Reader.loadL rfl Tryd.underlying65 sizeOf_65 rfl rfl (v := .agg [.lit (.int .i64 (sgTo (cutA 60 t).1 i)), .lit (.int .i64 (numR ((cutA 58 (cutA 60 t).2.1).1.take ((cutA 58 (cutA 60 t).2.1).1.length - 1)))), .lit (.int .i64 0), .lit (.bool true), .lit (.int .i64 (numR ((cutA 58 (cutA 60 t).2.1).2.1)))]) rfl rfl) ?_
              refine AOps.storeL trivial rfl rfl rfl rfl sizeOf_65 (.inl ⟨rfl, rfl⟩) rfl (v := .agg [.lit (.int .i64 (sgTo (cutA 60 t).1 i)), .lit (.int .i64 (numR ((cutA 58 (cutA 60 t).2.1).1.take ((cutA 58 (cutA 60 t).2.1).1.length - 1)))), .lit (.int .i64 0), .lit (.bool true), .lit (.int .i64 (numR ((cutA 58 (cutA 60 t).2.1).2.1)))]) rfl (all_flat rfl) rfl (Nat.le_of_ble_eq_true rfl) ?_
              refine AOps.read trivial rfl (by decide) (Reader.move (.inr rfl) (ok_const rfl) (v := .lit (.bool true)) rfl) ?_
              refine AOps.nil ?_
              refine AWp.ret ?_
              have hs3 := sgTo_3 (w := wdOf t) (i := i) (by omega)
              have hq := thrR_of (t := t) hc58 (suv rfl (by assumption))
              have hok := ref_ok hc60 (rth_t hs3 hq (by assumption))
              rw [← hok.2, decide_eq_true hok.1, hq, ← hs3]
              exact ⟨.inl rfl, _, ResOf.cellTmp 2 2 0 5 65 _ _ (.agg [.lit (.int .i64 (sgTo (cutA 60 t).1 i)), .lit (.int .i64 (numR ((cutA 58 (cutA 60 t).2.1).1.take ((cutA 58 (cutA 60 t).2.1).1.length - 1)))), .lit (.int .i64 0), .lit (.bool true), .lit (.int .i64 (numR ((cutA 58 (cutA 60 t).2.1).2.1)))]) rfl rfl Tryd.underlying65 sizeOf_65 rfl (Eq.refl true) 3 (.lit (.bool true)) rfl rfl, ⟨rfl, rfl⟩⟩
          · skip
            have h6' : Lib.hasSuffix (cutA 58 (cutA 60 t).2.1).1 [37] = false ∧ 0 ≤ (cutA 58 (cutA 60 t).2.1).1.length := ⟨sufl_f h6, Nat.zero_le _⟩
            clear h6
            refine AWp.seq (AWp.region ?_)
            refine AOps.read trivial rfl (by decide) (Reader.move (.inl rfl) (ok_const rfl) (v := .str ((cutA 58 (cutA 60 t).2.1).1)) rfl) ?_
            refine AOps.call (args := [.str ((cutA 58 (cutA 60 t).2.1).1)]) trivial rfl (by decide) rfl rfl Tryd.call67 (args_ok rfl) rfl (by intro j x v hx hv; match j, hx, hv with | 0, hx, hv => cases hx; cases hv; exact .inl ⟨rfl, rfl⟩ | _ + 1, hx, hv => cases hx) (rRead_any ((cutA 58 (cutA 60 t).2.1).1) (by omega) M) ?_
            rintro _ _ ⟨rfl, rfl⟩
            refine AOps.read trivial rfl (by decide) (Reader.move (.inl rfl) (ok_const rfl) (v := .tuple [.lit (.int .i64 ((qv ((cutA 58 (cutA 60 t).2.1).1) : Nat) : Int)), .lit (.bool ((quantV ((cutA 58 (cutA 60 t).2.1).1)).isSome))]) rfl) ?_
            refine AOps.read trivial rfl (by decide) (Reader.extract (v := .lit (.int .i64 ((qv ((cutA 58 (cutA 60 t).2.1).1) : Nat) : Int))) rfl rfl rfl rfl) ?_
            refine AOps.read trivial rfl (by decide) (Reader.extract (v := .lit (.bool ((quantV ((cutA 58 (cutA 60 t).2.1).1)).isSome))) rfl rfl rfl rfl) ?_
            refine AOps.read trivial rfl (by decide) (Reader.move (.inr rfl) (ok_const rfl) (v := .lit (.int .i64 ((qv ((cutA 58 (cutA 60 t).2.1).1) : Nat) : Int))) rfl) ?_
            refine AOps.read trivial rfl (by decide) (Reader.move (.inr rfl) (ok_const rfl) (v := .lit (.bool ((quantV ((cutA 58 (cutA 60 t).2.1).1)).isSome))) rfl) ?_
            refine AOps.nil ?_
            refine AWp.seq ?_
            refine AWp.seq (AWp.region ?_)
            refine AOps.read trivial rfl (by decide) (Reader.move (.inl rfl) (ok_const rfl) (v := .lit (.bool ((quantV ((cutA 58 (cutA 60 t).2.1).1)).isSome))) rfl) ?_
            refine AOps.read trivial rfl (by decide) (Reader.not (b := (quantV ((cutA 58 (cutA 60 t).2.1).1)).isSome) rfl rfl) ?_
            refine AOps.nil ?_
            refine AWp.cond (b := !((quantV ((cutA 58 (cutA 60 t).2.1).1)).isSome)) rfl (fun h8 => ?_) (fun h8 => ?_)
            · skip
              refine AWp.seq (AWp.region ?_)
              refine AOps.read trivial rfl (by decide) (Reader.build (xs := []) (Es := []) (places := places_65) rfl Tryd.underlying65 (by refine ⟨rfl, fun j p x hp hx => ?_⟩; match j, hp, hx with | _ + 0, hp, hx => cases hp) zero_65 rfl places_65_ok (cs := [.lit (.int .i64 0), .lit (.int .i64 0), .lit (.int .i64 0), .lit (.bool false), .lit (.int .i64 0)]) rfl) ?_
              refine AOps.storeL trivial rfl rfl rfl rfl sizeOf_65 (.inl ⟨rfl, rfl⟩) rfl (v := .agg [.lit (.int .i64 0), .lit (.int .i64 0), .lit (.int .i64 0), .lit (.bool false), .lit (.int .i64 0)]) rfl (all_flat rfl) rfl (Nat.le_of_ble_eq_true rfl) ?_
              refine AOps.read trivial rfl (by decide) (Reader.move (.inr rfl) (ok_const rfl) (v := .lit (.bool false)) rfl) ?_
              refine AOps.nil ?_
              refine AWp.ret ?_
              have hs3 := sgTo_3 (w := wdOf t) (i := i) (by omega)
              have hno : ¬ OkT t := by first | exact (ref_no (.inr (no_amt (suv rfl (by assumption)) (qn_of (by assumption))))).1 | exact (ref_no (.inr (rth_f hs3 (thrR_of (t := t) hc58 (suv rfl (by assumption))) (by assumption)))).1
              exact ⟨.inl rfl, _, ResOf.cellTmp 2 2 0 5 65 _ _ (.agg [.lit (.int .i64 0), .lit (.int .i64 0), .lit (.int .i64 0), .lit (.bool false), .lit (.int .i64 0)]) rfl rfl Tryd.underlying65 sizeOf_65 rfl (Eq.refl true) 3 (.lit (.bool false)) rfl rfl, ⟨by rw [(rth_no hno).1, (rth_no hno).2]; rfl, rfl⟩⟩
            · skip
              refine AWp.skip ?_
              refine AWp.region ?_
              refine AOps.read trivial rfl (by decide) (Reader.move (.inl rfl) (ok_const rfl) (v := .lit (.int .i64 ((qv ((cutA 58 (cutA 60 t).2.1).1) : Nat) : Int))) rfl) ?_
              refine AOps.read trivial rfl (by decide) (Reader.fieldL rfl ⟨_, _, Tryd.underlying65, rfl, rfl, rfl, sizeOf_3⟩ (by decide) rfl) ?_
              refine AOps.storeL trivial rfl rfl rfl rfl sizeOf_3 (.inl ⟨rfl, rfl⟩) rfl (v := .lit (.int .i64 ((qv ((cutA 58 (cutA 60 t).2.1).1) : Nat) : Int))) rfl (all_flat rfl) rfl (Nat.le_of_ble_eq_true rfl) ?_
              refine AOps.nil ?_
              refine AWp.seq ?_
              refine AWp.seq (AWp.region ?_)
              refine AOps.read trivial rfl (by decide) (Reader.loadL rfl Tryd.underlying65 sizeOf_65 rfl rfl (v := .agg [.lit (.int .i64 (sgTo (cutA 60 t).1 i)), .lit (.int .i64 0), .lit (.int .i64 ((qv ((cutA 58 (cutA 60 t).2.1).1) : Nat) : Int)), .lit (.bool true), .lit (.int .i64 (numR ((cutA 58 (cutA 60 t).2.1).2.1)))]) rfl rfl) ?_
              refine AOps.call (args := [.agg [.lit (.int .i64 (sgTo (cutA 60 t).1 i)), .lit (.int .i64 0), .lit (.int .i64 ((qv ((cutA 58 (cutA 60 t).2.1).1) : Nat) : Int)), .lit (.bool true), .lit (.int .i64 (numR ((cutA 58 (cutA 60 t).2.1).2.1)))]]) trivial rfl (by decide) rfl rfl Tryd.call37 (args_ok rfl) rfl (by intro j x v hx hv; match j, hx, hv with | 0, hx, hv => cases hx; cases hv; exact .inl ⟨rfl, rfl⟩ | _ + 1, hx, hv => cases hx) (rRight_any ⟨sgTo (cutA 60 t).1 i, 0, ((qv ((cutA 58 (cutA 60 t).2.1).1) : Nat) : Int), true, numR ((cutA 58 (cutA 60 t).2.1).2.1)⟩ M) ?_
              rintro _ _ ⟨rfl, rfl⟩
              refine AOps.read trivial rfl (by decide) (Reader.not (b := decide (RightT ⟨sgTo (cutA 60 t).1 i, 0, ((qv ((cutA 58 (cutA 60 t).2.1).1) : Nat) : Int), true, numR ((cutA 58 (cutA 60 t).2.1).2.1)⟩)) rfl rfl) ?_
              refine AOps.nil ?_
              refine AWp.cond (b := !(decide (RightT ⟨sgTo (cutA 60 t).1 i, 0, ((qv ((cutA 58 (cutA 60 t).2.1).1) : Nat) : Int), true, numR ((cutA 58 (cutA 60 t).2.1).2.1)⟩))) rfl (fun h9 => ?_) (fun h9 => ?_)
              · skip
                have h9' : ¬ RightT ⟨sgTo (cutA 60 t).1 i, 0, ((qv ((cutA 58 (cutA 60 t).2.1).1) : Nat) : Int), true, numR ((cutA 58 (cutA 60 t).2.1).2.1)⟩ := (of_decide_eq_false (bnot_t h9))
                clear h9
                refine AWp.seq (AWp.region ?_)
                refine AOps.read trivial rfl (by decide) (Reader.build (xs := []) (Es := []) (places := places_65) rfl Tryd.underlying65 (by refine ⟨rfl, fun j p x hp hx => ?_⟩; match j, hp, hx with | _ + 0, hp, hx => cases hp) zero_65 rfl places_65_ok (cs := [.lit (.int .i64 0), .lit (.int .i64 0), .lit (.int .i64 0), .lit (.bool false), .lit (.int .i64 0)]) rfl) ?_
                refine AOps.storeL trivial rfl rfl rfl rfl sizeOf_65 (.inl ⟨rfl, rfl⟩) rfl (v := .agg [.lit (.int .i64 0), .lit (.int .i64 0), .lit (.int .i64 0), .lit (.bool false), .lit (.int .i64 0)]) rfl (all_flat rfl) rfl (Nat.le_of_ble_eq_true rfl) ?_
                refine AOps.read trivial rfl (by decide) (Reader.move (.inr rfl) (ok_const rfl) (v := .lit (.bool false)) rfl) ?_
                refine AOps.nil ?_
                refine AWp.ret ?_
                have hs3 := sgTo_3 (w := wdOf t) (i := i) (by omega)
                have hno : ¬ OkT t := by first | exact (ref_no (.inr (no_amt (suv rfl (by assumption)) (qn_of (by assumption))))).1 | exact (ref_no (.inr (rth_f hs3 (thrR_of (t := t) hc58 (suv rfl (by assumption))) (by assumption)))).1
                exact ⟨.inl rfl, _, ResOf.cellTmp 2 2 0 5 65 _ _ (.agg [.lit (.int .i64 0), .lit (.int .i64 0), .lit (.int .i64 0), .lit (.bool false), .lit (.int .i64 0)]) rfl rfl Tryd.underlying65 sizeOf_65 rfl (Eq.refl true) 3 (.lit (.bool false)) rfl rfl, ⟨by rw [(rth_no hno).1, (rth_no hno).2]; rfl, rfl⟩⟩
              · skip
                have h9' : RightT ⟨sgTo (cutA 60 t).1 i, 0, ((qv ((cutA 58 (cutA 60 t).2.1).1) : Nat) : Int), true, numR ((cutA 58 (cutA 60 t).2.1).2.1)⟩ := (of_decide_eq_true (bnot_f h9))
                clear h9
                refine AWp.skip ?_
                refine AWp.seq (AWp.region ?_)
                refine AOps.read trivial rfl (by decide) (Reader.loadL rfl Tryd.underlying65 sizeOf_65 rfl rfl (v := .agg [.lit (.int .i64 (sgTo (cutA 60 t).1 i)), .lit (.int .i64 0), .lit (.int .i64 ((qv ((cutA 58 (cutA 60 t).2.1).1) : Nat) : Int)), .lit (.bool true), .lit (.int .i64 (numR ((cutA 58 (cutA 60 t).2.1).2.1)))]) rfl rfl) ?_
                refine AOps.storeL trivial rfl rfl rfl rfl sizeOf_65 (.inl ⟨rfl, rfl⟩) rfl (v := .agg [.lit (.int .i64 (sgTo (cutA 60 t).1 i)), .lit (.int .i64 0), .lit (.int .i64 ((qv ((cutA 58 (cutA 60 t).2.1).1) : Nat) : Int)), .lit (.bool true), .lit (.int .i64 (numR ((cutA 58 (cutA 60 t).2.1).2.1)))]) rfl (all_flat rfl) rfl (Nat.le_of_ble_eq_true rfl) ?_
                refine AOps.read trivial rfl (by decide) (Reader.move (.inr rfl) (ok_const rfl) (v := .lit (.bool true)) rfl) ?_
                refine AOps.nil ?_
                refine AWp.ret ?_
                have hs3 := sgTo_3 (w := wdOf t) (i := i) (by omega)
                have hq := thrR_of (t := t) hc58 (suv rfl (by assumption))
                have hok := ref_ok hc60 (rth_t hs3 hq (by assumption))
                rw [← hok.2, decide_eq_true hok.1, hq, ← hs3]
                exact ⟨.inl rfl, _, ResOf.cellTmp 2 2 0 5 65 _ _ (.agg [.lit (.int .i64 (sgTo (cutA 60 t).1 i)), .lit (.int .i64 0), .lit (.int .i64 ((qv ((cutA 58 (cutA 60 t).2.1).1) : Nat) : Int)), .lit (.bool true), .lit (.int .i64 (numR ((cutA 58 (cutA 60 t).2.1).2.1)))]) rfl rfl Tryd.underlying65 sizeOf_65 rfl (Eq.refl true) 3 (.lit (.bool true)) rfl rfl, ⟨rfl, rfl⟩⟩
        · skip
          have h4' : ¬ (((cutA 58 (cutA 60 t).2.1).1.length) ≥ 0) := (by have hh := of_decide_eq_false h4; omega)
          clear h4
          exfalso; omega

set_option maxRecDepth 20000 in
theorem rTRead_hard (t : List UInt8) (hl : t.length ≤ 4294967280) (hc60 : t.contains 60 = true) (hc58 : (cutA 60 t).2.1.contains 58 = false) (M : Nat → Option (List AV)) : ACall Tryd.prog 34 [.str t] M (fun r M' => r = .tuple [encT (readT t), .lit (.bool (decide (OkT t)))] ∧ M = M') := by
  have hc1 := cutA_len 60 t
  have hc2 := cutA_len 58 (cutA 60 t).2.1
  have hk := cut_lt hc60
  have hv : vlOf t = (cutA 60 t).2.1 := cut_id hc58
  refine ACall.of Tryd.func34 rfl (n := 80) rfl rfl rfl ?_
  refine AWp.seq (AWp.region ?_)
  refine AOps.alloc (Es := []) trivial rfl (by decide) rfl (noL rfl) rfl zero_65 rfl (cells := [.lit (.int .i64 0), .lit (.int .i64 0), .lit (.int .i64 0), .lit (.bool false), .lit (.int .i64 0)]) rfl (all_scalar rfl) (all_flat rfl) ?_
  refine AOps.read trivial rfl (by decide) (Reader.move (.inr rfl) (ok_const rfl) (v := .lit (.bool false)) rfl) ?_
  refine AOps.nil ?_
  refine AWp.seq (AWp.region ?_)
  refine AOps.read trivial rfl (by decide) (Reader.build (xs := [(0, .lit (.int .i64 (-1)))]) (Es := []) (places := places_65) rfl Tryd.underlying65 (by refine ⟨rfl, fun j p x hp hx => ?_⟩; match j, hp, hx with | 0, hp, hx => cases hp; cases hx; exact ⟨rfl, .inl ⟨rfl, rfl⟩, rfl, rfl⟩ | _ + 1, hp, hx => cases hp) zero_65 rfl places_65_ok (cs := [.lit (.int .i64 (-1)), .lit (.int .i64 0), .lit (.int .i64 0), .lit (.bool false), .lit (.int .i64 0)]) rfl) ?_
  refine AOps.alloc (Es := []) trivial rfl (by decide) rfl (noL rfl) rfl zero_65 rfl (cells := [.lit (.int .i64 0), .lit (.int .i64 0), .lit (.int .i64 0), .lit (.bool false), .lit (.int .i64 0)]) rfl (all_scalar rfl) (all_flat rfl) ?_
  refine AOps.storeL trivial rfl rfl rfl rfl sizeOf_65 (.inl ⟨rfl, rfl⟩) rfl (v := .agg [.lit (.int .i64 (-1)), .lit (.int .i64 0), .lit (.int .i64 0), .lit (.bool false), .lit (.int .i64 0)]) rfl (all_flat rfl) rfl (Nat.le_of_ble_eq_true rfl) ?_
  refine AOps.nil ?_
  refine AWp.seq (AWp.region ?_)
  refine AOps.read trivial rfl (by decide) (Reader.move (.inl rfl) (ok_const rfl) (v := .str t) rfl) ?_
  refine AOps.call (args := [.str t, .lit (.int .u8 60)]) trivial rfl (by decide) rfl rfl Tryd.call65 (args_ok rfl) rfl (by intro j x v hx hv; match j, hx, hv with | 0, hx, hv => cases hx; cases hv; exact .inl ⟨rfl, rfl⟩ | 1, hx, hv => cases hx; cases hv; exact .inl ⟨rfl, rfl⟩ | _ + 2, hx, hv => cases hx) (find_yes t 60 hl hc60 M) ?_
  rintro _ _ ⟨rfl, rfl⟩
  refine AOps.read trivial rfl (by decide) (Reader.move (.inr rfl) (ok_const rfl) (v := .lit (.int .i64 (((cutA 60 t).1.length : Nat) : Int))) rfl) ?_
  refine AOps.nil ?_
  refine AWp.seq ?_
  refine AWp.seq (AWp.region ?_)
  refine AOps.read trivial rfl (by decide) (Reader.move (.inl rfl) (ok_const rfl) (v := .lit (.int .i64 (((cutA 60 t).1.length : Nat) : Int))) rfl) ?_
  refine AOps.read trivial rfl (by decide) (Reader.int rfl rfl rfl (r := .bool (decide ((((cutA 60 t).1.length : Nat) : Int) < 0))) rfl) ?_
  refine AOps.nil ?_
  refine AWp.cond (b := decide ((((cutA 60 t).1.length : Nat) : Int) < 0)) rfl (fun h1 => ?_) (fun h1 => ?_)
  · skip
    have h1' : ((cutA 60 t).1.length) < 0 := (by have hh := of_decide_eq_true h1; omega)
    clear h1
    exfalso; omega
  · skip
    have h1' : ¬ (((cutA 60 t).1.length) < 0) := (by have hh := of_decide_eq_false h1; omega)
    clear h1
    refine AWp.skip ?_
    refine AWp.seq ?_
    refine AWp.seq (AWp.region ?_)
    refine AOps.read trivial rfl (by decide) (Reader.move (.inr rfl) (ok_const rfl) (v := .lit (.int .i64 0)) rfl) ?_
    refine AOps.nil ?_
    refine AWp.block ?_
    refine AWp.loopE [0, 2, 4, 5, 6] [2, 4] (fun m s => ∃ (i : Nat), m = 3 - i ∧ s = ⟨[(0, .str t), (2, .lptr 2 0), (4, .lptr 4 0), (5, .lit (.int .i64 (((cutA 60 t).1.length : Nat) : Int))), (6, .lit (.int .i64 (i : Int)))], [(2, [.lit (.int .i64 0), .lit (.int .i64 0), .lit (.int .i64 0), .lit (.bool false), .lit (.int .i64 0)]), (4, [.lit (.int .i64 (sgTo (cutA 60 t).1 i)), .lit (.int .i64 0), .lit (.int .i64 0), .lit (.bool false), .lit (.int .i64 0)])], M⟩ ∧ (i ≤ 3)) ?_ ?_
    · exact ⟨_, 0, rfl, rfl, by omega⟩
    · rintro _ _ ⟨i, rfl, rfl, hi⟩
      refine AWp.seq ?_
      refine AWp.seq (AWp.region ?_)
      refine AOps.read trivial rfl (by decide) (Reader.move (.inl rfl) (ok_const rfl) (v := .lit (.int .i64 (i : Int))) rfl) ?_
      refine AOps.read trivial rfl (by decide) (Reader.int rfl rfl rfl (r := .bool (decide ((i : Int) < 3))) rfl) ?_
      refine AOps.nil ?_
      refine AWp.cond (b := decide ((i : Int) < 3)) rfl (fun h2 => ?_) (fun h2 => ?_)
      · skip
        have h2' : i < 3 := (by have hh := of_decide_eq_true h2; omega)
        clear h2
        refine AWp.skip ?_
        refine AWp.seq ?_
        refine AWp.block ?_
        refine AWp.seq (AWp.drawnAll (by kernel_rfl) (by kernel_rfl) ?_)
        refine AOpsE.read trivial rfl (by decide) (Reader.move (.inl rfl) (ok_const rfl) (v := .lit (.int .i64 (i : Int))) rfl) ?_
        refine AOpsE.call (args := [.lit (.int .i64 (i : Int))]) (v := .str (wordOf (i : Int))) trivial rfl (by decide) rfl rfl Tryd.call41 (args_ok rfl) rfl (by intro j x v hx hv; match j, hx, hv with | 0, hx, hv => cases hx; cases hv; exact .inl ⟨rfl, rfl⟩ | _ + 1, hx, hv => cases hx) (rWord_any (i : Int) noM) rfl ?_
        refine AOpsE.read trivial rfl (by decide) (Reader.move (.inl rfl) (ok_const rfl) (v := .str t) rfl) ?_
        refine AOpsE.read trivial rfl (by decide) (Reader.move (.inl rfl) (ok_const rfl) (v := .lit (.int .i64 (((cutA 60 t).1.length : Nat) : Int))) rfl) ?_
        refine AOpsE.read trivial rfl (by decide) (Reader.sub (i := 0) (j := (cutA 60 t).1.length) rfl Tryd.underlying9 rfl rfl ⟨_, _, rfl, rfl⟩ (by first | omega | (simp; omega)) (by first | omega | (simp; omega)) (m := (cutA 60 t).1) (cut_take 60 t)) ?_
        refine AOpsE.read trivial rfl (by decide) (Reader.strs rfl rfl rfl (r := (wordOf (i : Int)) == ((cutA 60 t).1)) rfl) ?_
        refine AOpsE.nil ?_
        refine AWp.cond (b := (wordOf (i : Int)) == ((cutA 60 t).1)) rfl (fun h3 => ?_) (fun h3 => ?_)
        · skip
          have h3' : (wordOf (i : Int)) = ((cutA 60 t).1) := (eq_of_beq h3)
          clear h3
          refine AWp.region ?_
          refine AOps.read trivial rfl (by decide) (Reader.move (.inl rfl) (ok_const rfl) (v := .lit (.int .i64 (i : Int))) rfl) ?_
          refine AOps.read trivial rfl (by decide) (Reader.fieldL rfl ⟨_, _, Tryd.underlying65, rfl, rfl, rfl, sizeOf_3⟩ (by decide) rfl) ?_
          refine AOps.storeL trivial rfl rfl rfl rfl sizeOf_3 (.inl ⟨rfl, rfl⟩) rfl (v := .lit (.int .i64 (i : Int))) rfl (all_flat rfl) rfl (Nat.le_of_ble_eq_true rfl) ?_
          refine AOps.nil ?_
          refine AWp.region ?_
          refine AOps.read trivial rfl (by decide) (Reader.move (.inl rfl) (ok_const rfl) (v := .lit (.int .i64 (i : Int))) rfl) ?_
          refine AOps.read trivial rfl (by decide) (Reader.sum rfl rfl rfl (m := (i : Int) + 1) (c := ((i + 1 : Nat) : Int)) rfl (by first | exact IntWalk.i64_in _ (by omega) | exact IntWalk.i64_in _ (by constructor <;> omega) | (simp only [];omega))) ?_
          refine AOps.read trivial rfl (by decide) (Reader.move (.inr rfl) (ok_const rfl) (v := .lit (.int .i64 ((i + 1 : Nat) : Int))) rfl) ?_
          refine AOps.nil ?_
          first | exact ⟨_, by omega, i + 1, rfl, (by rw [sgTo_hit (by omega) (by assumption)]; rfl), by omega⟩ | exact ⟨_, by omega, i + 1, rfl, (by rw [sgTo_miss (by omega) (by assumption)]; rfl), by omega⟩
        · skip
          have h3' : ¬ ((wordOf (i : Int)) = ((cutA 60 t).1)) := (beq_eq_false_iff_ne.1 h3)
          clear h3
          refine AWp.skip ?_
          refine AWp.region ?_
          refine AOps.read trivial rfl (by decide) (Reader.move (.inl rfl) (ok_const rfl) (v := .lit (.int .i64 (i : Int))) rfl) ?_
          refine AOps.read trivial rfl (by decide) (Reader.sum rfl rfl rfl (m := (i : Int) + 1) (c := ((i + 1 : Nat) : Int)) rfl (by first | exact IntWalk.i64_in _ (by omega) | exact IntWalk.i64_in _ (by constructor <;> omega) | (simp only [];omega))) ?_
          refine AOps.read trivial rfl (by decide) (Reader.move (.inr rfl) (ok_const rfl) (v := .lit (.int .i64 ((i + 1 : Nat) : Int))) rfl) ?_
          refine AOps.nil ?_
          first | exact ⟨_, by omega, i + 1, rfl, (by rw [sgTo_hit (by omega) (by assumption)]; rfl), by omega⟩ | exact ⟨_, by omega, i + 1, rfl, (by rw [sgTo_miss (by omega) (by assumption)]; rfl), by omega⟩
      · skip
        have h2' : ¬ (i < 3) := (by have hh := of_decide_eq_false h2; omega)
        clear h2
        refine AWp.exit ?_
        refine AWp.seq (AWp.region ?_)
        refine AOps.read trivial rfl (by decide) (Reader.move (.inl rfl) (ok_const rfl) (v := .str t) rfl) ?_
        refine AOps.read trivial rfl (by decide) (Reader.move (.inl rfl) (ok_const rfl) (v := .lit (.int .i64 (((cutA 60 t).1.length : Nat) : Int))) rfl) ?_
        refine AOps.read trivial rfl (by decide) (Reader.sum rfl rfl rfl (m := (((cutA 60 t).1.length : Nat) : Int) + 1) (c := ((((cutA 60 t).1.length) + 1 : Nat) : Int)) rfl (by first | exact IntWalk.i64_in _ (by omega) | exact IntWalk.i64_in _ (by constructor <;> omega) | (simp only [];omega))) ?_
        refine AOps.read trivial rfl (by decide) (Reader.sub (i := ((cutA 60 t).1.length) + 1) (j := t.length) rfl Tryd.underlying9 rfl ⟨_, _, rfl, rfl⟩ rfl (by first | omega | (simp; omega)) (by first | omega | (simp; omega)) (m := (cutA 60 t).2.1) (cut_drop hc60)) ?_
        refine AOps.read trivial rfl (by decide) (Reader.move (.inr rfl) (ok_const rfl) (v := .str ((cutA 60 t).2.1)) rfl) ?_
        refine AOps.nil ?_
        refine AWp.seq (AWp.region ?_)
        refine AOps.read trivial rfl (by decide) (Reader.move (.inl rfl) (ok_const rfl) (v := .str ((cutA 60 t).2.1)) rfl) ?_
        refine AOps.call (args := [.str ((cutA 60 t).2.1), .lit (.int .u8 58)]) trivial rfl (by decide) rfl rfl Tryd.call65 (args_ok rfl) rfl (by intro j x v hx hv; match j, hx, hv with | 0, hx, hv => cases hx; cases hv; exact .inl ⟨rfl, rfl⟩ | 1, hx, hv => cases hx; cases hv; exact .inl ⟨rfl, rfl⟩ | _ + 2, hx, hv => cases hx) (find_no (cutA 60 t).2.1 58 (by omega) hc58 M) ?_
        rintro _ _ ⟨rfl, rfl⟩
        refine AOps.read trivial rfl (by decide) (Reader.move (.inr rfl) (ok_const rfl) (v := .lit (.int .i64 (-1))) rfl) ?_
        refine AOps.nil ?_
        refine AWp.seq ?_
        refine AWp.seq (AWp.region ?_)
        refine AOps.read trivial rfl (by decide) (Reader.move (.inl rfl) (ok_const rfl) (v := .lit (.int .i64 (-1))) rfl) ?_
        refine AOps.read trivial rfl (by decide) (Reader.int rfl rfl rfl (r := .bool false) rfl) ?_
        refine AOps.nil ?_
        refine AWp.cond (b := false) rfl (fun hx => by cases hx) (fun hx => ?_)
        refine AWp.skip ?_
        refine AWp.seq ?_
        refine AWp.regionJ [57, 0, 2, 4, 5, 6, 18, 7, 8, 36] [2, 4] (fun z => ⟨(57, .lit (.bool z)) :: [(0, .str t), (2, .lptr 2 0), (4, .lptr 4 0), (5, .lit (.int .i64 (((cutA 60 t).1.length : Nat) : Int))), (6, .lit (.int .i64 (i : Int))), (18, .lit (.bool (decide ((i : Int) < 3)))), (7, .str ((cutA 60 t).2.1)), (8, .lit (.int .i64 (-1))), (36, .lit (.bool false))], [(2, [.lit (.int .i64 0), .lit (.int .i64 0), .lit (.int .i64 0), .lit (.bool false), .lit (.int .i64 0)]), (4, [.lit (.int .i64 (sgTo (cutA 60 t).1 i)), .lit (.int .i64 0), .lit (.int .i64 0), .lit (.bool false), .lit (.int .i64 0)])], M⟩) (z := bif (decide (((((cutA 60 t).2.1).length : Nat) : Int) > 0)) then (((((cutA 60 t).2.1).getD ((((cutA 60 t).2.1).length) - 1) 0).toNat : Int) == 37) else false) ?_ ?_
        · skip
          refine AOps.read trivial rfl (by decide) (Reader.move (.inl rfl) (ok_const rfl) (v := .str ((cutA 60 t).2.1)) rfl) ?_
          refine AOps.read trivial rfl (by decide) (Reader.lenStr' (l := (cutA 60 t).2.1) rfl rfl rfl rfl Tryd.underlying9 rfl (m := ((cutA 60 t).2.1).length) (by first | rfl | simp)) ?_
          refine AOps.read trivial rfl (by decide) (Reader.int rfl rfl rfl (r := .bool (decide (((((cutA 60 t).2.1).length : Nat) : Int) > 0))) rfl) ?_
          refine AOps.read trivial rfl (by decide) (Reader.move (.inl rfl) (ok_const rfl) (v := .lit (.bool (decide (((((cutA 60 t).2.1).length : Nat) : Int) > 0)))) rfl) ?_
          refine AOps.splitJ (t := 50) (b := decide (((((cutA 60 t).2.1).length : Nat) : Int) > 0)) (x := (((((cutA 60 t).2.1).getD ((((cutA 60 t).2.1).length) - 1) 0).toNat : Int) == 37)) (y := false) rfl (fun h4 => ?_) (fun h4 => ?_)
          · skip
            have h4' : (((cutA 60 t).2.1).length) > 0 := (by have hh := of_decide_eq_true h4; omega)
            clear h4
            refine AOps.read ⟨50, rfl, rfl⟩ rfl (by decide) (Reader.move (.inl rfl) (ok_const rfl) (v := .str ((cutA 60 t).2.1)) rfl) ?_
            refine AOps.read ⟨50, rfl, rfl⟩ rfl (by decide) (Reader.move (.inl rfl) (ok_const rfl) (v := .str ((cutA 60 t).2.1)) rfl) ?_
            refine AOps.read ⟨50, rfl, rfl⟩ rfl (by decide) (Reader.lenStr' (l := (cutA 60 t).2.1) rfl rfl rfl rfl Tryd.underlying9 rfl (m := ((cutA 60 t).2.1).length) (by first | rfl | simp)) ?_
            refine AOps.read ⟨50, rfl, rfl⟩ rfl (by decide) (Reader.sum rfl rfl rfl (m := ((((cutA 60 t).2.1).length : Nat) : Int) - 1) (c := (((((cutA 60 t).2.1).length) - 1 : Nat) : Int)) rfl (by rw [IntWalk.i64_in _ (by omega)]; omega)) ?_
            refine AOps.read ⟨50, rfl, rfl⟩ rfl (by decide) (Reader.byte (m := (((cutA 60 t).2.1).length) - 1) (c := ((cutA 60 t).2.1).getD ((((cutA 60 t).2.1).length) - 1) 0) rfl Tryd.underlying9 rfl rfl rfl (getD_some (by first | omega | (simp; omega)))) ?_
            refine AOps.read ⟨50, rfl, rfl⟩ rfl (by decide) (Reader.int rfl rfl rfl (r := .bool (((((cutA 60 t).2.1).getD ((((cutA 60 t).2.1).length) - 1) 0).toNat : Int) == 37)) rfl) ?_
            refine AOps.read trivial rfl (by decide) (Reader.pick rfl (b := true) rfl (ok_const rfl) (ok_const rfl) (v := .lit (.bool (((((cutA 60 t).2.1).getD ((((cutA 60 t).2.1).length) - 1) 0).toNat : Int) == 37))) rfl) ?_
            exact AOps.nil rfl
          · skip
            have h4' : ¬ ((((cutA 60 t).2.1).length) > 0) := (by have hh := of_decide_eq_false h4; omega)
            clear h4
            refine AOps.skip ⟨3, true, 50, _, rfl, rfl, rfl, by simp⟩ rfl (by decide) ?_
            refine AOps.skip ⟨3, true, 50, _, rfl, rfl, rfl, by simp⟩ rfl (by decide) ?_
            refine AOps.skip ⟨3, true, 50, _, rfl, rfl, rfl, by simp⟩ rfl (by decide) ?_
            refine AOps.skip ⟨3, true, 50, _, rfl, rfl, rfl, by simp⟩ rfl (by decide) ?_
            refine AOps.skip ⟨3, true, 50, _, rfl, rfl, rfl, by simp⟩ rfl (by decide) ?_
            refine AOps.skip ⟨3, true, 50, _, rfl, rfl, rfl, by simp⟩ rfl (by decide) ?_
            refine AOps.read trivial rfl (by decide) (Reader.pick rfl (b := false) rfl (ok_const rfl) (ok_const rfl) (v := .lit (.bool false)) rfl) ?_
            exact AOps.nil rfl
        refine AWp.cond (b := bif (decide (((((cutA 60 t).2.1).length : Nat) : Int) > 0)) then (((((cutA 60 t).2.1).getD ((((cutA 60 t).2.1).length) - 1) 0).toNat : Int) == 37) else false) rfl (fun h5 => ?_) (fun h5 => ?_)
        · skip
          have h5' : Lib.hasSuffix (cutA 60 t).2.1 [37] = true ∧ 0 < (cutA 60 t).2.1.length := ⟨sufl_t h5, suf_pos (sufl_t h5)⟩
          clear h5
          refine AWp.region ?_
          refine AOps.read trivial rfl (by decide) (Reader.move (.inl rfl) (ok_const rfl) (v := .str ((cutA 60 t).2.1)) rfl) ?_
          refine AOps.read trivial rfl (by decide) (Reader.move (.inl rfl) (ok_const rfl) (v := .str ((cutA 60 t).2.1)) rfl) ?_
          refine AOps.read trivial rfl (by decide) (Reader.lenStr' (l := (cutA 60 t).2.1) rfl rfl rfl rfl Tryd.underlying9 rfl (m := ((cutA 60 t).2.1).length) (by first | rfl | simp)) ?_
          refine AOps.read trivial rfl (by decide) (Reader.sum rfl rfl rfl (m := ((((cutA 60 t).2.1).length : Nat) : Int) - 1) (c := (((((cutA 60 t).2.1).length) - 1 : Nat) : Int)) rfl (by rw [IntWalk.i64_in _ (by omega)]; omega)) ?_
          refine AOps.read trivial rfl (by decide) (Reader.sub (i := 0) (j := (((cutA 60 t).2.1).length) - 1) rfl Tryd.underlying9 rfl rfl ⟨_, _, rfl, rfl⟩ (by first | omega | (simp; omega)) (by first | omega | (simp; omega)) (m := (cutA 60 t).2.1.take ((cutA 60 t).2.1.length - 1)) rfl) ?_
          refine AOps.call (args := [.str ((cutA 60 t).2.1.take ((cutA 60 t).2.1.length - 1))]) trivial rfl (by decide) rfl rfl Tryd.call66 (args_ok rfl) rfl (by intro j x v hx hv; match j, hx, hv with | 0, hx, hv => cases hx; cases hv; exact .inl ⟨rfl, rfl⟩ | _ + 1, hx, hv => cases hx) (rnum_any ((cutA 60 t).2.1.take ((cutA 60 t).2.1.length - 1)) (by first | omega | (simp only [List.length_take, List.length_drop]; omega)) M) ?_
          rintro _ _ ⟨rfl, rfl⟩
          refine AOps.read trivial rfl (by decide) (Reader.fieldL rfl ⟨_, _, Tryd.underlying65, rfl, rfl, rfl, sizeOf_3⟩ (by decide) rfl) ?_
          refine AOps.storeL trivial rfl rfl rfl rfl sizeOf_3 (.inl ⟨rfl, rfl⟩) rfl (v := .lit (.int .i64 (numR ((cutA 60 t).2.1.take ((cutA 60 t).2.1.length - 1))))) rfl (all_flat rfl) rfl (Nat.le_of_ble_eq_true rfl) ?_
          refine AOps.nil ?_
          refine AWp.seq ?_
          refine AWp.seq (AWp.region ?_)
          refine AOps.read trivial rfl (by decide) (Reader.loadL rfl Tryd.underlying65 sizeOf_65 rfl rfl (v := .agg [.lit (.int .i64 (sgTo (cutA 60 t).1 i)), .lit (.int .i64 (numR ((cutA 60 t).2.1.take ((cutA 60 t).2.1.length - 1)))), .lit (.int .i64 0), .lit (.bool false), .lit (.int .i64 0)]) rfl rfl) ?_
          refine AOps.call (args := [.agg [.lit (.int .i64 (sgTo (cutA 60 t).1 i)), .lit (.int .i64 (numR ((cutA 60 t).2.1.take ((cutA 60 t).2.1.length - 1)))), .lit (.int .i64 0), .lit (.bool false), .lit (.int .i64 0)]]) trivial rfl (by decide) rfl rfl Tryd.call37 (args_ok rfl) rfl (by intro j x v hx hv; match j, hx, hv with | 0, hx, hv => cases hx; cases hv; exact .inl ⟨rfl, rfl⟩ | _ + 1, hx, hv => cases hx) (rRight_any ⟨sgTo (cutA 60 t).1 i, numR ((cutA 60 t).2.1.take ((cutA 60 t).2.1.length - 1)), 0, false, 0⟩ M) ?_
          rintro _ _ ⟨rfl, rfl⟩
          refine AOps.read trivial rfl (by decide) (Reader.not (b := decide (RightT ⟨sgTo (cutA 60 t).1 i, numR ((cutA 60 t).2.1.take ((cutA 60 t).2.1.length - 1)), 0, false, 0⟩)) rfl rfl) ?_
          refine AOps.nil ?_
          refine AWp.cond (b := !(decide (RightT ⟨sgTo (cutA 60 t).1 i, numR ((cutA 60 t).2.1.take ((cutA 60 t).2.1.length - 1)), 0, false, 0⟩))) rfl (fun h6 => ?_) (fun h6 => ?_)
          · skip
            have h6' : ¬ RightT ⟨sgTo (cutA 60 t).1 i, numR ((cutA 60 t).2.1.take ((cutA 60 t).2.1.length - 1)), 0, false, 0⟩ := (of_decide_eq_false (bnot_t h6))
            clear h6
            refine AWp.seq (AWp.region ?_)
            refine AOps.read trivial rfl (by decide) (Reader.build (xs := []) (Es := []) (places := places_65) rfl Tryd.underlying65 (by refine ⟨rfl, fun j p x hp hx => ?_⟩; match j, hp, hx with | _ + 0, hp, hx => cases hp) zero_65 rfl places_65_ok (cs := [.lit (.int .i64 0), .lit (.int .i64 0), .lit (.int .i64 0), .lit (.bool false), .lit (.int .i64 0)]) rfl) ?_
            refine AOps.storeL trivial rfl rfl rfl rfl sizeOf_65 (.inl ⟨rfl, rfl⟩) rfl (v := .agg [.lit (.int .i64 0), .lit (.int .i64 0), .lit (.int .i64 0), .lit (.bool false), .lit (.int .i64 0)]) rfl (all_flat rfl) rfl (Nat.le_of_ble_eq_true rfl) ?_
            refine AOps.read trivial rfl (by decide) (Reader.move (.inr rfl) (ok_const rfl) (v := .lit (.bool false)) rfl) ?_
            refine AOps.nil ?_
            refine AWp.ret ?_
            have hs3 := sgTo_3 (w := wdOf t) (i := i) (by omega)
            have hno : ¬ OkT t := by first | exact (ref_no (.inr (no_amt (suv hv (by assumption)) (qn_of (by rw [hv]; assumption))))).1 | (have hq := thrR_of (t := t) hc58 (suv hv (by assumption)); rw [hv] at hq; exact (ref_no (.inr (rth_f hs3 hq (by assumption)))).1)
            exact ⟨.inl rfl, _, ResOf.cellTmp 2 2 0 5 65 _ _ (.agg [.lit (.int .i64 0), .lit (.int .i64 0), .lit (.int .i64 0), .lit (.bool false), .lit (.int .i64 0)]) rfl rfl Tryd.underlying65 sizeOf_65 rfl (Eq.refl true) 3 (.lit (.bool false)) rfl rfl, ⟨by rw [(rth_no hno).1, (rth_no hno).2]; rfl, rfl⟩⟩
          · skip
            have h6' : RightT ⟨sgTo (cutA 60 t).1 i, numR ((cutA 60 t).2.1.take ((cutA 60 t).2.1.length - 1)), 0, false, 0⟩ := (of_decide_eq_true (bnot_f h6))
            clear h6
            refine AWp.skip ?_
            refine AWp.seq (AWp.region ?_)
            refine AOps.read trivial rfl (by decide) (Reader.loadL rfl Tryd.underlying65 sizeOf_65 rfl rfl (v := .agg [.lit (.int .i64 (sgTo (cutA 60 t).1 i)), .lit (.int .i64 (numR ((cutA 60 t).2.1.take ((cutA 60 t).2.1.length - 1)))), .lit (.int .i64 0), .lit (.bool false), .lit (.int .i64 0)]) rfl rfl) ?_
            refine AOps.storeL trivial rfl rfl rfl rfl sizeOf_65 (.inl ⟨rfl, rfl⟩) rfl (v := .agg [.lit (.int .i64 (sgTo (cutA 60 t).1 i)), .lit (.int .i64 (numR ((cutA 60 t).2.1.take ((cutA 60 t).2.1.length - 1)))), .lit (.int .i64 0), .lit (.bool false), .lit (.int .i64 0)]) rfl (all_flat rfl) rfl (Nat.le_of_ble_eq_true rfl) ?_
            refine AOps.read trivial rfl (by decide) (Reader.move (.inr rfl) (ok_const rfl) (v := .lit (.bool true)) rfl) ?_
            refine AOps.nil ?_
            refine AWp.ret ?_
            have hs3 := sgTo_3 (w := wdOf t) (i := i) (by omega)
            have hq := thrR_of (t := t) hc58 (suv hv (by assumption))
            rw [hv] at hq
            have hok := ref_ok hc60 (rth_t hs3 hq (by assumption))
            rw [← hok.2, decide_eq_true hok.1, hq, ← hs3]
            exact ⟨.inl rfl, _, ResOf.cellTmp 2 2 0 5 65 _ _ (.agg [.lit (.int .i64 (sgTo (cutA 60 t).1 i)), .lit (.int .i64 (numR ((cutA 60 t).2.1.take ((cutA 60 t).2.1.length - 1)))), .lit (.int .i64 0), .lit (.bool false), .lit (.int .i64 0)]) rfl rfl Tryd.underlying65 sizeOf_65 rfl (Eq.refl true) 3 (.lit (.bool true)) rfl rfl, ⟨rfl, rfl⟩⟩
        · skip
          have h5' : Lib.hasSuffix (cutA 60 t).2.1 [37] = false ∧ 0 ≤ (cutA 60 t).2.1.length := ⟨sufl_f h5, Nat.zero_le _⟩
          clear h5
          refine AWp.seq (AWp.region ?_)
          refine AOps.read trivial rfl (by decide) (Reader.move (.inl rfl) (ok_const rfl) (v := .str ((cutA 60 t).2.1)) rfl) ?_
          refine AOps.call (args := [.str ((cutA 60 t).2.1)]) trivial rfl (by decide) rfl rfl Tryd.call67 (args_ok rfl) rfl (by intro j x v hx hv; match j, hx, hv with | 0, hx, hv => cases hx; cases hv; exact .inl ⟨rfl, rfl⟩ | _ + 1, hx, hv => cases hx) (rRead_any ((cutA 60 t).2.1) (by omega) M) ?_
          rintro _ _ ⟨rfl, rfl⟩
          refine AOps.read trivial rfl (by decide) (Reader.move (.inl rfl) (ok_const rfl) (v := .tuple [.lit (.int .i64 ((qv ((cutA 60 t).2.1) : Nat) : Int)), .lit (.bool ((quantV ((cutA 60 t).2.1)).isSome))]) rfl) ?_
          refine AOps.read trivial rfl (by decide) (Reader.extract (v := .lit (.int .i64 ((qv ((cutA 60 t).2.1) : Nat) : Int))) rfl rfl rfl rfl) ?_
          refine AOps.read trivial rfl (by decide) (Reader.extract (v := .lit (.bool ((quantV ((cutA 60 t).2.1)).isSome))) rfl rfl rfl rfl) ?_
          refine AOps.read trivial rfl (by decide) (Reader.move (.inr rfl) (ok_const rfl) (v := .lit (.int .i64 ((qv ((cutA 60 t).2.1) : Nat) : Int))) rfl) ?_
          refine AOps.read trivial rfl (by decide) (Reader.move (.inr rfl) (ok_const rfl) (v := .lit (.bool ((quantV ((cutA 60 t).2.1)).isSome))) rfl) ?_
          refine AOps.nil ?_
          refine AWp.seq ?_
          refine AWp.seq (AWp.region ?_)
          refine AOps.read trivial rfl (by decide) (Reader.move (.inl rfl) (ok_const rfl) (v := .lit (.bool ((quantV ((cutA 60 t).2.1)).isSome))) rfl) ?_
          refine AOps.read trivial rfl (by decide) (Reader.not (b := (quantV ((cutA 60 t).2.1)).isSome) rfl rfl) ?_
          refine AOps.nil ?_
          refine AWp.cond (b := !((quantV ((cutA 60 t).2.1)).isSome)) rfl (fun h7 => ?_) (fun h7 => ?_)
          · skip
            refine AWp.seq (AWp.region ?_)
            refine AOps.read trivial rfl (by decide) (Reader.build (xs := []) (Es := []) (places := places_65) rfl Tryd.underlying65 (by refine ⟨rfl, fun j p x hp hx => ?_⟩; match j, hp, hx with | _ + 0, hp, hx => cases hp) zero_65 rfl places_65_ok (cs := [.lit (.int .i64 0), .lit (.int .i64 0), .lit (.int .i64 0), .lit (.bool false), .lit (.int .i64 0)]) rfl) ?_
            refine AOps.storeL trivial rfl rfl rfl rfl sizeOf_65 (.inl ⟨rfl, rfl⟩) rfl (v := .agg [.lit (.int .i64 0), .lit (.int .i64 0), .lit (.int .i64 0), .lit (.bool false), .lit (.int .i64 0)]) rfl (all_flat rfl) rfl (Nat.le_of_ble_eq_true rfl) ?_
            refine AOps.read trivial rfl (by decide) (Reader.move (.inr rfl) (ok_const rfl) (v := .lit (.bool false)) rfl) ?_
            refine AOps.nil ?_
            refine AWp.ret ?_
            have hs3 := sgTo_3 (w := wdOf t) (i := i) (by omega)
            have hno : ¬ OkT t := by first | exact (ref_no (.inr (no_amt (suv hv (by assumption)) (qn_of (by rw [hv]; assumption))))).1 | (have hq := thrR_of (t := t) hc58 (suv hv (by assumption)); rw [hv] at hq; exact (ref_no (.inr (rth_f hs3 hq (by assumption)))).1)
            exact ⟨.inl rfl, _, ResOf.cellTmp 2 2 0 5 65 _ _ (.agg [.lit (.int .i64 0), .lit (.int .i64 0), .lit (.int .i64 0), .lit (.bool false), .lit (.int .i64 0)]) rfl rfl Tryd.underlying65 sizeOf_65 rfl (Eq.refl true) 3 (.lit (.bool false)) rfl rfl, ⟨by rw [(rth_no hno).1, (rth_no hno).2]; rfl, rfl⟩⟩
          · skip
            refine AWp.skip ?_
            refine AWp.region ?_
            refine AOps.read trivial rfl (by decide) (Reader.move (.inl rfl) (ok_const rfl) (v := .lit (.int .i64 ((qv ((cutA 60 t).2.1) : Nat) : Int))) rfl) ?_
            refine AOps.read trivial rfl (by decide) (Reader.fieldL rfl ⟨_, _, Tryd.underlying65, rfl, rfl, rfl, sizeOf_3⟩ (by decide) rfl) ?_
            refine AOps.storeL trivial rfl rfl rfl rfl sizeOf_3 (.inl ⟨rfl, rfl⟩) rfl (v := .lit (.int .i64 ((qv ((cutA 60 t).2.1) : Nat) : Int))) rfl (all_flat rfl) rfl (Nat.le_of_ble_eq_true rfl) ?_
            refine AOps.nil ?_
            refine AWp.seq ?_
            refine AWp.seq (AWp.region ?_)
            refine AOps.read trivial rfl (by decide) (Reader.loadL rfl Tryd.underlying65 sizeOf_65 rfl rfl (v := .agg [.lit (.int .i64 (sgTo (cutA 60 t).1 i)), .lit (.int .i64 0), .lit (.int .i64 ((qv ((cutA 60 t).2.1) : Nat) : Int)), .lit (.bool false), .lit (.int .i64 0)]) rfl rfl) ?_
            refine AOps.call (args := [.agg [.lit (.int .i64 (sgTo (cutA 60 t).1 i)), .lit (.int .i64 0), .lit (.int .i64 ((qv ((cutA 60 t).2.1) : Nat) : Int)), .lit (.bool false), .lit (.int .i64 0)]]) trivial rfl (by decide) rfl rfl Tryd.call37 (args_ok rfl) rfl (by intro j x v hx hv; match j, hx, hv with | 0, hx, hv => cases hx; cases hv; exact .inl ⟨rfl, rfl⟩ | _ + 1, hx, hv => cases hx) (rRight_any ⟨sgTo (cutA 60 t).1 i, 0, ((qv ((cutA 60 t).2.1) : Nat) : Int), false, 0⟩ M) ?_
            rintro _ _ ⟨rfl, rfl⟩
            refine AOps.read trivial rfl (by decide) (Reader.not (b := decide (RightT ⟨sgTo (cutA 60 t).1 i, 0, ((qv ((cutA 60 t).2.1) : Nat) : Int), false, 0⟩)) rfl rfl) ?_
            refine AOps.nil ?_
            refine AWp.cond (b := !(decide (RightT ⟨sgTo (cutA 60 t).1 i, 0, ((qv ((cutA 60 t).2.1) : Nat) : Int), false, 0⟩))) rfl (fun h8 => ?_) (fun h8 => ?_)
            · skip
              have h8' : ¬ RightT ⟨sgTo (cutA 60 t).1 i, 0, ((qv ((cutA 60 t).2.1) : Nat) : Int), false, 0⟩ := (of_decide_eq_false (bnot_t h8))
              clear h8
              refine AWp.seq (AWp.region ?_)
              refine AOps.read trivial rfl (by decide) (Reader.build (xs := []) (Es := []) (places := places_65) rfl Tryd.underlying65 (by refine ⟨rfl, fun j p x hp hx => ?_⟩; match j, hp, hx with | _ + 0, hp, hx => cases hp) zero_65 rfl places_65_ok (cs := [.lit (.int .i64 0), .lit (.int .i64 0), .lit (.int .i64 0), .lit (.bool false), .lit (.int .i64 0)]) rfl) ?_
              refine AOps.storeL trivial rfl rfl rfl rfl sizeOf_65 (.inl ⟨rfl, rfl⟩) rfl (v := .agg [.lit (.int .i64 0), .lit (.int .i64 0), .lit (.int .i64 0), .lit (.bool false), .lit (.int .i64 0)]) rfl (all_flat rfl) rfl (Nat.le_of_ble_eq_true rfl) ?_
              refine AOps.read trivial rfl (by decide) (Reader.move (.inr rfl) (ok_const rfl) (v := .lit (.bool false)) rfl) ?_
              refine AOps.nil ?_
              refine AWp.ret ?_
              have hs3 := sgTo_3 (w := wdOf t) (i := i) (by omega)
              have hno : ¬ OkT t := by first | exact (ref_no (.inr (no_amt (suv hv (by assumption)) (qn_of (by rw [hv]; assumption))))).1 | (have hq := thrR_of (t := t) hc58 (suv hv (by assumption)); rw [hv] at hq; exact (ref_no (.inr (rth_f hs3 hq (by assumption)))).1)
              exact ⟨.inl rfl, _, ResOf.cellTmp 2 2 0 5 65 _ _ (.agg [.lit (.int .i64 0), .lit (.int .i64 0), .lit (.int .i64 0), .lit (.bool false), .lit (.int .i64 0)]) rfl rfl Tryd.underlying65 sizeOf_65 rfl (Eq.refl true) 3 (.lit (.bool false)) rfl rfl, ⟨by rw [(rth_no hno).1, (rth_no hno).2]; rfl, rfl⟩⟩
            · skip
              have h8' : RightT ⟨sgTo (cutA 60 t).1 i, 0, ((qv ((cutA 60 t).2.1) : Nat) : Int), false, 0⟩ := (of_decide_eq_true (bnot_f h8))
              clear h8
              refine AWp.skip ?_
              refine AWp.seq (AWp.region ?_)
              refine AOps.read trivial rfl (by decide) (Reader.loadL rfl Tryd.underlying65 sizeOf_65 rfl rfl (v := .agg [.lit (.int .i64 (sgTo (cutA 60 t).1 i)), .lit (.int .i64 0), .lit (.int .i64 ((qv ((cutA 60 t).2.1) : Nat) : Int)), .lit (.bool false), .lit (.int .i64 0)]) rfl rfl) ?_
              refine AOps.storeL trivial rfl rfl rfl rfl sizeOf_65 (.inl ⟨rfl, rfl⟩) rfl (v := .agg [.lit (.int .i64 (sgTo (cutA 60 t).1 i)), .lit (.int .i64 0), .lit (.int .i64 ((qv ((cutA 60 t).2.1) : Nat) : Int)), .lit (.bool false), .lit (.int .i64 0)]) rfl (all_flat rfl) rfl (Nat.le_of_ble_eq_true rfl) ?_
              refine AOps.read trivial rfl (by decide) (Reader.move (.inr rfl) (ok_const rfl) (v := .lit (.bool true)) rfl) ?_
              refine AOps.nil ?_
              refine AWp.ret ?_
              have hs3 := sgTo_3 (w := wdOf t) (i := i) (by omega)
              have hq := thrR_of (t := t) hc58 (suv hv (by assumption))
              rw [hv] at hq
              have hok := ref_ok hc60 (rth_t hs3 hq (by assumption))
              rw [← hok.2, decide_eq_true hok.1, hq, ← hs3]
              exact ⟨.inl rfl, _, ResOf.cellTmp 2 2 0 5 65 _ _ (.agg [.lit (.int .i64 (sgTo (cutA 60 t).1 i)), .lit (.int .i64 0), .lit (.int .i64 ((qv ((cutA 60 t).2.1) : Nat) : Int)), .lit (.bool false), .lit (.int .i64 0)]) rfl rfl Tryd.underlying65 sizeOf_65 rfl (Eq.refl true) 3 (.lit (.bool true)) rfl rfl, ⟨rfl, rfl⟩⟩

theorem rTRead_any (t : List UInt8) (hl : t.length ≤ 4294967280) (M : Nat → Option (List AV)) : ACall Tryd.prog 34 [.str t] M (fun r M' => r = .tuple [encT (readT t), .lit (.bool (decide (OkT t)))] ∧ M = M') := by
  cases hc60 : t.contains 60 with
  | false => exact rTRead_no t hl hc60 M
  | true =>
    cases hc58 : (cutA 60 t).2.1.contains 58 with
    | true => exact rTRead_soft t hl hc60 hc58 M
    | false => exact rTRead_hard t hl hc60 hc58 M

end Go.Proofs.YtlpihekflkjkfaaDoor
