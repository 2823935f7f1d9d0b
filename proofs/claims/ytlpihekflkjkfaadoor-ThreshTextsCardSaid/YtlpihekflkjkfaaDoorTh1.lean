/- Walks over abstract values, printed by my program av.py. -/
import Derived.Test.YtlpihekflkjkfaaDoorLgP
import Derived.Test.YtlpihekflkjkfaaDoorThS
import Derived.Test.YtlpihekflkjkfaaDoorQu3
namespace Go.Proofs.YtlpihekflkjkfaaDoor
open Go.RowKit

theorem zz_iff {a b : Int} : ((a == 0) = (b == 0)) ↔ (a = 0 ↔ b = 0) := by rw [Bool.eq_iff_iff, beq_iff_eq, beq_iff_eq]
/-- The signals' words, in order. -/
def sigL : List (List UInt8) := [w0L, w1L, w2L]
theorem strs_at {ws : List (List UInt8)} {i : Nat} (h : i < ws.length) : (ws.map AV.str)[i]? = some (.str (ws.getD i [])) := by
  rw [List.getElem?_map, List.getD_eq_getElem?_getD, List.getElem?_eq_getElem h]; rfl
theorem idx_none {ws : List (List UInt8)} {t : List UInt8} {i : Nat} (hno : ∀ j, j < i → ws.getD j [] ≠ t) (hi : ws.length ≤ i) : idxL ws t = -1 := by
  unfold idxL
  have : ws.findIdx? (· == t) = none := by
    rw [List.findIdx?_eq_none_iff]
    intro x hx
    obtain ⟨j, hj, rfl⟩ := List.mem_iff_getElem.1 hx
    have := hno j (by omega)
    rw [List.getD_eq_getElem?_getD, List.getElem?_eq_getElem hj] at this
    exact beq_eq_false_iff_ne.2 this
  rw [this]
theorem idx_some {ws : List (List UInt8)} {t : List UInt8} {i : Nat} (hi : i < ws.length) (hno : ∀ j, j < i → ws.getD j [] ≠ t) (he : t = ws.getD i []) : idxL ws t = (i : Int) := by
  unfold idxL
  have : ws.findIdx? (· == t) = some i := by
    rw [List.findIdx?_eq_some_iff_getElem]
    refine ⟨hi, ?_, fun j hj => ?_⟩
    · rw [List.getD_eq_getElem?_getD, List.getElem?_eq_getElem hi] at he
      exact beq_iff_eq.2 he.symm
    · have := hno j hj
      rw [List.getD_eq_getElem?_getD, List.getElem?_eq_getElem (by omega)] at this
      simp only [Bool.not_eq_true]
      exact beq_eq_false_iff_ne.2 this
  rw [this]
theorem sig_idx (t : List UInt8) : idxL sigL t = sigOf t := by
  unfold idxL sigL sigOf
  by_cases h0 : t = w0L
  · subst h0; rfl
  · by_cases h1 : t = w1L
    · subst h1; rfl
    · by_cases h2 : t = w2L
      · subst h2; rfl
      · rw [if_neg h0, if_neg h1, if_neg h2]
        simp [Ne.symm h0, Ne.symm h1, Ne.symm h2, List.findIdx?_cons]

set_option maxRecDepth 20000 in
theorem Index_any (ws : List (List UInt8)) (t : List UInt8) (hw : ws.length ≤ 140737488355328) (M : Nat → Option (List AV)) : ACall Tryd.prog 55 [.list false 9 (ws.map AV.str), .str t] M (fun r M' => r = .lit (.int .i64 (idxL ws t)) ∧ M = M') := by
  refine ACall.of Tryd.func55 rfl (n := 19) rfl rfl rfl ?_
  refine AWp.seq (AWp.region ?_)
  refine AOps.read trivial rfl (by decide) (Reader.move (.inr rfl) (ok_const rfl) (v := .lit (.int .i64 0)) rfl) ?_
  refine AOps.nil ?_
  refine AWp.seq ?_
  refine AWp.seq (AWp.region ?_)
  refine AOps.read trivial rfl (by decide) (Reader.move (.inl rfl) (ok_const rfl) (v := .list false 9 (ws.map AV.str)) rfl) ?_
  refine AOps.read trivial rfl (by decide) (Reader.len' (xs := ws.map AV.str) rfl rfl rfl rfl Tryd.underlying23 rfl (m := ws.length) (by simp)) ?_
  refine AOps.read trivial rfl (by decide) (Reader.move (.inl rfl) (ok_const rfl) (v := .lit (.int .i64 0)) rfl) ?_
  refine AOps.nil ?_
  refine AWp.block ?_
  refine AWp.loopE [0, 1, 6, 7, 8] [] (fun m s => ∃ (i : Nat), m = ws.length - i ∧ s = ⟨[(0, .list false 9 (ws.map AV.str)), (1, .str t), (6, .list false 9 (ws.map AV.str)), (7, .lit (.int .i64 (ws.length : Int))), (8, .lit (.int .i64 (i : Int)))], [], M⟩ ∧ (i ≤ ws.length) ∧ (∀ j, j < i → ws.getD j [] ≠ t)) ?_ ?_
  · exact ⟨_, 0, rfl, rfl, Nat.zero_le _, fun j hj => by omega⟩
  · rintro _ _ ⟨i, rfl, rfl, hi, hno⟩
    refine AWp.seq (AWp.region ?_)
    refine AOps.read trivial rfl (by decide) (Reader.int rfl rfl rfl (r := .bool (decide ((i : Int) < (ws.length : Int)))) rfl) ?_
    refine AOps.nil ?_
    refine AWp.seq ?_
    refine AWp.cond (b := decide ((i : Int) < (ws.length : Int))) rfl (fun h1 => ?_) (fun h1 => ?_)
    · skip
      have h1' : i < ws.length := (by have hh := of_decide_eq_true h1; omega)
      clear h1
      refine AWp.skip ?_
      refine AWp.seq ?_
      refine AWp.block ?_
      refine AWp.seq (AWp.region ?_)
      refine AOps.read trivial rfl (by decide) (Reader.move (.inl rfl) (ok_const rfl) (v := .lit (.int .i64 (i : Int))) rfl) ?_
      refine AOps.read trivial rfl (by decide) (Reader.move (.inr rfl) (ok_const rfl) (v := .lit (.int .i64 (i : Int))) rfl) ?_
      refine AOps.nil ?_
      refine AWp.seq (AWp.region ?_)
      refine AOps.read trivial rfl (by decide) (Reader.move (.inl rfl) (ok_const rfl) (v := .str t) rfl) ?_
      refine AOps.read trivial rfl (by decide) (Reader.move (.inl rfl) (ok_const rfl) (v := .list false 9 (ws.map AV.str)) rfl) ?_
      refine AOps.read trivial rfl (by decide) (Reader.move (.inl rfl) (ok_const rfl) (v := .lit (.int .i64 (i : Int))) rfl) ?_
      refine AOps.read trivial rfl (by decide) (Reader.elemAddr (m := i) rfl Tryd.underlying23 sizeOf_9 rfl rfl rfl (e := .str (ws.getD i [])) (strs_at (by first | omega | (show _ < 0; omega)))) ?_
      refine AOps.read trivial rfl (by decide) (Reader.loadE rfl Tryd.underlying9 sizeOf_9 rfl (v := .str (ws.getD i [])) rfl rfl) ?_
      refine AOps.read trivial rfl (by decide) (Reader.strs rfl rfl rfl (r := t == (ws.getD i [])) rfl) ?_
      refine AOps.nil ?_
      refine AWp.cond (b := t == (ws.getD i [])) rfl (fun h2 => ?_) (fun h2 => ?_)
      · skip
        have h2' : t = (ws.getD i []) := (eq_of_beq h2)
        clear h2
        refine AWp.seq (AWp.region ?_)
        refine AOps.read trivial rfl (by decide) (Reader.move (.inl rfl) (ok_const rfl) (v := .lit (.int .i64 (i : Int))) rfl) ?_
        refine AOps.read trivial rfl (by decide) (Reader.move (.inr rfl) (ok_const rfl) (v := .lit (.int .i64 (i : Int))) rfl) ?_
        refine AOps.nil ?_
        refine AWp.ret ?_
        exact ⟨.inl rfl, _, ResOf.one 4 (.lit (.int .i64 (i : Int))) rfl rfl, ⟨congrArg (fun x : Int => AV.lit (.int .i64 x)) ((idx_some (by omega) hno (by assumption)).symm), rfl⟩⟩
      · skip
        have h2' : ¬ (t = (ws.getD i [])) := (beq_eq_false_iff_ne.1 h2)
        clear h2
        refine AWp.skip ?_
        refine AWp.region ?_
        refine AOps.read trivial rfl (by decide) (Reader.sum rfl rfl rfl (m := (i : Int) + 1) (c := ((i + 1 : Nat) : Int)) rfl (by first | exact IntWalk.i64_in _ (by omega) | exact IntWalk.i64_in _ (by constructor <;> omega) | (simp only [];omega))) ?_
        refine AOps.read trivial rfl (by decide) (Reader.move (.inl rfl) (ok_const rfl) (v := .lit (.int .i64 ((i + 1 : Nat) : Int))) rfl) ?_
        refine AOps.nil ?_
        exact ⟨_, by omega, i + 1, rfl, rfl, by omega, nx_0 hno (fun e => (by assumption : ¬ t = (ws.getD i [])) e.symm)⟩
    · skip
      have h1' : ¬ (i < ws.length) := (by have hh := of_decide_eq_false h1; omega)
      clear h1
      refine AWp.exit ?_
      refine AWp.seq (AWp.region ?_)
      refine AOps.read trivial rfl (by decide) (Reader.move (.inr rfl) (ok_const rfl) (v := .lit (.int .i64 (-1))) rfl) ?_
      refine AOps.nil ?_
      refine AWp.ret ?_
      exact ⟨.inl rfl, _, ResOf.one 4 (.lit (.int .i64 (-1))) rfl rfl, ⟨congrArg (fun x : Int => AV.lit (.int .i64 x)) ((idx_none hno (by omega)).symm), rfl⟩⟩

set_option maxRecDepth 20000 in
theorem twords_any  (M : Nat → Option (List AV)) : ACall Tryd.prog 68 [] M (fun r M' => r = .list true 9 (sigL.map AV.str) ∧ M = M') := by
  refine ACall.of Tryd.func68 rfl (n := 2) rfl rfl rfl ?_
  refine AWp.seq (AWp.region ?_)
  refine AOps.nilList 9 trivial rfl (by decide) (.inl rfl) ?_
  refine AOps.nil ?_
  refine AWp.seq (AWp.region ?_)
  refine AOps.buildSlice (ys := [(0, .str [109, 101, 109, 111, 114, 121]), (1, .str [100, 105, 115, 107]), (2, .str [112, 105, 100])]) (Es := []) (cs := [.str [109, 101, 109, 111, 114, 121], .str [100, 105, 115, 107], .str [112, 105, 100]]) (xs := [.str [109, 101, 109, 111, 114, 121], .str [100, 105, 115, 107], .str [112, 105, 100]]) trivial rfl (by decide) rfl Tryd.underlying23 Tryd.i9 rfl rfl rfl (by decide) (by refine ⟨rfl, fun j p x hp hx => ?_⟩; match j, hp, hx with | 0, hp, hx => cases hp; cases hx; exact ⟨rfl, .inl ⟨rfl, rfl⟩, rfl, rfl⟩ | 1, hp, hx => cases hp; cases hx; exact ⟨rfl, .inl ⟨rfl, rfl⟩, rfl, rfl⟩ | 2, hp, hx => cases hp; cases hx; exact ⟨rfl, .inl ⟨rfl, rfl⟩, rfl, rfl⟩ | _ + 3, hp, hx => cases hp) rfl rfl rfl (all_len rfl) (all_sc rfl) rfl ?_
  refine AOps.steal trivial rfl (by decide) (by decide) (.inr rfl) (v := .list true 9 [.str [109, 101, 109, 111, 114, 121], .str [100, 105, 115, 107], .str [112, 105, 100]]) rfl ?_
  refine AOps.nil ?_
  refine AWp.ret ?_
  exact ⟨.inl rfl, _, ResOf.one 0 (.list true 9 [.str [109, 101, 109, 111, 114, 121], .str [100, 105, 115, 107], .str [112, 105, 100]]) rfl rfl, ⟨rfl, rfl⟩⟩

set_option maxRecDepth 20000 in
theorem Signal_any (t : List UInt8) (M : Nat → Option (List AV)) : ACall Tryd.prog 35 [.str t] M (fun r M' => r = .tuple [.lit (.int .i64 ((sigOf t).toNat : Int)), .lit (.bool (decide (sigOf t ≥ 0)))] ∧ M = M') := by
  have hsr := sig_range t
  rw [← sig_idx] at hsr
  refine ACall.of Tryd.func35 rfl (n := 12) rfl rfl rfl ?_
  refine AWp.seq (AWp.region ?_)
  refine AOps.read trivial rfl (by decide) (Reader.move (.inr rfl) (ok_const rfl) (v := .lit (.int .i64 0)) rfl) ?_
  refine AOps.read trivial rfl (by decide) (Reader.move (.inr rfl) (ok_const rfl) (v := .lit (.bool false)) rfl) ?_
  refine AOps.nil ?_
  refine AWp.seq (AWp.region ?_)
  refine AOps.call (args := []) trivial rfl (by decide) rfl rfl Tryd.call68 (args_ok rfl) rfl (by intro j x v hx hv; match j, hx, hv with  | _ + 0, hx, hv => cases hx) (twords_any M) ?_
  rintro _ _ ⟨rfl, rfl⟩
  refine AOps.read trivial rfl (by decide) (Reader.move (.inl rfl) (ok_const rfl) (v := .str t) rfl) ?_
  refine AOps.call (args := [.list false 9 (sigL.map AV.str), .str t]) trivial rfl (by decide) rfl rfl Tryd.call55 (args_ok rfl) rfl (by intro j x v hx hv; match j, hx, hv with | 0, hx, hv => cases hx; cases hv; exact .inl ⟨rfl, rfl⟩ | 1, hx, hv => cases hx; cases hv; exact .inl ⟨rfl, rfl⟩ | _ + 2, hx, hv => cases hx) (Index_any sigL t (by decide) M) ?_
  rintro _ _ ⟨rfl, rfl⟩
  refine AOps.read trivial rfl (by decide) (Reader.move (.inr rfl) (ok_const rfl) (v := .lit (.int .i64 (idxL sigL t))) rfl) ?_
  refine AOps.nil ?_
  refine AWp.seq (AWp.region ?_)
  refine AOps.read trivial rfl (by decide) (Reader.move (.inl rfl) (ok_const rfl) (v := .lit (.int .i64 (idxL sigL t))) rfl) ?_
  refine AOps.read trivial rfl (by decide) (Reader.maxI rfl rfl rfl rfl rfl (m := (((idxL sigL t).toNat : Nat) : Int)) (by omega)) ?_
  refine AOps.read trivial rfl (by decide) (Reader.move (.inl rfl) (ok_const rfl) (v := .lit (.int .i64 (idxL sigL t))) rfl) ?_
  refine AOps.read trivial rfl (by decide) (Reader.int rfl rfl rfl (r := .bool (decide (idxL sigL t ≥ 0))) rfl) ?_
  refine AOps.read trivial rfl (by decide) (Reader.move (.inr rfl) (ok_const rfl) (v := .lit (.int .i64 (((idxL sigL t).toNat : Nat) : Int))) rfl) ?_
  refine AOps.read trivial rfl (by decide) (Reader.move (.inr rfl) (ok_const rfl) (v := .lit (.bool (decide (idxL sigL t ≥ 0)))) rfl) ?_
  refine AOps.nil ?_
  refine AWp.ret ?_
  exact ⟨.inl rfl, _, ResOf.two 2 3 (.lit (.int .i64 (((idxL sigL t).toNat : Nat) : Int))) (.lit (.bool (decide (idxL sigL t ≥ 0)))) rfl rfl (.inl rfl) (.inl rfl) (by decide), ⟨by rw [sig_idx], rfl⟩⟩

set_option maxRecDepth 20000 in
theorem Right_any (u : Thr) (M : Nat → Option (List AV)) : ACall Tryd.prog 36 [encT u] M (fun r M' => r = .lit (.bool (decide (RightT u))) ∧ M = M') := by
  refine ACall.of Tryd.func36 rfl (n := 64) rfl rfl rfl ?_
  refine AWp.seq (AWp.region ?_)
  refine AOps.box trivial rfl (by decide) rfl (noL rfl) rfl (v := encT u) (.inl ⟨rfl, rfl⟩) rfl rfl (all_flat rfl) ?_
  refine AOps.read trivial rfl (by decide) (Reader.move (.inr rfl) (ok_const rfl) (v := .lit (.bool false)) rfl) ?_
  refine AOps.nil ?_
  refine AWp.seq ?_
  refine AWp.regionJ [13, 0, 1, 2] [1] (fun z => ⟨(13, .lit (.bool z)) :: [(0, encT u), (1, .lptr 1 0), (2, .lit (.bool false))], [(1, [.lit (.int .i64 u.sig), .lit (.int .i64 u.pct), .lit (.int .i64 u.amt), .lit (.bool u.soft), .lit (.int .i64 u.gr)])], M⟩) (z := bif (decide (u.sig < 0)) then true else (decide (u.sig ≥ 3))) ?_ ?_
  · skip
    refine AOps.read trivial rfl (by decide) (Reader.fieldL rfl ⟨_, _, Tryd.underlying65, rfl, rfl, rfl, sizeOf_3⟩ (by decide) rfl) ?_
    refine AOps.read trivial rfl (by decide) (Reader.loadL rfl Tryd.underlying3 sizeOf_3 rfl rfl (v := .lit (.int .i64 u.sig)) rfl rfl) ?_
    refine AOps.read trivial rfl (by decide) (Reader.int rfl rfl rfl (r := .bool (decide (u.sig < 0))) rfl) ?_
    refine AOps.read trivial rfl (by decide) (Reader.move (.inl rfl) (ok_const rfl) (v := .lit (.bool (decide (u.sig < 0)))) rfl) ?_
    refine AOps.splitJ (t := 9) (b := decide (u.sig < 0)) (x := true) (y := (decide (u.sig ≥ 3))) rfl (fun h1 => ?_) (fun h1 => ?_)
    · skip
      have h1' : u.sig < 0 := (by have hh := of_decide_eq_true h1; omega)
      clear h1
      refine AOps.skip ⟨3, false, 9, _, rfl, rfl, rfl, by simp⟩ rfl (by decide) ?_
      refine AOps.skip ⟨3, false, 9, _, rfl, rfl, rfl, by simp⟩ rfl (by decide) ?_
      refine AOps.skip ⟨3, false, 9, _, rfl, rfl, rfl, by simp⟩ rfl (by decide) ?_
      refine AOps.read trivial rfl (by decide) (Reader.pick rfl (b := true) rfl (ok_const rfl) (ok_const rfl) (v := .lit (.bool true)) rfl) ?_
      exact AOps.nil rfl
    · skip
      have h1' : ¬ (u.sig < 0) := (by have hh := of_decide_eq_false h1; omega)
      clear h1
      refine AOps.read ⟨9, rfl, rfl⟩ rfl (by decide) (Reader.fieldL rfl ⟨_, _, Tryd.underlying65, rfl, rfl, rfl, sizeOf_3⟩ (by decide) rfl) ?_
      refine AOps.read ⟨9, rfl, rfl⟩ rfl (by decide) (Reader.loadL rfl Tryd.underlying3 sizeOf_3 rfl rfl (v := .lit (.int .i64 u.sig)) rfl rfl) ?_
      refine AOps.read ⟨9, rfl, rfl⟩ rfl (by decide) (Reader.int rfl rfl rfl (r := .bool (decide (u.sig ≥ 3))) rfl) ?_
      refine AOps.read trivial rfl (by decide) (Reader.pick rfl (b := false) rfl (ok_const rfl) (ok_const rfl) (v := .lit (.bool (decide (u.sig ≥ 3)))) rfl) ?_
      exact AOps.nil rfl
  refine AWp.cond (b := bif (decide (u.sig < 0)) then true else (decide (u.sig ≥ 3))) rfl (fun h2 => ?_) (fun h2 => ?_)
  · skip
    refine AWp.seq (AWp.region ?_)
    refine AOps.read trivial rfl (by decide) (Reader.move (.inr rfl) (ok_const rfl) (v := .lit (.bool false)) rfl) ?_
    refine AOps.nil ?_
    refine AWp.ret ?_
    exact ⟨.inl rfl, _, ResOf.one 2 (.lit (.bool false)) rfl rfl, ⟨congrArg (fun b => AV.lit (.bool b)) (by refine Bool.eq_iff_iff.2 (Iff.trans ?_ decide_eq_true_iff.symm); unfold RightT; rcases Bool.eq_false_or_eq_true u.soft with hs | hs <;> simp [hs, Bool.cond_eq_ite] at * <;> first | omega | (split <;> omega) | (simp only [zz_iff] at *; omega)), rfl⟩⟩
  · skip
    refine AWp.skip ?_
    refine AWp.regionJ [3, 13, 0, 1, 2] [1] (fun z => ⟨(3, .lit (.bool z)) :: [(13, .lit (.bool (bif (decide (u.sig < 0)) then true else (decide (u.sig ≥ 3))))), (0, encT u), (1, .lptr 1 0), (2, .lit (.bool false))], [(1, [.lit (.int .i64 u.sig), .lit (.int .i64 u.pct), .lit (.int .i64 u.amt), .lit (.bool u.soft), .lit (.int .i64 u.gr)])], M⟩) (z := bif (decide (u.pct ≥ 1)) then (bif (decide (u.pct ≤ 100)) then (u.amt == 0) else false) else false) ?_ ?_
    · skip
      refine AOps.read trivial rfl (by decide) (Reader.fieldL rfl ⟨_, _, Tryd.underlying65, rfl, rfl, rfl, sizeOf_3⟩ (by decide) rfl) ?_
      refine AOps.read trivial rfl (by decide) (Reader.loadL rfl Tryd.underlying3 sizeOf_3 rfl rfl (v := .lit (.int .i64 u.pct)) rfl rfl) ?_
      refine AOps.read trivial rfl (by decide) (Reader.int rfl rfl rfl (r := .bool (decide (u.pct ≥ 1))) rfl) ?_
      refine AOps.read trivial rfl (by decide) (Reader.move (.inl rfl) (ok_const rfl) (v := .lit (.bool (decide (u.pct ≥ 1)))) rfl) ?_
      refine AOps.splitJ (t := 17) (b := decide (u.pct ≥ 1)) (x := (bif (decide (u.pct ≤ 100)) then (u.amt == 0) else false)) (y := false) rfl (fun h3 => ?_) (fun h3 => ?_)
      · skip
        have h3' : u.pct ≥ 1 := (by have hh := of_decide_eq_true h3; omega)
        clear h3
        refine AOps.read ⟨17, rfl, rfl⟩ rfl (by decide) (Reader.fieldL rfl ⟨_, _, Tryd.underlying65, rfl, rfl, rfl, sizeOf_3⟩ (by decide) rfl) ?_
        refine AOps.read ⟨17, rfl, rfl⟩ rfl (by decide) (Reader.loadL rfl Tryd.underlying3 sizeOf_3 rfl rfl (v := .lit (.int .i64 u.pct)) rfl rfl) ?_
        refine AOps.read ⟨17, rfl, rfl⟩ rfl (by decide) (Reader.int rfl rfl rfl (r := .bool (decide (u.pct ≤ 100))) rfl) ?_
        refine AOps.read trivial rfl (by decide) (Reader.pick rfl (b := true) rfl (ok_const rfl) (ok_const rfl) (v := .lit (.bool (decide (u.pct ≤ 100)))) rfl) ?_
        refine AOps.read trivial rfl (by decide) (Reader.move (.inl rfl) (ok_const rfl) (v := .lit (.bool (decide (u.pct ≤ 100)))) rfl) ?_
        refine AOps.splitJ (t := 22) (b := decide (u.pct ≤ 100)) (x := (u.amt == 0)) (y := false) rfl (fun h4 => ?_) (fun h4 => ?_)
        · skip
          have h4' : u.pct ≤ 100 := (by have hh := of_decide_eq_true h4; omega)
          clear h4
          refine AOps.read ⟨22, rfl, rfl⟩ rfl (by decide) (Reader.fieldL rfl ⟨_, _, Tryd.underlying65, rfl, rfl, rfl, sizeOf_3⟩ (by decide) rfl) ?_
          refine AOps.read ⟨22, rfl, rfl⟩ rfl (by decide) (Reader.loadL rfl Tryd.underlying3 sizeOf_3 rfl rfl (v := .lit (.int .i64 u.amt)) rfl rfl) ?_
          refine AOps.read ⟨22, rfl, rfl⟩ rfl (by decide) (Reader.int rfl rfl rfl (r := .bool (u.amt == 0)) rfl) ?_
          refine AOps.read trivial rfl (by decide) (Reader.pick rfl (b := true) rfl (ok_const rfl) (ok_const rfl) (v := .lit (.bool (u.amt == 0))) rfl) ?_
          refine AOps.read trivial rfl (by decide) (Reader.move (.inr rfl) (ok_const rfl) (v := .lit (.bool (u.amt == 0))) rfl) ?_
          exact AOps.nil rfl
        · skip
          have h4' : ¬ (u.pct ≤ 100) := (by have hh := of_decide_eq_false h4; omega)
          clear h4
          refine AOps.skip ⟨8, true, 22, _, rfl, rfl, rfl, by simp⟩ rfl (by decide) ?_
          refine AOps.skip ⟨8, true, 22, _, rfl, rfl, rfl, by simp⟩ rfl (by decide) ?_
          refine AOps.skip ⟨8, true, 22, _, rfl, rfl, rfl, by simp⟩ rfl (by decide) ?_
          refine AOps.read trivial rfl (by decide) (Reader.pick rfl (b := false) rfl (ok_const rfl) (ok_const rfl) (v := .lit (.bool false)) rfl) ?_
          refine AOps.read trivial rfl (by decide) (Reader.move (.inr rfl) (ok_const rfl) (v := .lit (.bool false)) rfl) ?_
          exact AOps.nil rfl
      · skip
        have h3' : ¬ (u.pct ≥ 1) := (by have hh := of_decide_eq_false h3; omega)
        clear h3
        refine AOps.skip ⟨3, true, 17, _, rfl, rfl, rfl, by simp⟩ rfl (by decide) ?_
        refine AOps.skip ⟨3, true, 17, _, rfl, rfl, rfl, by simp⟩ rfl (by decide) ?_
        refine AOps.skip ⟨3, true, 17, _, rfl, rfl, rfl, by simp⟩ rfl (by decide) ?_
        refine AOps.read trivial rfl (by decide) (Reader.pick rfl (b := false) rfl (ok_const rfl) (ok_const rfl) (v := .lit (.bool false)) rfl) ?_
        refine AOps.read trivial rfl (by decide) (Reader.move (.inl rfl) (ok_const rfl) (v := .lit (.bool false)) rfl) ?_
        refine AOps.skip ⟨8, true, 22, _, rfl, rfl, rfl, by simp⟩ rfl (by decide) ?_
        refine AOps.skip ⟨8, true, 22, _, rfl, rfl, rfl, by simp⟩ rfl (by decide) ?_
        refine AOps.skip ⟨8, true, 22, _, rfl, rfl, rfl, by simp⟩ rfl (by decide) ?_
        refine AOps.read trivial rfl (by decide) (Reader.pick rfl (b := false) rfl (ok_const rfl) (ok_const rfl) (v := .lit (.bool false)) rfl) ?_
        refine AOps.read trivial rfl (by decide) (Reader.move (.inr rfl) (ok_const rfl) (v := .lit (.bool false)) rfl) ?_
        exact AOps.nil rfl
    refine AWp.regionJ [4, 3, 13, 0, 1, 2] [1] (fun z => ⟨(4, .lit (.bool z)) :: [(3, .lit (.bool (bif (decide (u.pct ≥ 1)) then (bif (decide (u.pct ≤ 100)) then (u.amt == 0) else false) else false))), (13, .lit (.bool (bif (decide (u.sig < 0)) then true else (decide (u.sig ≥ 3))))), (0, encT u), (1, .lptr 1 0), (2, .lit (.bool false))], [(1, [.lit (.int .i64 u.sig), .lit (.int .i64 u.pct), .lit (.int .i64 u.amt), .lit (.bool u.soft), .lit (.int .i64 u.gr)])], M⟩) (z := bif (u.pct == 0) then (decide (u.amt > 0)) else false) ?_ ?_
    · skip
      refine AOps.read trivial rfl (by decide) (Reader.fieldL rfl ⟨_, _, Tryd.underlying65, rfl, rfl, rfl, sizeOf_3⟩ (by decide) rfl) ?_
      refine AOps.read trivial rfl (by decide) (Reader.loadL rfl Tryd.underlying3 sizeOf_3 rfl rfl (v := .lit (.int .i64 u.pct)) rfl rfl) ?_
      refine AOps.read trivial rfl (by decide) (Reader.int rfl rfl rfl (r := .bool (u.pct == 0)) rfl) ?_
      refine AOps.read trivial rfl (by decide) (Reader.move (.inl rfl) (ok_const rfl) (v := .lit (.bool (u.pct == 0))) rfl) ?_
      refine AOps.splitJ (t := 30) (b := u.pct == 0) (x := (decide (u.amt > 0))) (y := false) rfl (fun h5 => ?_) (fun h5 => ?_)
      · skip
        have h5' : u.pct = 0 := (by have hh := eq_of_beq h5; omega)
        clear h5
        refine AOps.read ⟨30, rfl, rfl⟩ rfl (by decide) (Reader.fieldL rfl ⟨_, _, Tryd.underlying65, rfl, rfl, rfl, sizeOf_3⟩ (by decide) rfl) ?_
        refine AOps.read ⟨30, rfl, rfl⟩ rfl (by decide) (Reader.loadL rfl Tryd.underlying3 sizeOf_3 rfl rfl (v := .lit (.int .i64 u.amt)) rfl rfl) ?_
        refine AOps.read ⟨30, rfl, rfl⟩ rfl (by decide) (Reader.int rfl rfl rfl (r := .bool (decide (u.amt > 0))) rfl) ?_
        refine AOps.read trivial rfl (by decide) (Reader.pick rfl (b := true) rfl (ok_const rfl) (ok_const rfl) (v := .lit (.bool (decide (u.amt > 0)))) rfl) ?_
        refine AOps.read trivial rfl (by decide) (Reader.move (.inr rfl) (ok_const rfl) (v := .lit (.bool (decide (u.amt > 0)))) rfl) ?_
        exact AOps.nil rfl
      · skip
        have h5' : ¬ (u.pct = 0) := (by have hh := beq_eq_false_iff_ne.1 h5; omega)
        clear h5
        refine AOps.skip ⟨3, true, 30, _, rfl, rfl, rfl, by simp⟩ rfl (by decide) ?_
        refine AOps.skip ⟨3, true, 30, _, rfl, rfl, rfl, by simp⟩ rfl (by decide) ?_
        refine AOps.skip ⟨3, true, 30, _, rfl, rfl, rfl, by simp⟩ rfl (by decide) ?_
        refine AOps.read trivial rfl (by decide) (Reader.pick rfl (b := false) rfl (ok_const rfl) (ok_const rfl) (v := .lit (.bool false)) rfl) ?_
        refine AOps.read trivial rfl (by decide) (Reader.move (.inr rfl) (ok_const rfl) (v := .lit (.bool false)) rfl) ?_
        exact AOps.nil rfl
    refine AWp.regionJ [5, 4, 3, 13, 0, 1, 2] [1] (fun z => ⟨(5, .lit (.bool z)) :: [(4, .lit (.bool (bif (u.pct == 0) then (decide (u.amt > 0)) else false))), (3, .lit (.bool (bif (decide (u.pct ≥ 1)) then (bif (decide (u.pct ≤ 100)) then (u.amt == 0) else false) else false))), (13, .lit (.bool (bif (decide (u.sig < 0)) then true else (decide (u.sig ≥ 3))))), (0, encT u), (1, .lptr 1 0), (2, .lit (.bool false))], [(1, [.lit (.int .i64 u.sig), .lit (.int .i64 u.pct), .lit (.int .i64 u.amt), .lit (.bool u.soft), .lit (.int .i64 u.gr)])], M⟩) (z := bif u.soft then (bif (decide (u.gr ≥ 1)) then (bif (decide (u.gr ≤ 1000)) then true else (bif (!u.soft) then (u.gr == 0) else false)) else (bif (!u.soft) then (u.gr == 0) else false)) else (bif (!u.soft) then (u.gr == 0) else false)) ?_ ?_
    · skip
      refine AOps.read trivial rfl (by decide) (Reader.fieldL rfl ⟨_, _, Tryd.underlying65, rfl, rfl, rfl, sizeOf_4⟩ (by decide) rfl) ?_
      refine AOps.read trivial rfl (by decide) (Reader.loadL rfl Tryd.underlying4 sizeOf_4 rfl rfl (v := .lit (.bool u.soft)) rfl rfl) ?_
      refine AOps.read trivial rfl (by decide) (Reader.move (.inl rfl) (ok_const rfl) (v := .lit (.bool u.soft)) rfl) ?_
      refine AOps.splitJ (t := 37) (b := u.soft) (x := (bif (decide (u.gr ≥ 1)) then (bif (decide (u.gr ≤ 1000)) then true else (bif (!u.soft) then (u.gr == 0) else false)) else (bif (!u.soft) then (u.gr == 0) else false))) (y := (bif (!u.soft) then (u.gr == 0) else false)) rfl (fun h6 => ?_) (fun h6 => ?_)
      · skip
        refine AOps.read ⟨37, rfl, rfl⟩ rfl (by decide) (Reader.fieldL rfl ⟨_, _, Tryd.underlying65, rfl, rfl, rfl, sizeOf_3⟩ (by decide) rfl) ?_
        refine AOps.read ⟨37, rfl, rfl⟩ rfl (by decide) (Reader.loadL rfl Tryd.underlying3 sizeOf_3 rfl rfl (v := .lit (.int .i64 u.gr)) rfl rfl) ?_
        refine AOps.read ⟨37, rfl, rfl⟩ rfl (by decide) (Reader.int rfl rfl rfl (r := .bool (decide (u.gr ≥ 1))) rfl) ?_
        refine AOps.read trivial rfl (by decide) (Reader.pick rfl (b := true) rfl (ok_const rfl) (ok_const rfl) (v := .lit (.bool (decide (u.gr ≥ 1)))) rfl) ?_
        refine AOps.read trivial rfl (by decide) (Reader.move (.inl rfl) (ok_const rfl) (v := .lit (.bool (decide (u.gr ≥ 1)))) rfl) ?_
        refine AOps.splitJ (t := 42) (b := decide (u.gr ≥ 1)) (x := (bif (decide (u.gr ≤ 1000)) then true else (bif (!u.soft) then (u.gr == 0) else false))) (y := (bif (!u.soft) then (u.gr == 0) else false)) rfl (fun h7 => ?_) (fun h7 => ?_)
        · skip
          have h7' : u.gr ≥ 1 := (by have hh := of_decide_eq_true h7; omega)
          clear h7
          refine AOps.read ⟨42, rfl, rfl⟩ rfl (by decide) (Reader.fieldL rfl ⟨_, _, Tryd.underlying65, rfl, rfl, rfl, sizeOf_3⟩ (by decide) rfl) ?_
          refine AOps.read ⟨42, rfl, rfl⟩ rfl (by decide) (Reader.loadL rfl Tryd.underlying3 sizeOf_3 rfl rfl (v := .lit (.int .i64 u.gr)) rfl rfl) ?_
          refine AOps.read ⟨42, rfl, rfl⟩ rfl (by decide) (Reader.int rfl rfl rfl (r := .bool (decide (u.gr ≤ 1000))) rfl) ?_
          refine AOps.read trivial rfl (by decide) (Reader.pick rfl (b := true) rfl (ok_const rfl) (ok_const rfl) (v := .lit (.bool (decide (u.gr ≤ 1000)))) rfl) ?_
          refine AOps.read trivial rfl (by decide) (Reader.move (.inl rfl) (ok_const rfl) (v := .lit (.bool (decide (u.gr ≤ 1000)))) rfl) ?_
          refine AOps.splitJ (t := 47) (b := decide (u.gr ≤ 1000)) (x := true) (y := (bif (!u.soft) then (u.gr == 0) else false)) rfl (fun h8 => ?_) (fun h8 => ?_)
          · skip
            have h8' : u.gr ≤ 1000 := (by have hh := of_decide_eq_true h8; omega)
            clear h8
            refine AOps.skip ⟨12, false, 47, _, rfl, rfl, rfl, by simp⟩ rfl (by decide) ?_
            refine AOps.skip ⟨12, false, 47, _, rfl, rfl, rfl, by simp⟩ rfl (by decide) ?_
            refine AOps.skip ⟨12, false, 47, _, rfl, rfl, rfl, by simp⟩ rfl (by decide) ?_
            refine AOps.skip ⟨12, false, 47, _, rfl, rfl, rfl, by simp⟩ rfl (by decide) ?_
            refine AOps.skip ⟨16, true, 51, _, rfl, rfl, rfl, by simp [undef]⟩ rfl (by decide) ?_
            refine AOps.skip ⟨16, true, 51, _, rfl, rfl, rfl, by simp [undef]⟩ rfl (by decide) ?_
            refine AOps.skip ⟨16, true, 51, _, rfl, rfl, rfl, by simp [undef]⟩ rfl (by decide) ?_
            refine AOps.skip ⟨12, false, 47, _, rfl, rfl, rfl, by simp⟩ rfl (by decide) ?_
            refine AOps.read trivial rfl (by decide) (Reader.pick rfl (b := true) rfl (ok_const rfl) (ok_const rfl) (v := .lit (.bool true)) rfl) ?_
            refine AOps.read trivial rfl (by decide) (Reader.move (.inr rfl) (ok_const rfl) (v := .lit (.bool true)) rfl) ?_
            exact AOps.nil rfl
          · skip
            have h8' : ¬ (u.gr ≤ 1000) := (by have hh := of_decide_eq_false h8; omega)
            clear h8
            refine AOps.read ⟨47, rfl, rfl⟩ rfl (by decide) (Reader.fieldL rfl ⟨_, _, Tryd.underlying65, rfl, rfl, rfl, sizeOf_4⟩ (by decide) rfl) ?_
            refine AOps.read ⟨47, rfl, rfl⟩ rfl (by decide) (Reader.loadL rfl Tryd.underlying4 sizeOf_4 rfl rfl (v := .lit (.bool u.soft)) rfl rfl) ?_
            refine AOps.read ⟨47, rfl, rfl⟩ rfl (by decide) (Reader.not (b := u.soft) rfl rfl) ?_
            refine AOps.read ⟨47, rfl, rfl⟩ rfl (by decide) (Reader.move (.inl rfl) (ok_const rfl) (v := .lit (.bool (!u.soft))) rfl) ?_
            refine AOps.splitJ (t := 51) (b := !u.soft) (x := (u.gr == 0)) (y := false) rfl (fun h9 => ?_) (fun h9 => ?_)
            · skip
              refine AOps.read ⟨51, rfl, rfl⟩ rfl (by decide) (Reader.fieldL rfl ⟨_, _, Tryd.underlying65, rfl, rfl, rfl, sizeOf_3⟩ (by decide) rfl) ?_
              refine AOps.read ⟨51, rfl, rfl⟩ rfl (by decide) (Reader.loadL rfl Tryd.underlying3 sizeOf_3 rfl rfl (v := .lit (.int .i64 u.gr)) rfl rfl) ?_
              refine AOps.read ⟨51, rfl, rfl⟩ rfl (by decide) (Reader.int rfl rfl rfl (r := .bool (u.gr == 0)) rfl) ?_
              refine AOps.read ⟨47, rfl, rfl⟩ rfl (by decide) (Reader.pick rfl (b := true) rfl (ok_const rfl) (ok_const rfl) (v := .lit (.bool (u.gr == 0))) rfl) ?_
              refine AOps.read trivial rfl (by decide) (Reader.pick rfl (b := false) rfl (ok_const rfl) (ok_const rfl) (v := .lit (.bool (u.gr == 0))) rfl) ?_
              refine AOps.read trivial rfl (by decide) (Reader.move (.inr rfl) (ok_const rfl) (v := .lit (.bool (u.gr == 0))) rfl) ?_
              exact AOps.nil rfl
            · skip
              refine AOps.skip ⟨16, true, 51, _, rfl, rfl, rfl, by simp⟩ rfl (by decide) ?_
              refine AOps.skip ⟨16, true, 51, _, rfl, rfl, rfl, by simp⟩ rfl (by decide) ?_
              refine AOps.skip ⟨16, true, 51, _, rfl, rfl, rfl, by simp⟩ rfl (by decide) ?_
              refine AOps.read ⟨47, rfl, rfl⟩ rfl (by decide) (Reader.pick rfl (b := false) rfl (ok_const rfl) (ok_const rfl) (v := .lit (.bool false)) rfl) ?_
              refine AOps.read trivial rfl (by decide) (Reader.pick rfl (b := false) rfl (ok_const rfl) (ok_const rfl) (v := .lit (.bool false)) rfl) ?_
              refine AOps.read trivial rfl (by decide) (Reader.move (.inr rfl) (ok_const rfl) (v := .lit (.bool false)) rfl) ?_
              exact AOps.nil rfl
        · skip
          have h7' : ¬ (u.gr ≥ 1) := (by have hh := of_decide_eq_false h7; omega)
          clear h7
          refine AOps.skip ⟨7, true, 42, _, rfl, rfl, rfl, by simp⟩ rfl (by decide) ?_
          refine AOps.skip ⟨7, true, 42, _, rfl, rfl, rfl, by simp⟩ rfl (by decide) ?_
          refine AOps.skip ⟨7, true, 42, _, rfl, rfl, rfl, by simp⟩ rfl (by decide) ?_
          refine AOps.read trivial rfl (by decide) (Reader.pick rfl (b := false) rfl (ok_const rfl) (ok_const rfl) (v := .lit (.bool false)) rfl) ?_
          refine AOps.read trivial rfl (by decide) (Reader.move (.inl rfl) (ok_const rfl) (v := .lit (.bool false)) rfl) ?_
          refine AOps.read ⟨47, rfl, rfl⟩ rfl (by decide) (Reader.fieldL rfl ⟨_, _, Tryd.underlying65, rfl, rfl, rfl, sizeOf_4⟩ (by decide) rfl) ?_
          refine AOps.read ⟨47, rfl, rfl⟩ rfl (by decide) (Reader.loadL rfl Tryd.underlying4 sizeOf_4 rfl rfl (v := .lit (.bool u.soft)) rfl rfl) ?_
          refine AOps.read ⟨47, rfl, rfl⟩ rfl (by decide) (Reader.not (b := u.soft) rfl rfl) ?_
          refine AOps.read ⟨47, rfl, rfl⟩ rfl (by decide) (Reader.move (.inl rfl) (ok_const rfl) (v := .lit (.bool (!u.soft))) rfl) ?_
          refine AOps.splitJ (t := 51) (b := !u.soft) (x := (u.gr == 0)) (y := false) rfl (fun h10 => ?_) (fun h10 => ?_)
          · skip
            refine AOps.read ⟨51, rfl, rfl⟩ rfl (by decide) (Reader.fieldL rfl ⟨_, _, Tryd.underlying65, rfl, rfl, rfl, sizeOf_3⟩ (by decide) rfl) ?_
            refine AOps.read ⟨51, rfl, rfl⟩ rfl (by decide) (Reader.loadL rfl Tryd.underlying3 sizeOf_3 rfl rfl (v := .lit (.int .i64 u.gr)) rfl rfl) ?_
            refine AOps.read ⟨51, rfl, rfl⟩ rfl (by decide) (Reader.int rfl rfl rfl (r := .bool (u.gr == 0)) rfl) ?_
            refine AOps.read ⟨47, rfl, rfl⟩ rfl (by decide) (Reader.pick rfl (b := true) rfl (ok_const rfl) (ok_const rfl) (v := .lit (.bool (u.gr == 0))) rfl) ?_
            refine AOps.read trivial rfl (by decide) (Reader.pick rfl (b := false) rfl (ok_const rfl) (ok_const rfl) (v := .lit (.bool (u.gr == 0))) rfl) ?_
            refine AOps.read trivial rfl (by decide) (Reader.move (.inr rfl) (ok_const rfl) (v := .lit (.bool (u.gr == 0))) rfl) ?_
            exact AOps.nil rfl
          · skip
            refine AOps.skip ⟨16, true, 51, _, rfl, rfl, rfl, by simp⟩ rfl (by decide) ?_
            refine AOps.skip ⟨16, true, 51, _, rfl, rfl, rfl, by simp⟩ rfl (by decide) ?_
            refine AOps.skip ⟨16, true, 51, _, rfl, rfl, rfl, by simp⟩ rfl (by decide) ?_
            refine AOps.read ⟨47, rfl, rfl⟩ rfl (by decide) (Reader.pick rfl (b := false) rfl (ok_const rfl) (ok_const rfl) (v := .lit (.bool false)) rfl) ?_
            refine AOps.read trivial rfl (by decide) (Reader.pick rfl (b := false) rfl (ok_const rfl) (ok_const rfl) (v := .lit (.bool false)) rfl) ?_
            refine AOps.read trivial rfl (by decide) (Reader.move (.inr rfl) (ok_const rfl) (v := .lit (.bool false)) rfl) ?_
            exact AOps.nil rfl
      · skip
        refine AOps.skip ⟨2, true, 37, _, rfl, rfl, rfl, by simp⟩ rfl (by decide) ?_
        refine AOps.skip ⟨2, true, 37, _, rfl, rfl, rfl, by simp⟩ rfl (by decide) ?_
        refine AOps.skip ⟨2, true, 37, _, rfl, rfl, rfl, by simp⟩ rfl (by decide) ?_
        refine AOps.read trivial rfl (by decide) (Reader.pick rfl (b := false) rfl (ok_const rfl) (ok_const rfl) (v := .lit (.bool false)) rfl) ?_
        refine AOps.read trivial rfl (by decide) (Reader.move (.inl rfl) (ok_const rfl) (v := .lit (.bool false)) rfl) ?_
        refine AOps.skip ⟨7, true, 42, _, rfl, rfl, rfl, by simp⟩ rfl (by decide) ?_
        refine AOps.skip ⟨7, true, 42, _, rfl, rfl, rfl, by simp⟩ rfl (by decide) ?_
        refine AOps.skip ⟨7, true, 42, _, rfl, rfl, rfl, by simp⟩ rfl (by decide) ?_
        refine AOps.read trivial rfl (by decide) (Reader.pick rfl (b := false) rfl (ok_const rfl) (ok_const rfl) (v := .lit (.bool false)) rfl) ?_
        refine AOps.read trivial rfl (by decide) (Reader.move (.inl rfl) (ok_const rfl) (v := .lit (.bool false)) rfl) ?_
        refine AOps.read ⟨47, rfl, rfl⟩ rfl (by decide) (Reader.fieldL rfl ⟨_, _, Tryd.underlying65, rfl, rfl, rfl, sizeOf_4⟩ (by decide) rfl) ?_
        refine AOps.read ⟨47, rfl, rfl⟩ rfl (by decide) (Reader.loadL rfl Tryd.underlying4 sizeOf_4 rfl rfl (v := .lit (.bool u.soft)) rfl rfl) ?_
        refine AOps.read ⟨47, rfl, rfl⟩ rfl (by decide) (Reader.not (b := u.soft) rfl rfl) ?_
        refine AOps.read ⟨47, rfl, rfl⟩ rfl (by decide) (Reader.move (.inl rfl) (ok_const rfl) (v := .lit (.bool (!u.soft))) rfl) ?_
        refine AOps.splitJ (t := 51) (b := !u.soft) (x := (u.gr == 0)) (y := false) rfl (fun h11 => ?_) (fun h11 => ?_)
        · skip
          refine AOps.read ⟨51, rfl, rfl⟩ rfl (by decide) (Reader.fieldL rfl ⟨_, _, Tryd.underlying65, rfl, rfl, rfl, sizeOf_3⟩ (by decide) rfl) ?_
          refine AOps.read ⟨51, rfl, rfl⟩ rfl (by decide) (Reader.loadL rfl Tryd.underlying3 sizeOf_3 rfl rfl (v := .lit (.int .i64 u.gr)) rfl rfl) ?_
          refine AOps.read ⟨51, rfl, rfl⟩ rfl (by decide) (Reader.int rfl rfl rfl (r := .bool (u.gr == 0)) rfl) ?_
          refine AOps.read ⟨47, rfl, rfl⟩ rfl (by decide) (Reader.pick rfl (b := true) rfl (ok_const rfl) (ok_const rfl) (v := .lit (.bool (u.gr == 0))) rfl) ?_
          refine AOps.read trivial rfl (by decide) (Reader.pick rfl (b := false) rfl (ok_const rfl) (ok_const rfl) (v := .lit (.bool (u.gr == 0))) rfl) ?_
          refine AOps.read trivial rfl (by decide) (Reader.move (.inr rfl) (ok_const rfl) (v := .lit (.bool (u.gr == 0))) rfl) ?_
          exact AOps.nil rfl
        · skip
          refine AOps.skip ⟨16, true, 51, _, rfl, rfl, rfl, by simp⟩ rfl (by decide) ?_
          refine AOps.skip ⟨16, true, 51, _, rfl, rfl, rfl, by simp⟩ rfl (by decide) ?_
          refine AOps.skip ⟨16, true, 51, _, rfl, rfl, rfl, by simp⟩ rfl (by decide) ?_
          refine AOps.read ⟨47, rfl, rfl⟩ rfl (by decide) (Reader.pick rfl (b := false) rfl (ok_const rfl) (ok_const rfl) (v := .lit (.bool false)) rfl) ?_
          refine AOps.read trivial rfl (by decide) (Reader.pick rfl (b := false) rfl (ok_const rfl) (ok_const rfl) (v := .lit (.bool false)) rfl) ?_
          refine AOps.read trivial rfl (by decide) (Reader.move (.inr rfl) (ok_const rfl) (v := .lit (.bool false)) rfl) ?_
          exact AOps.nil rfl
    refine AWp.regionJ [2, 5, 4, 3, 13, 0, 1] [1] (fun z => ⟨(2, .lit (.bool z)) :: [(5, .lit (.bool (bif u.soft then (bif (decide (u.gr ≥ 1)) then (bif (decide (u.gr ≤ 1000)) then true else (bif (!u.soft) then (u.gr == 0) else false)) else (bif (!u.soft) then (u.gr == 0) else false)) else (bif (!u.soft) then (u.gr == 0) else false)))), (4, .lit (.bool (bif (u.pct == 0) then (decide (u.amt > 0)) else false))), (3, .lit (.bool (bif (decide (u.pct ≥ 1)) then (bif (decide (u.pct ≤ 100)) then (u.amt == 0) else false) else false))), (13, .lit (.bool (bif (decide (u.sig < 0)) then true else (decide (u.sig ≥ 3))))), (0, encT u), (1, .lptr 1 0)], [(1, [.lit (.int .i64 u.sig), .lit (.int .i64 u.pct), .lit (.int .i64 u.amt), .lit (.bool u.soft), .lit (.int .i64 u.gr)])], M⟩) (z := bif (bif (decide (u.pct ≥ 1)) then (bif (decide (u.pct ≤ 100)) then (u.amt == 0) else false) else false) then (bif u.soft then (bif (decide (u.gr ≥ 1)) then (bif (decide (u.gr ≤ 1000)) then true else (bif (!u.soft) then (u.gr == 0) else false)) else (bif (!u.soft) then (u.gr == 0) else false)) else (bif (!u.soft) then (u.gr == 0) else false)) else (bif (bif (u.pct == 0) then (decide (u.amt > 0)) else false) then (bif u.soft then (bif (decide (u.gr ≥ 1)) then (bif (decide (u.gr ≤ 1000)) then true else (bif (!u.soft) then (u.gr == 0) else false)) else (bif (!u.soft) then (u.gr == 0) else false)) else (bif (!u.soft) then (u.gr == 0) else false)) else false)) ?_ ?_
    · skip
      refine AOps.read trivial rfl (by decide) (Reader.move (.inl rfl) (ok_const rfl) (v := .lit (.bool (bif (decide (u.pct ≥ 1)) then (bif (decide (u.pct ≤ 100)) then (u.amt == 0) else false) else false))) rfl) ?_
      refine AOps.read trivial rfl (by decide) (Reader.move (.inl rfl) (ok_const rfl) (v := .lit (.bool (bif (decide (u.pct ≥ 1)) then (bif (decide (u.pct ≤ 100)) then (u.amt == 0) else false) else false))) rfl) ?_
      refine AOps.splitJ (t := 58) (b := bif (decide (u.pct ≥ 1)) then (bif (decide (u.pct ≤ 100)) then (u.amt == 0) else false) else false) (x := (bif u.soft then (bif (decide (u.gr ≥ 1)) then (bif (decide (u.gr ≤ 1000)) then true else (bif (!u.soft) then (u.gr == 0) else false)) else (bif (!u.soft) then (u.gr == 0) else false)) else (bif (!u.soft) then (u.gr == 0) else false))) (y := (bif (bif (u.pct == 0) then (decide (u.amt > 0)) else false) then (bif u.soft then (bif (decide (u.gr ≥ 1)) then (bif (decide (u.gr ≤ 1000)) then true else (bif (!u.soft) then (u.gr == 0) else false)) else (bif (!u.soft) then (u.gr == 0) else false)) else (bif (!u.soft) then (u.gr == 0) else false)) else false)) rfl (fun h12 => ?_) (fun h12 => ?_)
      · skip
        refine AOps.skip ⟨1, false, 58, _, rfl, rfl, rfl, by simp⟩ rfl (by decide) ?_
        refine AOps.read trivial rfl (by decide) (Reader.pick rfl (b := true) rfl (ok_const rfl) (ok_const rfl) (v := .lit (.bool true)) rfl) ?_
        refine AOps.read trivial rfl (by decide) (Reader.move (.inl rfl) (ok_const rfl) (v := .lit (.bool true)) rfl) ?_
        refine AOps.read ⟨61, rfl, rfl⟩ rfl (by decide) (Reader.move (.inl rfl) (ok_const rfl) (v := .lit (.bool (bif u.soft then (bif (decide (u.gr ≥ 1)) then (bif (decide (u.gr ≤ 1000)) then true else (bif (!u.soft) then (u.gr == 0) else false)) else (bif (!u.soft) then (u.gr == 0) else false)) else (bif (!u.soft) then (u.gr == 0) else false)))) rfl) ?_
        refine AOps.read trivial rfl (by decide) (Reader.pick rfl (b := true) rfl (ok_const rfl) (ok_const rfl) (v := .lit (.bool (bif u.soft then (bif (decide (u.gr ≥ 1)) then (bif (decide (u.gr ≤ 1000)) then true else (bif (!u.soft) then (u.gr == 0) else false)) else (bif (!u.soft) then (u.gr == 0) else false)) else (bif (!u.soft) then (u.gr == 0) else false)))) rfl) ?_
        refine AOps.read trivial rfl (by decide) (Reader.move (.inr rfl) (ok_const rfl) (v := .lit (.bool (bif u.soft then (bif (decide (u.gr ≥ 1)) then (bif (decide (u.gr ≤ 1000)) then true else (bif (!u.soft) then (u.gr == 0) else false)) else (bif (!u.soft) then (u.gr == 0) else false)) else (bif (!u.soft) then (u.gr == 0) else false)))) rfl) ?_
        exact AOps.nil rfl
      · skip
        refine AOps.read ⟨58, rfl, rfl⟩ rfl (by decide) (Reader.move (.inl rfl) (ok_const rfl) (v := .lit (.bool (bif (u.pct == 0) then (decide (u.amt > 0)) else false))) rfl) ?_
        refine AOps.read trivial rfl (by decide) (Reader.pick rfl (b := false) rfl (ok_const rfl) (ok_const rfl) (v := .lit (.bool (bif (u.pct == 0) then (decide (u.amt > 0)) else false))) rfl) ?_
        refine AOps.read trivial rfl (by decide) (Reader.move (.inl rfl) (ok_const rfl) (v := .lit (.bool (bif (u.pct == 0) then (decide (u.amt > 0)) else false))) rfl) ?_
        refine AOps.splitJ (t := 61) (b := bif (u.pct == 0) then (decide (u.amt > 0)) else false) (x := (bif u.soft then (bif (decide (u.gr ≥ 1)) then (bif (decide (u.gr ≤ 1000)) then true else (bif (!u.soft) then (u.gr == 0) else false)) else (bif (!u.soft) then (u.gr == 0) else false)) else (bif (!u.soft) then (u.gr == 0) else false))) (y := false) rfl (fun h13 => ?_) (fun h13 => ?_)
        · skip
          refine AOps.read ⟨61, rfl, rfl⟩ rfl (by decide) (Reader.move (.inl rfl) (ok_const rfl) (v := .lit (.bool (bif u.soft then (bif (decide (u.gr ≥ 1)) then (bif (decide (u.gr ≤ 1000)) then true else (bif (!u.soft) then (u.gr == 0) else false)) else (bif (!u.soft) then (u.gr == 0) else false)) else (bif (!u.soft) then (u.gr == 0) else false)))) rfl) ?_
          refine AOps.read trivial rfl (by decide) (Reader.pick rfl (b := true) rfl (ok_const rfl) (ok_const rfl) (v := .lit (.bool (bif u.soft then (bif (decide (u.gr ≥ 1)) then (bif (decide (u.gr ≤ 1000)) then true else (bif (!u.soft) then (u.gr == 0) else false)) else (bif (!u.soft) then (u.gr == 0) else false)) else (bif (!u.soft) then (u.gr == 0) else false)))) rfl) ?_
          refine AOps.read trivial rfl (by decide) (Reader.move (.inr rfl) (ok_const rfl) (v := .lit (.bool (bif u.soft then (bif (decide (u.gr ≥ 1)) then (bif (decide (u.gr ≤ 1000)) then true else (bif (!u.soft) then (u.gr == 0) else false)) else (bif (!u.soft) then (u.gr == 0) else false)) else (bif (!u.soft) then (u.gr == 0) else false)))) rfl) ?_
          exact AOps.nil rfl
        · skip
          refine AOps.skip ⟨4, true, 61, _, rfl, rfl, rfl, by simp⟩ rfl (by decide) ?_
          refine AOps.read trivial rfl (by decide) (Reader.pick rfl (b := false) rfl (ok_const rfl) (ok_const rfl) (v := .lit (.bool false)) rfl) ?_
          refine AOps.read trivial rfl (by decide) (Reader.move (.inr rfl) (ok_const rfl) (v := .lit (.bool false)) rfl) ?_
          exact AOps.nil rfl
    refine AWp.ret ?_
    exact ⟨.inl rfl, _, ResOf.one 2 (.lit (.bool (bif (bif (decide (u.pct ≥ 1)) then (bif (decide (u.pct ≤ 100)) then (u.amt == 0) else false) else false) then (bif u.soft then (bif (decide (u.gr ≥ 1)) then (bif (decide (u.gr ≤ 1000)) then true else (bif (!u.soft) then (u.gr == 0) else false)) else (bif (!u.soft) then (u.gr == 0) else false)) else (bif (!u.soft) then (u.gr == 0) else false)) else (bif (bif (u.pct == 0) then (decide (u.amt > 0)) else false) then (bif u.soft then (bif (decide (u.gr ≥ 1)) then (bif (decide (u.gr ≤ 1000)) then true else (bif (!u.soft) then (u.gr == 0) else false)) else (bif (!u.soft) then (u.gr == 0) else false)) else (bif (!u.soft) then (u.gr == 0) else false)) else false)))) rfl rfl, ⟨congrArg (fun b => AV.lit (.bool b)) (by refine Bool.eq_iff_iff.2 (Iff.trans ?_ decide_eq_true_iff.symm); unfold RightT; rcases Bool.eq_false_or_eq_true u.soft with hs | hs <;> simp [hs, Bool.cond_eq_ite] at * <;> first | omega | (split <;> omega) | (simp only [zz_iff] at *; omega)), rfl⟩⟩

set_option maxRecDepth 20000 in
theorem rRight_any (u : Thr) (M : Nat → Option (List AV)) : ACall Tryd.prog 37 [encT u] M (fun r M' => r = .lit (.bool (decide (RightT u))) ∧ M = M') := by
  refine ACall.of Tryd.func37 rfl (n := 46) rfl rfl rfl ?_
  refine AWp.seq (AWp.region ?_)
  refine AOps.box trivial rfl (by decide) rfl (noL rfl) rfl (v := encT u) (.inl ⟨rfl, rfl⟩) rfl rfl (all_flat rfl) ?_
  refine AOps.read trivial rfl (by decide) (Reader.move (.inr rfl) (ok_const rfl) (v := .lit (.bool false)) rfl) ?_
  refine AOps.nil ?_
  refine AWp.seq ?_
  refine AWp.regionJ [25, 0, 1, 2] [1] (fun z => ⟨(25, .lit (.bool z)) :: [(0, encT u), (1, .lptr 1 0), (2, .lit (.bool false))], [(1, [.lit (.int .i64 u.sig), .lit (.int .i64 u.pct), .lit (.int .i64 u.amt), .lit (.bool u.soft), .lit (.int .i64 u.gr)])], M⟩) (z := bif (decide (u.sig < 0)) then true else (bif (decide (u.sig > 2)) then true else (bif (decide (u.pct < 0)) then true else (bif (decide (u.pct > 100)) then true else (decide (u.amt < 0)))))) ?_ ?_
  · skip
    refine AOps.read trivial rfl (by decide) (Reader.fieldL rfl ⟨_, _, Tryd.underlying65, rfl, rfl, rfl, sizeOf_3⟩ (by decide) rfl) ?_
    refine AOps.read trivial rfl (by decide) (Reader.loadL rfl Tryd.underlying3 sizeOf_3 rfl rfl (v := .lit (.int .i64 u.sig)) rfl rfl) ?_
    refine AOps.read trivial rfl (by decide) (Reader.int rfl rfl rfl (r := .bool (decide (u.sig < 0))) rfl) ?_
    refine AOps.read trivial rfl (by decide) (Reader.move (.inl rfl) (ok_const rfl) (v := .lit (.bool (decide (u.sig < 0)))) rfl) ?_
    refine AOps.splitJ (t := 6) (b := decide (u.sig < 0)) (x := true) (y := (bif (decide (u.sig > 2)) then true else (bif (decide (u.pct < 0)) then true else (bif (decide (u.pct > 100)) then true else (decide (u.amt < 0)))))) rfl (fun h1 => ?_) (fun h1 => ?_)
    · skip
      have h1' : u.sig < 0 := (by have hh := of_decide_eq_true h1; omega)
      clear h1
      refine AOps.skip ⟨3, false, 6, _, rfl, rfl, rfl, by simp⟩ rfl (by decide) ?_
      refine AOps.skip ⟨3, false, 6, _, rfl, rfl, rfl, by simp⟩ rfl (by decide) ?_
      refine AOps.skip ⟨3, false, 6, _, rfl, rfl, rfl, by simp⟩ rfl (by decide) ?_
      refine AOps.read trivial rfl (by decide) (Reader.pick rfl (b := true) rfl (ok_const rfl) (ok_const rfl) (v := .lit (.bool true)) rfl) ?_
      refine AOps.read trivial rfl (by decide) (Reader.move (.inl rfl) (ok_const rfl) (v := .lit (.bool true)) rfl) ?_
      refine AOps.skip ⟨8, false, 11, _, rfl, rfl, rfl, by simp⟩ rfl (by decide) ?_
      refine AOps.skip ⟨8, false, 11, _, rfl, rfl, rfl, by simp⟩ rfl (by decide) ?_
      refine AOps.skip ⟨8, false, 11, _, rfl, rfl, rfl, by simp⟩ rfl (by decide) ?_
      refine AOps.read trivial rfl (by decide) (Reader.pick rfl (b := true) rfl (ok_const rfl) (ok_const rfl) (v := .lit (.bool true)) rfl) ?_
      refine AOps.read trivial rfl (by decide) (Reader.move (.inl rfl) (ok_const rfl) (v := .lit (.bool true)) rfl) ?_
      refine AOps.skip ⟨13, false, 16, _, rfl, rfl, rfl, by simp⟩ rfl (by decide) ?_
      refine AOps.skip ⟨13, false, 16, _, rfl, rfl, rfl, by simp⟩ rfl (by decide) ?_
      refine AOps.skip ⟨13, false, 16, _, rfl, rfl, rfl, by simp⟩ rfl (by decide) ?_
      refine AOps.read trivial rfl (by decide) (Reader.pick rfl (b := true) rfl (ok_const rfl) (ok_const rfl) (v := .lit (.bool true)) rfl) ?_
      refine AOps.read trivial rfl (by decide) (Reader.move (.inl rfl) (ok_const rfl) (v := .lit (.bool true)) rfl) ?_
      refine AOps.skip ⟨18, false, 21, _, rfl, rfl, rfl, by simp⟩ rfl (by decide) ?_
      refine AOps.skip ⟨18, false, 21, _, rfl, rfl, rfl, by simp⟩ rfl (by decide) ?_
      refine AOps.skip ⟨18, false, 21, _, rfl, rfl, rfl, by simp⟩ rfl (by decide) ?_
      refine AOps.read trivial rfl (by decide) (Reader.pick rfl (b := true) rfl (ok_const rfl) (ok_const rfl) (v := .lit (.bool true)) rfl) ?_
      exact AOps.nil rfl
    · skip
      have h1' : ¬ (u.sig < 0) := (by have hh := of_decide_eq_false h1; omega)
      clear h1
      refine AOps.read ⟨6, rfl, rfl⟩ rfl (by decide) (Reader.fieldL rfl ⟨_, _, Tryd.underlying65, rfl, rfl, rfl, sizeOf_3⟩ (by decide) rfl) ?_
      refine AOps.read ⟨6, rfl, rfl⟩ rfl (by decide) (Reader.loadL rfl Tryd.underlying3 sizeOf_3 rfl rfl (v := .lit (.int .i64 u.sig)) rfl rfl) ?_
      refine AOps.read ⟨6, rfl, rfl⟩ rfl (by decide) (Reader.int rfl rfl rfl (r := .bool (decide (u.sig > 2))) rfl) ?_
      refine AOps.read trivial rfl (by decide) (Reader.pick rfl (b := false) rfl (ok_const rfl) (ok_const rfl) (v := .lit (.bool (decide (u.sig > 2)))) rfl) ?_
      refine AOps.read trivial rfl (by decide) (Reader.move (.inl rfl) (ok_const rfl) (v := .lit (.bool (decide (u.sig > 2)))) rfl) ?_
      refine AOps.splitJ (t := 11) (b := decide (u.sig > 2)) (x := true) (y := (bif (decide (u.pct < 0)) then true else (bif (decide (u.pct > 100)) then true else (decide (u.amt < 0))))) rfl (fun h2 => ?_) (fun h2 => ?_)
      · skip
        have h2' : u.sig > 2 := (by have hh := of_decide_eq_true h2; omega)
        clear h2
        refine AOps.skip ⟨8, false, 11, _, rfl, rfl, rfl, by simp⟩ rfl (by decide) ?_
        refine AOps.skip ⟨8, false, 11, _, rfl, rfl, rfl, by simp⟩ rfl (by decide) ?_
        refine AOps.skip ⟨8, false, 11, _, rfl, rfl, rfl, by simp⟩ rfl (by decide) ?_
        refine AOps.read trivial rfl (by decide) (Reader.pick rfl (b := true) rfl (ok_const rfl) (ok_const rfl) (v := .lit (.bool true)) rfl) ?_
        refine AOps.read trivial rfl (by decide) (Reader.move (.inl rfl) (ok_const rfl) (v := .lit (.bool true)) rfl) ?_
        refine AOps.skip ⟨13, false, 16, _, rfl, rfl, rfl, by simp⟩ rfl (by decide) ?_
        refine AOps.skip ⟨13, false, 16, _, rfl, rfl, rfl, by simp⟩ rfl (by decide) ?_
        refine AOps.skip ⟨13, false, 16, _, rfl, rfl, rfl, by simp⟩ rfl (by decide) ?_
        refine AOps.read trivial rfl (by decide) (Reader.pick rfl (b := true) rfl (ok_const rfl) (ok_const rfl) (v := .lit (.bool true)) rfl) ?_
        refine AOps.read trivial rfl (by decide) (Reader.move (.inl rfl) (ok_const rfl) (v := .lit (.bool true)) rfl) ?_
        refine AOps.skip ⟨18, false, 21, _, rfl, rfl, rfl, by simp⟩ rfl (by decide) ?_
        refine AOps.skip ⟨18, false, 21, _, rfl, rfl, rfl, by simp⟩ rfl (by decide) ?_
        refine AOps.skip ⟨18, false, 21, _, rfl, rfl, rfl, by simp⟩ rfl (by decide) ?_
        refine AOps.read trivial rfl (by decide) (Reader.pick rfl (b := true) rfl (ok_const rfl) (ok_const rfl) (v := .lit (.bool true)) rfl) ?_
        exact AOps.nil rfl
      · skip
        have h2' : ¬ (u.sig > 2) := (by have hh := of_decide_eq_false h2; omega)
        clear h2
        refine AOps.read ⟨11, rfl, rfl⟩ rfl (by decide) (Reader.fieldL rfl ⟨_, _, Tryd.underlying65, rfl, rfl, rfl, sizeOf_3⟩ (by decide) rfl) ?_
        refine AOps.read ⟨11, rfl, rfl⟩ rfl (by decide) (Reader.loadL rfl Tryd.underlying3 sizeOf_3 rfl rfl (v := .lit (.int .i64 u.pct)) rfl rfl) ?_
        refine AOps.read ⟨11, rfl, rfl⟩ rfl (by decide) (Reader.int rfl rfl rfl (r := .bool (decide (u.pct < 0))) rfl) ?_
        refine AOps.read trivial rfl (by decide) (Reader.pick rfl (b := false) rfl (ok_const rfl) (ok_const rfl) (v := .lit (.bool (decide (u.pct < 0)))) rfl) ?_
        refine AOps.read trivial rfl (by decide) (Reader.move (.inl rfl) (ok_const rfl) (v := .lit (.bool (decide (u.pct < 0)))) rfl) ?_
        refine AOps.splitJ (t := 16) (b := decide (u.pct < 0)) (x := true) (y := (bif (decide (u.pct > 100)) then true else (decide (u.amt < 0)))) rfl (fun h3 => ?_) (fun h3 => ?_)
        · skip
          have h3' : u.pct < 0 := (by have hh := of_decide_eq_true h3; omega)
          clear h3
          refine AOps.skip ⟨13, false, 16, _, rfl, rfl, rfl, by simp⟩ rfl (by decide) ?_
          refine AOps.skip ⟨13, false, 16, _, rfl, rfl, rfl, by simp⟩ rfl (by decide) ?_
          refine AOps.skip ⟨13, false, 16, _, rfl, rfl, rfl, by simp⟩ rfl (by decide) ?_
          refine AOps.read trivial rfl (by decide) (Reader.pick rfl (b := true) rfl (ok_const rfl) (ok_const rfl) (v := .lit (.bool true)) rfl) ?_
          refine AOps.read trivial rfl (by decide) (Reader.move (.inl rfl) (ok_const rfl) (v := .lit (.bool true)) rfl) ?_
          refine AOps.skip ⟨18, false, 21, _, rfl, rfl, rfl, by simp⟩ rfl (by decide) ?_
          refine AOps.skip ⟨18, false, 21, _, rfl, rfl, rfl, by simp⟩ rfl (by decide) ?_
          refine AOps.skip ⟨18, false, 21, _, rfl, rfl, rfl, by simp⟩ rfl (by decide) ?_
          refine AOps.read trivial rfl (by decide) (Reader.pick rfl (b := true) rfl (ok_const rfl) (ok_const rfl) (v := .lit (.bool true)) rfl) ?_
          exact AOps.nil rfl
        · skip
          have h3' : ¬ (u.pct < 0) := (by have hh := of_decide_eq_false h3; omega)
          clear h3
          refine AOps.read ⟨16, rfl, rfl⟩ rfl (by decide) (Reader.fieldL rfl ⟨_, _, Tryd.underlying65, rfl, rfl, rfl, sizeOf_3⟩ (by decide) rfl) ?_
          refine AOps.read ⟨16, rfl, rfl⟩ rfl (by decide) (Reader.loadL rfl Tryd.underlying3 sizeOf_3 rfl rfl (v := .lit (.int .i64 u.pct)) rfl rfl) ?_
          refine AOps.read ⟨16, rfl, rfl⟩ rfl (by decide) (Reader.int rfl rfl rfl (r := .bool (decide (u.pct > 100))) rfl) ?_
          refine AOps.read trivial rfl (by decide) (Reader.pick rfl (b := false) rfl (ok_const rfl) (ok_const rfl) (v := .lit (.bool (decide (u.pct > 100)))) rfl) ?_
          refine AOps.read trivial rfl (by decide) (Reader.move (.inl rfl) (ok_const rfl) (v := .lit (.bool (decide (u.pct > 100)))) rfl) ?_
          refine AOps.splitJ (t := 21) (b := decide (u.pct > 100)) (x := true) (y := (decide (u.amt < 0))) rfl (fun h4 => ?_) (fun h4 => ?_)
          · skip
            have h4' : u.pct > 100 := (by have hh := of_decide_eq_true h4; omega)
            clear h4
            refine AOps.skip ⟨18, false, 21, _, rfl, rfl, rfl, by simp⟩ rfl (by decide) ?_
            refine AOps.skip ⟨18, false, 21, _, rfl, rfl, rfl, by simp⟩ rfl (by decide) ?_
            refine AOps.skip ⟨18, false, 21, _, rfl, rfl, rfl, by simp⟩ rfl (by decide) ?_
            refine AOps.read trivial rfl (by decide) (Reader.pick rfl (b := true) rfl (ok_const rfl) (ok_const rfl) (v := .lit (.bool true)) rfl) ?_
            exact AOps.nil rfl
          · skip
            have h4' : ¬ (u.pct > 100) := (by have hh := of_decide_eq_false h4; omega)
            clear h4
            refine AOps.read ⟨21, rfl, rfl⟩ rfl (by decide) (Reader.fieldL rfl ⟨_, _, Tryd.underlying65, rfl, rfl, rfl, sizeOf_3⟩ (by decide) rfl) ?_
            refine AOps.read ⟨21, rfl, rfl⟩ rfl (by decide) (Reader.loadL rfl Tryd.underlying3 sizeOf_3 rfl rfl (v := .lit (.int .i64 u.amt)) rfl rfl) ?_
            refine AOps.read ⟨21, rfl, rfl⟩ rfl (by decide) (Reader.int rfl rfl rfl (r := .bool (decide (u.amt < 0))) rfl) ?_
            refine AOps.read trivial rfl (by decide) (Reader.pick rfl (b := false) rfl (ok_const rfl) (ok_const rfl) (v := .lit (.bool (decide (u.amt < 0)))) rfl) ?_
            exact AOps.nil rfl
  refine AWp.cond (b := bif (decide (u.sig < 0)) then true else (bif (decide (u.sig > 2)) then true else (bif (decide (u.pct < 0)) then true else (bif (decide (u.pct > 100)) then true else (decide (u.amt < 0)))))) rfl (fun h5 => ?_) (fun h5 => ?_)
  · skip
    refine AWp.seq (AWp.region ?_)
    refine AOps.read trivial rfl (by decide) (Reader.move (.inr rfl) (ok_const rfl) (v := .lit (.bool false)) rfl) ?_
    refine AOps.nil ?_
    refine AWp.ret ?_
    exact ⟨.inl rfl, _, ResOf.one 2 (.lit (.bool false)) rfl rfl, ⟨congrArg (fun b => AV.lit (.bool b)) (by refine Bool.eq_iff_iff.2 (Iff.trans ?_ decide_eq_true_iff.symm); unfold RightT; rcases Bool.eq_false_or_eq_true u.soft with hs | hs <;> simp [hs, Bool.cond_eq_ite] at * <;> first | omega | (split <;> omega) | (simp only [zz_iff] at *; omega)), rfl⟩⟩
  · skip
    refine AWp.skip ?_
    refine AWp.seq ?_
    refine AWp.seq (AWp.region ?_)
    refine AOps.read trivial rfl (by decide) (Reader.fieldL rfl ⟨_, _, Tryd.underlying65, rfl, rfl, rfl, sizeOf_3⟩ (by decide) rfl) ?_
    refine AOps.read trivial rfl (by decide) (Reader.loadL rfl Tryd.underlying3 sizeOf_3 rfl rfl (v := .lit (.int .i64 u.pct)) rfl rfl) ?_
    refine AOps.read trivial rfl (by decide) (Reader.int rfl rfl rfl (r := .bool (u.pct == 0)) rfl) ?_
    refine AOps.read trivial rfl (by decide) (Reader.fieldL rfl ⟨_, _, Tryd.underlying65, rfl, rfl, rfl, sizeOf_3⟩ (by decide) rfl) ?_
    refine AOps.read trivial rfl (by decide) (Reader.loadL rfl Tryd.underlying3 sizeOf_3 rfl rfl (v := .lit (.int .i64 u.amt)) rfl rfl) ?_
    refine AOps.read trivial rfl (by decide) (Reader.int rfl rfl rfl (r := .bool (u.amt == 0)) rfl) ?_
    refine AOps.read trivial rfl (by decide) (Reader.bools (r := (u.pct == 0) == (u.amt == 0)) rfl Tryd.underlying4 rfl rfl (.inl ⟨rfl, rfl⟩)) ?_
    refine AOps.nil ?_
    refine AWp.cond (b := (u.pct == 0) == (u.amt == 0)) rfl (fun h6 => ?_) (fun h6 => ?_)
    · skip
      refine AWp.seq (AWp.region ?_)
      refine AOps.read trivial rfl (by decide) (Reader.move (.inr rfl) (ok_const rfl) (v := .lit (.bool false)) rfl) ?_
      refine AOps.nil ?_
      refine AWp.ret ?_
      exact ⟨.inl rfl, _, ResOf.one 2 (.lit (.bool false)) rfl rfl, ⟨congrArg (fun b => AV.lit (.bool b)) (by refine Bool.eq_iff_iff.2 (Iff.trans ?_ decide_eq_true_iff.symm); unfold RightT; rcases Bool.eq_false_or_eq_true u.soft with hs | hs <;> simp [hs, Bool.cond_eq_ite] at * <;> first | omega | (split <;> omega) | (simp only [zz_iff] at *; omega)), rfl⟩⟩
    · skip
      refine AWp.skip ?_
      refine AWp.seq ?_
      refine AWp.seq (AWp.region ?_)
      refine AOps.read trivial rfl (by decide) (Reader.fieldL rfl ⟨_, _, Tryd.underlying65, rfl, rfl, rfl, sizeOf_4⟩ (by decide) rfl) ?_
      refine AOps.read trivial rfl (by decide) (Reader.loadL rfl Tryd.underlying4 sizeOf_4 rfl rfl (v := .lit (.bool u.soft)) rfl rfl) ?_
      refine AOps.nil ?_
      refine AWp.cond (b := u.soft) rfl (fun h7 => ?_) (fun h7 => ?_)
      · skip
        refine AWp.regionJ [2, 25, 0, 1, 32, 34] [1] (fun z => ⟨(2, .lit (.bool z)) :: [(25, .lit (.bool (bif (decide (u.sig < 0)) then true else (bif (decide (u.sig > 2)) then true else (bif (decide (u.pct < 0)) then true else (bif (decide (u.pct > 100)) then true else (decide (u.amt < 0)))))))), (0, encT u), (1, .lptr 1 0), (32, .lit (.bool ((u.pct == 0) == (u.amt == 0)))), (34, .lit (.bool u.soft))], [(1, [.lit (.int .i64 u.sig), .lit (.int .i64 u.pct), .lit (.int .i64 u.amt), .lit (.bool u.soft), .lit (.int .i64 u.gr)])], M⟩) (z := bif (decide (u.gr ≥ 1)) then (decide (u.gr ≤ 1000)) else false) ?_ ?_
        · skip
          refine AOps.read trivial rfl (by decide) (Reader.fieldL rfl ⟨_, _, Tryd.underlying65, rfl, rfl, rfl, sizeOf_3⟩ (by decide) rfl) ?_
          refine AOps.read trivial rfl (by decide) (Reader.loadL rfl Tryd.underlying3 sizeOf_3 rfl rfl (v := .lit (.int .i64 u.gr)) rfl rfl) ?_
          refine AOps.read trivial rfl (by decide) (Reader.int rfl rfl rfl (r := .bool (decide (u.gr ≥ 1))) rfl) ?_
          refine AOps.read trivial rfl (by decide) (Reader.move (.inl rfl) (ok_const rfl) (v := .lit (.bool (decide (u.gr ≥ 1)))) rfl) ?_
          refine AOps.splitJ (t := 38) (b := decide (u.gr ≥ 1)) (x := (decide (u.gr ≤ 1000))) (y := false) rfl (fun h8 => ?_) (fun h8 => ?_)
          · skip
            have h8' : u.gr ≥ 1 := (by have hh := of_decide_eq_true h8; omega)
            clear h8
            refine AOps.read ⟨38, rfl, rfl⟩ rfl (by decide) (Reader.fieldL rfl ⟨_, _, Tryd.underlying65, rfl, rfl, rfl, sizeOf_3⟩ (by decide) rfl) ?_
            refine AOps.read ⟨38, rfl, rfl⟩ rfl (by decide) (Reader.loadL rfl Tryd.underlying3 sizeOf_3 rfl rfl (v := .lit (.int .i64 u.gr)) rfl rfl) ?_
            refine AOps.read ⟨38, rfl, rfl⟩ rfl (by decide) (Reader.int rfl rfl rfl (r := .bool (decide (u.gr ≤ 1000))) rfl) ?_
            refine AOps.read trivial rfl (by decide) (Reader.pick rfl (b := true) rfl (ok_const rfl) (ok_const rfl) (v := .lit (.bool (decide (u.gr ≤ 1000)))) rfl) ?_
            refine AOps.read trivial rfl (by decide) (Reader.move (.inr rfl) (ok_const rfl) (v := .lit (.bool (decide (u.gr ≤ 1000)))) rfl) ?_
            exact AOps.nil rfl
          · skip
            have h8' : ¬ (u.gr ≥ 1) := (by have hh := of_decide_eq_false h8; omega)
            clear h8
            refine AOps.skip ⟨3, true, 38, _, rfl, rfl, rfl, by simp⟩ rfl (by decide) ?_
            refine AOps.skip ⟨3, true, 38, _, rfl, rfl, rfl, by simp⟩ rfl (by decide) ?_
            refine AOps.skip ⟨3, true, 38, _, rfl, rfl, rfl, by simp⟩ rfl (by decide) ?_
            refine AOps.read trivial rfl (by decide) (Reader.pick rfl (b := false) rfl (ok_const rfl) (ok_const rfl) (v := .lit (.bool false)) rfl) ?_
            refine AOps.read trivial rfl (by decide) (Reader.move (.inr rfl) (ok_const rfl) (v := .lit (.bool false)) rfl) ?_
            exact AOps.nil rfl
        refine AWp.ret ?_
        exact ⟨.inl rfl, _, ResOf.one 2 (.lit (.bool (bif (decide (u.gr ≥ 1)) then (decide (u.gr ≤ 1000)) else false))) rfl rfl, ⟨congrArg (fun b => AV.lit (.bool b)) (by refine Bool.eq_iff_iff.2 (Iff.trans ?_ decide_eq_true_iff.symm); unfold RightT; rcases Bool.eq_false_or_eq_true u.soft with hs | hs <;> simp [hs, Bool.cond_eq_ite] at * <;> first | omega | (split <;> omega) | (simp only [zz_iff] at *; omega)), rfl⟩⟩
      · skip
        refine AWp.skip ?_
        refine AWp.seq (AWp.region ?_)
        refine AOps.read trivial rfl (by decide) (Reader.fieldL rfl ⟨_, _, Tryd.underlying65, rfl, rfl, rfl, sizeOf_3⟩ (by decide) rfl) ?_
        refine AOps.read trivial rfl (by decide) (Reader.loadL rfl Tryd.underlying3 sizeOf_3 rfl rfl (v := .lit (.int .i64 u.gr)) rfl rfl) ?_
        refine AOps.read trivial rfl (by decide) (Reader.int rfl rfl rfl (r := .bool (u.gr == 0)) rfl) ?_
        refine AOps.read trivial rfl (by decide) (Reader.move (.inr rfl) (ok_const rfl) (v := .lit (.bool (u.gr == 0))) rfl) ?_
        refine AOps.nil ?_
        refine AWp.ret ?_
        exact ⟨.inl rfl, _, ResOf.one 2 (.lit (.bool (u.gr == 0))) rfl rfl, ⟨congrArg (fun b => AV.lit (.bool b)) (by refine Bool.eq_iff_iff.2 (Iff.trans ?_ decide_eq_true_iff.symm); unfold RightT; rcases Bool.eq_false_or_eq_true u.soft with hs | hs <;> simp [hs, Bool.cond_eq_ite] at * <;> first | omega | (split <;> omega) | (simp only [zz_iff] at *; omega)), rfl⟩⟩

end Go.Proofs.YtlpihekflkjkfaaDoor
