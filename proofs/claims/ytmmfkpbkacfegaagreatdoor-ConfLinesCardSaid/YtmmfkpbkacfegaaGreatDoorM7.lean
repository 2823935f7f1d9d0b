/- Cf1, Cf2. -/
import Derived.Test.YtmmfkpbkacfegaaGreatDoorM6
import Derived.Test.YtmmfkpbkacfegaaGreatDoorM4
import Derived.Test.YtmmfkpbkacfegaaGreatDoorM3
namespace Go.Proofs.YtmmfkpbkacfegaaGreatDoor
section
open Go.RowKit

theorem in_b {n a b : Int} : (bif decide (n ≥ a) then decide (n ≤ b) else false) = decide (a ≤ n ∧ n ≤ b) := by
  by_cases h : a ≤ n <;> by_cases h2 : n ≤ b <;> simp [h, h2] <;> omega
theorem thr_at {l : List Thr} {i : Nat} (h : i < l.length) : (l.map encT)[i]? = some (encT (l.getD i t0)) := by
  rw [List.getElem?_map, List.getD_eq_getElem?_getD, List.getElem?_eq_getElem h]; rfl
theorem ix_no {ts : List Thr} {i : Nat} (hno : ∀ j, j < i → RightT (ts.getD j t0)) (hi : ts.length ≤ i) : decide ((-1 : Int) ≥ 0) = ts.any fun t => !decide (RightT t) := by
  symm
  show _ = false
  rw [List.any_eq_false]
  intro x hx
  obtain ⟨j, hj, rfl⟩ := List.mem_iff_getElem.1 hx
  have := hno j (by omega)
  rw [List.getD_eq_getElem?_getD, List.getElem?_eq_getElem hj] at this
  simpa using this
theorem ix_yes {ts : List Thr} {i : Nat} (hi : i < ts.length) (h : ¬ RightT (ts.getD i t0)) : decide ((i : Int) ≥ 0) = ts.any fun t => !decide (RightT t) := by
  rw [decide_eq_true (show (i : Int) ≥ 0 by omega)]
  symm
  rw [List.any_eq_true]
  rw [List.getD_eq_getElem?_getD, List.getElem?_eq_getElem hi] at h
  exact ⟨ts[i], List.getElem_mem hi, by simpa using h⟩
theorem nx_thr {ts : List Thr} {i : Nat} (hno : ∀ j, j < i → RightT (ts.getD j t0)) (h : RightT (ts.getD i t0)) : ∀ j, j < i + 1 → RightT (ts.getD j t0) := by
  intro j hj
  rcases Nat.lt_succ_iff_lt_or_eq.1 hj with h1 | rfl
  · exact hno j h1
  · exact h
theorem bif_and {A B : Prop} [Decidable A] [Decidable B] : (bif decide A then decide B else false) = decide (A ∧ B) := by
  by_cases h : A <;> simp [h]
theorem any_t {ts : List Thr} (h : (ts.any fun t => !decide (RightT t)) = true) : ¬ ∀ t ∈ ts, RightT t := by
  obtain ⟨x, hx, h2⟩ := List.any_eq_true.1 h
  exact fun hh => by simp [hh x hx] at h2
theorem any_f {ts : List Thr} (h : (ts.any fun t => !decide (RightT t)) = false) : ∀ t ∈ ts, RightT t := by
  intro t ht
  have := List.any_eq_false.1 h t ht
  simpa using this
theorem thr_mem {ts : List Thr} {i : Nat} (h : i < ts.length) : ts.getD i t0 ∈ ts := by
  rw [List.getD_eq_getElem?_getD, List.getElem?_eq_getElem h]; exact List.getElem_mem h
theorem all_thr {ts : List Thr} {i : Nat} (hi : ts.length ≤ i) (hno : ∀ j, j < i → RightT (ts.getD j t0)) : ∀ t ∈ ts, RightT t := by
  intro t ht
  obtain ⟨j, hj, rfl⟩ := List.mem_iff_getElem.1 ht
  have := hno j (by omega)
  rwa [List.getD_eq_getElem?_getD, List.getElem?_eq_getElem hj] at this
theorem thrEq (f g : Thr) : (f.sig == g.sig && (f.pct == g.pct && (f.amt == g.amt && (f.soft == g.soft && (f.gr == g.gr && true))))) = decide (f = g) := by
  obtain ⟨a, b, c, d, e⟩ := f
  obtain ⟨a', b', c', d', e'⟩ := g
  rw [Bool.eq_iff_iff, decide_eq_true_iff]
  simp []
theorem nx_eq {ts us : List Thr} {i : Nat} (hno : ∀ j, j < i → ts.getD j t0 = us.getD j t0) (h : ts.getD i t0 = us.getD i t0) : ∀ j, j < i + 1 → ts.getD j t0 = us.getD j t0 := by
  intro j hj
  rcases Nat.lt_succ_iff_lt_or_eq.1 hj with h1 | rfl
  · exact hno j h1
  · exact h
theorem teq_of {ts us : List Thr} {i : Nat} (hl : ts.length = us.length) (hi : ts.length ≤ i) (hno : ∀ j, j < i → ts.getD j t0 = us.getD j t0) : ts = us := by
  refine List.ext_getElem hl fun j h1 h2 => ?_
  have := hno j (by omega)
  rwa [List.getD_eq_getElem?_getD, List.getD_eq_getElem?_getD, List.getElem?_eq_getElem h1, List.getElem?_eq_getElem h2] at this
theorem teq_y {ts us : List Thr} {i : Nat} (hl : ts.length = us.length) (hi : ts.length ≤ i) (hno : ∀ j, j < i → ts.getD j t0 = us.getD j t0) : true = decide (ts = us) := (decide_eq_true (teq_of hl hi hno)).symm
theorem teq_l {ts us : List Thr} (h : ¬ ts.length = us.length) : false = decide (ts = us) := (decide_eq_false (fun e => h (by rw [e]))).symm
theorem teq_n {ts us : List Thr} {i : Nat} (h : ¬ ts.getD i t0 = us.getD i t0) : false = decide (ts = us) := (decide_eq_false (fun e => h (by rw [e]))).symm
def CfN (c e : Cfg) : Prop := ¬ (c.c0 = e.c0 ∧ c.c1 = e.c1 ∧ c.c2 = e.c2 ∧ c.a0 = e.a0 ∧ c.a1 = e.a1 ∧ c.a2 = e.a2 ∧ c.thr.length = e.thr.length ∧ c.per = e.per ∧ c.ret = e.ret ∧ c.age = e.age ∧ c.ded = e.ded)
instance (c e : Cfg) : Decidable (CfN c e) := by unfold CfN; infer_instance
theorem cf_ext {c e : Cfg} (h : ¬ CfN c e) (ht : c.thr = e.thr) : c = e := by
  obtain ⟨c0, c1, c2, a0, a1, a2, thr, per, ret, age, ded⟩ := c
  obtain ⟨c0', c1', c2', a0', a1', a2', thr', per', ret', age', ded'⟩ := e
  have h' := Classical.not_not.1 h
  simp only at h' ht
  obtain ⟨rfl, rfl, rfl, rfl, rfl, rfl, _, rfl, rfl, rfl, rfl⟩ := h'
  rw [ht]
theorem cfn_len {c e : Cfg} (h : ¬ CfN c e) : c.thr.length = e.thr.length := (Classical.not_not.1 h).2.2.2.2.2.2.1
theorem csame_b {c e : Cfg} : (bif ((c.c0 == e.c0) && ((c.c1 == e.c1) && ((c.c2 == e.c2) && true))) then (bif ((c.a0 == e.a0) && ((c.a1 == e.a1) && ((c.a2 == e.a2) && true))) then (bif (decide (c.thr = e.thr)) then (bif (c.per == e.per) then (bif (c.ret == e.ret) then (bif (c.age == e.age) then (c.ded == e.ded) else false) else false) else false) else false) else false) else false) = decide (c = e) := by
  obtain ⟨c0, c1, c2, a0, a1, a2, thr, per, ret, age, ded⟩ := c
  obtain ⟨c0', c1', c2', a0', a1', a2', thr', per', ret', age', ded'⟩ := e
  rw [Bool.eq_iff_iff, decide_eq_true_iff]
  simp [and_assoc]
theorem cfn_b {c e : Cfg} : (bif (!((c.c0 == e.c0) && ((c.c1 == e.c1) && ((c.c2 == e.c2) && true)))) then true else (bif (!((c.a0 == e.a0) && ((c.a1 == e.a1) && ((c.a2 == e.a2) && true)))) then true else (bif ((c.thr.length : Int) != (e.thr.length : Int)) then true else (bif (c.per != e.per) then true else (bif (c.ret != e.ret) then true else (bif (c.age != e.age) then true else (c.ded != e.ded))))))) = decide (CfN c e) := by
  rw [Bool.eq_iff_iff, decide_eq_true_iff]
  unfold CfN
  have h : ∀ (a b : Bool), (bif !a then true else !b) = !(a && b) := by decide
  have e1 : ((c.thr.length : Int) != (e.thr.length : Int)) = !(decide (c.thr.length = e.thr.length)) := by rw [Bool.eq_iff_iff]; simp; omega
  have e2 : ∀ a b : Int, (a != b) = !(a == b) := fun _ _ => rfl
  rw [e1, e2, e2, e2, e2, h, h, h, h, h, h, Bool.not_eq_true', ← Bool.not_eq_true]
  refine not_congr ?_
  simp [and_assoc]
theorem cfn_t {c e : Cfg} {z : Bool} (hz : z = true) (h : z = decide (CfN c e)) : CfN c e := of_decide_eq_true (h.symm.trans hz)
theorem cfn_f {c e : Cfg} {z : Bool} (hz : z = false) (h : z = decide (CfN c e)) : ¬ CfN c e := of_decide_eq_false (h.symm.trans hz)

set_option maxRecDepth 20000 in
theorem cin_any (n a b : Int) (M : Nat → Option (List AV)) : ACall Tryz.prog 37 [zI n, zI a, zI b] M (fun r M' => r = zB (decide (a ≤ n ∧ n ≤ b)) ∧ M = M') := by
  refine ACall.of Tryz.func37 rfl (n := 15) rfl rfl rfl ?_
  refine zg ?_
  refine zM (zB false) ?_
  refine zN ?_
  refine zj 6 [(0, zI n), (1, zI a), (2, zI b)] [] M (bif (decide (n ≥ a)) then (decide (n ≤ b)) else false) ?_ ?_
  · skip
    refine zM (zI n) ?_
    refine zM (zI a) ?_
    refine zr (zi (decide (n ≥ a))) ?_
    refine zM (zB (decide (n ≥ a))) ?_
    refine AOps.splitJ (t := 10) (b := decide (n ≥ a)) (x := (decide (n ≤ b))) (y := false) rfl (fun h1 => ?_) (fun h1 => ?_)
    · skip
      have h1' : n ≥ a := (by have hh := of_decide_eq_true h1; omega)
      clear h1
      refine zM (zI n) ?_
      refine zM (zI b) ?_
      refine zr (zi (decide (n ≤ b))) ?_
      refine zr (zp true (zB (decide (n ≤ b)))) ?_
      refine zM (zB (decide (n ≤ b))) ?_
      exact AOps.nil rfl
    · skip
      have h1' : ¬ (n ≥ a) := (by have hh := of_decide_eq_false h1; omega)
      clear h1
      refine zs ?_
      refine zs ?_
      refine zs ?_
      refine zr (zp false (zB false)) ?_
      refine zM (zB false) ?_
      exact AOps.nil rfl
  refine AWp.ret ?_
  exact ⟨.inl rfl, _, ResOf.one 6 (zB (bif (decide (n ≥ a)) then (decide (n ≤ b)) else false)) rfl rfl, ⟨congrArg (fun b => AV.lit (.bool b)) (in_b), rfl⟩⟩

set_option maxRecDepth 20000 in
theorem Min3_any (x y z : Int) (M : Nat → Option (List AV)) : ACall Tryz.prog 33 [.list false 3 [zI x, zI y, zI z]] M (fun r M' => r = zI (min (min x y) z) ∧ M = M') := by
  refine ACall.of Tryz.func33 rfl (n := 25) rfl rfl rfl ?_
  refine zg ?_
  refine zM (zI 0) ?_
  refine zN ?_
  refine AWp.seq ?_
  refine zg ?_
  refine zM (.list false 3 [zI x, zI y, zI z]) ?_
  refine zr (zL [zI x, zI y, zI z] 3 Tryz.underlying58 rfl) ?_
  refine zr (zi false) ?_
  refine zN ?_
  refine AWp.cond (b := false) rfl (fun hx => by cases hx) (fun hx => ?_)
  refine AWp.skip ?_
  refine zg ?_
  refine zM (.list false 3 [zI x, zI y, zI z]) ?_
  refine zr (zel 0 (zI x) Tryz.underlying58 sizeOf_3 rfl) ?_
  refine zr (zlE (zI x) Tryz.underlying3 sizeOf_3) ?_
  refine zM (zI x) ?_
  refine zN ?_
  refine AWp.seq ?_
  refine zg ?_
  refine zM (zI 1) ?_
  refine zN ?_
  refine AWp.block ?_
  refine AWp.unroll 3 ?_
  refine AWp.round ?_
  refine AWp.seq ?_
  refine zg ?_
  refine zM (zI 1) ?_
  refine zM (.list false 3 [zI x, zI y, zI z]) ?_
  refine zr (zL [zI x, zI y, zI z] 3 Tryz.underlying58 rfl) ?_
  refine zr (zi true) ?_
  refine zN ?_
  refine AWp.cond (b := true) rfl (fun hx => ?_) (fun hx => by cases hx)
  refine AWp.skip ?_
  refine AWp.seq ?_
  refine AWp.block ?_
  refine AWp.region ?_
  refine zM (zI x) ?_
  refine zM (.list false 3 [zI x, zI y, zI z]) ?_
  refine zM (zI 1) ?_
  refine zr (zel 1 (zI y) Tryz.underlying58 sizeOf_3 rfl) ?_
  refine zr (zlE (zI y) Tryz.underlying3 sizeOf_3) ?_
  refine zr (Reader.minI rfl rfl rfl rfl rfl (m := min x y) (by omega)) ?_
  refine zM (zI (min x y)) ?_
  refine zN ?_
  refine AWp.region ?_
  refine zM (zI 1) ?_
  refine zr (zd (1 + 1) 2) ?_
  refine zM (zI 2) ?_
  refine zN ?_
  refine AWp.round ?_
  refine AWp.seq ?_
  refine zg ?_
  refine zM (zI 2) ?_
  refine zM (.list false 3 [zI x, zI y, zI z]) ?_
  refine zr (zL [zI x, zI y, zI z] 3 Tryz.underlying58 rfl) ?_
  refine zr (zi true) ?_
  refine zN ?_
  refine AWp.cond (b := true) rfl (fun hx => ?_) (fun hx => by cases hx)
  refine AWp.skip ?_
  refine AWp.seq ?_
  refine AWp.block ?_
  refine AWp.region ?_
  refine zM (zI (min x y)) ?_
  refine zM (.list false 3 [zI x, zI y, zI z]) ?_
  refine zM (zI 2) ?_
  refine zr (zel 2 (zI z) Tryz.underlying58 sizeOf_3 rfl) ?_
  refine zr (zlE (zI z) Tryz.underlying3 sizeOf_3) ?_
  refine zr (Reader.minI rfl rfl rfl rfl rfl (m := min (min x y) z) (by omega)) ?_
  refine zM (zI (min (min x y) z)) ?_
  refine zN ?_
  refine AWp.region ?_
  refine zM (zI 2) ?_
  refine zr (zd (2 + 1) 3) ?_
  refine zM (zI 3) ?_
  refine zN ?_
  refine AWp.round ?_
  refine AWp.seq ?_
  refine zg ?_
  refine zM (zI 3) ?_
  refine zM (.list false 3 [zI x, zI y, zI z]) ?_
  refine zr (zL [zI x, zI y, zI z] 3 Tryz.underlying58 rfl) ?_
  refine zr (zi false) ?_
  refine zN ?_
  refine AWp.cond (b := false) rfl (fun hx => by cases hx) (fun hx => ?_)
  refine AWp.exit ?_
  refine zg ?_
  refine zM (zI (min (min x y) z)) ?_
  refine zM (zI (min (min x y) z)) ?_
  refine zN ?_
  refine AWp.ret ?_
  exact ⟨.inl rfl, _, ResOf.one 2 (zI (min (min x y) z)) rfl rfl, ⟨rfl, rfl⟩⟩

set_option maxRecDepth 20000 in
theorem cr1_any (u : Thr) (M : Nat → Option (List AV)) : ACall Tryz.prog 35 [encT u] M (fun r M' => r = zB (!decide (RightT u)) ∧ M = M') := by
  refine ACall.of Tryz.func35 rfl (n := 6) rfl rfl rfl ?_
  refine zg ?_
  refine AOps.box trivial rfl (by decide) rfl (noL rfl) rfl (v := encT u) (.inl ⟨rfl, rfl⟩) rfl rfl (all_flat rfl) ?_
  refine zM (zB false) ?_
  refine zN ?_
  refine zg ?_
  refine zr (zlL (.agg [zI u.sig, zI u.pct, zI u.amt, zB u.soft, zI u.gr]) Tryz.underlying40 sizeOf_40) ?_
  refine zc [.agg [zI u.sig, zI u.pct, zI u.amt, zB u.soft, zI u.gr]] Tryz.call36 (Right_any ⟨u.sig, u.pct, u.amt, u.soft, u.gr⟩ M) ?_
  rintro _ _ ⟨rfl, rfl⟩
  refine zr (zn (decide (RightT ⟨u.sig, u.pct, u.amt, u.soft, u.gr⟩))) ?_
  refine zM (zB (!(decide (RightT ⟨u.sig, u.pct, u.amt, u.soft, u.gr⟩)))) ?_
  refine zN ?_
  refine AWp.ret ?_
  exact ⟨.inl rfl, _, ResOf.one 2 (zB (!(decide (RightT ⟨u.sig, u.pct, u.amt, u.soft, u.gr⟩)))) rfl rfl, ⟨congrArg (fun b => AV.lit (.bool b)) (rfl), rfl⟩⟩

set_option maxRecDepth 20000 in
theorem tix_any (ts : List Thr) (hts : ts.length ≤ 140737488355328) (M : Nat → Option (List AV)) : ACall Tryz.prog 58 [.list false 40 (ts.map encT), .fn 35 []] M (fun r M' => (∃ k : Int, r = zI k ∧ (decide (k ≥ 0) = ts.any fun t => !decide (RightT t))) ∧ M = M') := by
  refine ACall.of Tryz.func58 rfl (n := 19) rfl rfl rfl ?_
  refine zg ?_
  refine zM (zI 0) ?_
  refine zN ?_
  refine AWp.seq ?_
  refine zg ?_
  refine zM (.list false 40 (ts.map encT)) ?_
  refine zr (zL (ts.map encT) ts.length Tryz.underlying25 (by simp)) ?_
  refine zM (zI 0) ?_
  refine zN ?_
  refine AWp.block ?_
  refine AWp.loopE [0, 1, 7, 8] [] (fun m s => ∃ (i : Nat), m = ts.length - i ∧ s = ⟨[(0, .list false 40 (ts.map encT)), (1, .fn 35 []), (7, zI (ts.length : Int)), (8, zI (i : Int))], [], M⟩ ∧ (i ≤ ts.length) ∧ (∀ j, j < i → RightT (ts.getD j t0))) ?_ ?_
  · exact ⟨_, 0, rfl, rfl, Nat.zero_le _, fun j hj => by omega⟩
  · rintro _ _ ⟨i, rfl, rfl, hi, hno⟩
    refine zg ?_
    refine zr (zi (decide ((i : Int) < (ts.length : Int)))) ?_
    refine zN ?_
    refine AWp.seq ?_
    refine zC (b := decide ((i : Int) < (ts.length : Int))) rfl (fun h1 => ?_) (fun h1 => ?_)
    · skip
      have h1' : i < ts.length := (by have hh := of_decide_eq_true h1; omega)
      clear h1
      refine AWp.skip ?_
      refine AWp.seq ?_
      refine AWp.block ?_
      refine zg ?_
      refine zM (zI (i : Int)) ?_
      refine zM (zI (i : Int)) ?_
      refine zN ?_
      refine zg ?_
      refine zM (.fn 35 []) ?_
      refine zM (.list false 40 (ts.map encT)) ?_
      refine zM (zI (i : Int)) ?_
      refine zr (zel i (encT (ts.getD i t0)) Tryz.underlying25 sizeOf_40 (thr_at (by omega))) ?_
      refine zr (zlE (encT (ts.getD i t0)) Tryz.underlying40 sizeOf_40) ?_
      refine zcv [encT (ts.getD i t0)] [] [encT (ts.getD i t0)] Tryz.call35 (cr1_any (ts.getD i t0) M) ?_
      rintro _ _ ⟨rfl, rfl⟩
      refine zN ?_
      refine zC (b := !decide (RightT (ts.getD i t0))) rfl (fun h2 => ?_) (fun h2 => ?_)
      · skip
        have h2' : ¬ RightT (ts.getD i t0) := (of_decide_eq_false (bnot_t h2))
        clear h2
        refine zg ?_
        refine zM (zI (i : Int)) ?_
        refine zM (zI (i : Int)) ?_
        refine zN ?_
        refine AWp.ret ?_
        exact ⟨.inl rfl, _, ResOf.one 4 (zI (i : Int)) rfl rfl, ⟨⟨_, rfl, ix_yes (by omega) (by assumption)⟩, rfl⟩⟩
      · skip
        have h2' : RightT (ts.getD i t0) := (of_decide_eq_true (bnot_f h2))
        clear h2
        refine AWp.skip ?_
        refine AWp.region ?_
        refine zr (zw ((i : Int) + 1) ((i + 1 : Nat) : Int)) ?_
        refine zM (zI ((i + 1 : Nat) : Int)) ?_
        refine zN ?_
        exact ⟨_, by omega, i + 1, rfl, rfl, by omega, nx_thr hno (by assumption)⟩
    · skip
      have h1' : ¬ (i < ts.length) := (by have hh := of_decide_eq_false h1; omega)
      clear h1
      refine AWp.exit ?_
      refine zg ?_
      refine zM (zI (-1)) ?_
      refine zN ?_
      refine AWp.ret ?_
      exact ⟨.inl rfl, _, ResOf.one 4 (zI (-1)) rfl rfl, ⟨⟨_, rfl, ix_no hno (by omega)⟩, rfl⟩⟩

set_option maxRecDepth 20000 in
theorem tcf_any (ts : List Thr) (hts : ts.length ≤ 140737488355328) (M : Nat → Option (List AV)) : ACall Tryz.prog 34 [.list false 40 (ts.map encT), .fn 35 []] M (fun r M' => r = zB (ts.any fun t => !decide (RightT t)) ∧ M = M') := by
  refine ACall.of Tryz.func34 rfl (n := 9) rfl rfl rfl ?_
  refine zg ?_
  refine zM (zB false) ?_
  refine zN ?_
  refine zg ?_
  refine zM (.list false 40 (ts.map encT)) ?_
  refine zM (.fn 35 []) ?_
  refine zc [.list false 40 (ts.map encT), .fn 35 []] Tryz.call58 (tix_any ts (by assumption) M) ?_
  rintro _ _ ⟨⟨k, rfl, hk⟩, rfl⟩
  refine zr (zi (decide (k ≥ 0))) ?_
  refine zM (zB (decide (k ≥ 0))) ?_
  refine zN ?_
  refine AWp.ret ?_
  exact ⟨.inl rfl, _, ResOf.one 4 (zB (decide (k ≥ 0))) rfl rfl, ⟨congrArg (fun b => AV.lit (.bool b)) (hk), rfl⟩⟩

set_option maxRecDepth 20000 in
theorem CRight_any (c : Cfg) (hl : c.thr.length ≤ 140737488355328) (M : Nat → Option (List AV)) : ACall Tryz.prog 16 [encC c] M (fun r M' => r = zB (decide (RightC c)) ∧ M = M') := by
  refine ACall.of Tryz.func16 rfl (n := 53) rfl rfl rfl ?_
  refine zg ?_
  refine AOps.box trivial rfl (by decide) rfl (noL rfl) rfl (v := encC c) (.inl ⟨rfl, rfl⟩) rfl rfl (all_flat rfl) ?_
  refine AOps.freezeK 1 [0, 1] [] (s' := ⟨[(0, encC c), (1, .eptr (encC c) 0)], [], M⟩) rfl rfl rfl ?_
  refine zM (zB false) ?_
  refine zN ?_
  refine AWp.seq ?_
  refine AWp.block ?_
  refine AWp.seq ?_
  refine zg ?_
  refine zr (zfE Tryz.underlying27 sizeOf_24) ?_
  refine zr (Reader.sliceE (m := 3) (xs := [zI c.c0, zI c.c1, zI c.c2]) rfl Tryz.underlying24 sizeOf_3 rfl (by decide) rfl rfl rfl (one_cells rfl)) ?_
  refine zc [.list false 3 [zI c.c0, zI c.c1, zI c.c2]] Tryz.call33 (Min3_any c.c0 c.c1 c.c2 M) ?_
  rintro _ _ ⟨rfl, rfl⟩
  refine zr (zi (decide (min (min c.c0 c.c1) c.c2 < 1))) ?_
  refine zM (zB (decide (min (min c.c0 c.c1) c.c2 < 1))) ?_
  refine zN ?_
  refine zC (b := decide (min (min c.c0 c.c1) c.c2 < 1)) rfl (fun h1 => ?_) (fun h1 => ?_)
  · skip
    have h1k := h1
    have h1' : (min (min c.c0 c.c1) c.c2) < 1 := (by have hh := of_decide_eq_true h1; omega)
    clear h1
    refine AWp.skip ?_
    refine AWp.cond (b := decide (min (min c.c0 c.c1) c.c2 < 1)) rfl (fun _ => ?_) (fun hx => absurd (hx.symm.trans h1k) (by decide))
    refine zg ?_
    refine zM (zB false) ?_
    refine zN ?_
    refine AWp.ret ?_
    exact ⟨.inl rfl, _, ResOf.one 2 (zB false) rfl rfl, ⟨congrArg (fun b => AV.lit (.bool b)) ((decide_eq_false (fun hr => by obtain ⟨r1, r2, r3, r4, r5, r6, r7, r8, r9, r10, r11⟩ := hr; first | omega | exact absurd r10 (by assumption) | exact absurd (r10 _ (thr_mem (by omega))) (by assumption))).symm), rfl⟩⟩
  · skip
    have h1k := h1
    have h1' : ¬ ((min (min c.c0 c.c1) c.c2) < 1) := (by have hh := of_decide_eq_false h1; omega)
    clear h1
    refine AWp.region ?_
    refine zr (zfE Tryz.underlying27 sizeOf_24) ?_
    refine zr (Reader.sliceE (m := 3) (xs := [zI c.a0, zI c.a1, zI c.a2]) rfl Tryz.underlying24 sizeOf_3 rfl (by decide) rfl rfl rfl (one_cells rfl)) ?_
    refine zc [.list false 3 [zI c.a0, zI c.a1, zI c.a2]] Tryz.call33 (Min3_any c.a0 c.a1 c.a2 M) ?_
    rintro _ _ ⟨rfl, rfl⟩
    refine zr (zi (decide (min (min c.a0 c.a1) c.a2 < 0))) ?_
    refine zM (zB (decide (min (min c.a0 c.a1) c.a2 < 0))) ?_
    refine zN ?_
    refine zC (b := decide (min (min c.a0 c.a1) c.a2 < 0)) rfl (fun h2 => ?_) (fun h2 => ?_)
    · skip
      have h2k := h2
      have h2' : (min (min c.a0 c.a1) c.a2) < 0 := (by have hh := of_decide_eq_true h2; omega)
      clear h2
      refine zg ?_
      refine zM (zB false) ?_
      refine zN ?_
      refine AWp.ret ?_
      exact ⟨.inl rfl, _, ResOf.one 2 (zB false) rfl rfl, ⟨congrArg (fun b => AV.lit (.bool b)) ((decide_eq_false (fun hr => by obtain ⟨r1, r2, r3, r4, r5, r6, r7, r8, r9, r10, r11⟩ := hr; first | omega | exact absurd r10 (by assumption) | exact absurd (r10 _ (thr_mem (by omega))) (by assumption))).symm), rfl⟩⟩
    · skip
      have h2k := h2
      have h2' : ¬ ((min (min c.a0 c.a1) c.a2) < 0) := (by have hh := of_decide_eq_false h2; omega)
      clear h2
      refine AWp.seq ?_
      refine zg ?_
      refine zr (zfE Tryz.underlying27 sizeOf_24) ?_
      refine zr (ziE 1 Tryz.underlying24 sizeOf_3) ?_
      refine zr (zlE (zI c.a1) Tryz.underlying3 sizeOf_3) ?_
      refine zr (zfE Tryz.underlying27 sizeOf_24) ?_
      refine zr (ziE 0 Tryz.underlying24 sizeOf_3) ?_
      refine zr (zlE (zI c.c0) Tryz.underlying3 sizeOf_3) ?_
      refine zr (zi (decide (c.a1 > c.c0))) ?_
      refine zM (zB (decide (c.a1 > c.c0))) ?_
      refine zN ?_
      refine zC (b := decide (c.a1 > c.c0)) rfl (fun h3 => ?_) (fun h3 => ?_)
      · skip
        have h3k := h3
        have h3' : c.a1 > c.c0 := (by have hh := of_decide_eq_true h3; omega)
        clear h3
        refine AWp.skip ?_
        refine AWp.cond (b := decide (c.a1 > c.c0)) rfl (fun _ => ?_) (fun hx => absurd (hx.symm.trans h3k) (by decide))
        refine zg ?_
        refine zM (zB false) ?_
        refine zN ?_
        refine AWp.ret ?_
        exact ⟨.inl rfl, _, ResOf.one 2 (zB false) rfl rfl, ⟨congrArg (fun b => AV.lit (.bool b)) ((decide_eq_false (fun hr => by obtain ⟨r1, r2, r3, r4, r5, r6, r7, r8, r9, r10, r11⟩ := hr; first | omega | exact absurd r10 (by assumption) | exact absurd (r10 _ (thr_mem (by omega))) (by assumption))).symm), rfl⟩⟩
      · skip
        have h3k := h3
        have h3' : ¬ (c.a1 > c.c0) := (by have hh := of_decide_eq_false h3; omega)
        clear h3
        refine AWp.region ?_
        refine zr (zfE Tryz.underlying27 sizeOf_24) ?_
        refine zr (ziE 2 Tryz.underlying24 sizeOf_3) ?_
        refine zr (zlE (zI c.a2) Tryz.underlying3 sizeOf_3) ?_
        refine zr (zfE Tryz.underlying27 sizeOf_24) ?_
        refine zr (ziE 2 Tryz.underlying24 sizeOf_3) ?_
        refine zr (zlE (zI c.c2) Tryz.underlying3 sizeOf_3) ?_
        refine zr (zi (decide (c.a2 > c.c2))) ?_
        refine zM (zB (decide (c.a2 > c.c2))) ?_
        refine zN ?_
        refine zC (b := decide (c.a2 > c.c2)) rfl (fun h4 => ?_) (fun h4 => ?_)
        · skip
          have h4k := h4
          have h4' : c.a2 > c.c2 := (by have hh := of_decide_eq_true h4; omega)
          clear h4
          refine zg ?_
          refine zM (zB false) ?_
          refine zN ?_
          refine AWp.ret ?_
          exact ⟨.inl rfl, _, ResOf.one 2 (zB false) rfl rfl, ⟨congrArg (fun b => AV.lit (.bool b)) ((decide_eq_false (fun hr => by obtain ⟨r1, r2, r3, r4, r5, r6, r7, r8, r9, r10, r11⟩ := hr; first | omega | exact absurd r10 (by assumption) | exact absurd (r10 _ (thr_mem (by omega))) (by assumption))).symm), rfl⟩⟩
        · skip
          have h4k := h4
          have h4' : ¬ (c.a2 > c.c2) := (by have hh := of_decide_eq_false h4; omega)
          clear h4
          refine AWp.seq ?_
          refine zg ?_
          refine zr (zfE Tryz.underlying27 sizeOf_25) ?_
          refine zr (zlE (.list false 40 (c.thr.map encT)) Tryz.underlying25 sizeOf_25) ?_
          refine zr (zL (c.thr.map encT) c.thr.length Tryz.underlying25 (by simp)) ?_
          refine zr (zi (decide ((c.thr.length : Int) > 12))) ?_
          refine zM (zB (decide ((c.thr.length : Int) > 12))) ?_
          refine zN ?_
          refine zC (b := decide ((c.thr.length : Int) > 12)) rfl (fun h5 => ?_) (fun h5 => ?_)
          · skip
            have h5k := h5
            have h5' : c.thr.length > 12 := (by have hh := of_decide_eq_true h5; omega)
            clear h5
            refine AWp.skip ?_
            refine AWp.cond (b := decide ((c.thr.length : Int) > 12)) rfl (fun _ => ?_) (fun hx => absurd (hx.symm.trans h5k) (by decide))
            refine zg ?_
            refine zM (zB false) ?_
            refine zN ?_
            refine AWp.ret ?_
            exact ⟨.inl rfl, _, ResOf.one 2 (zB false) rfl rfl, ⟨congrArg (fun b => AV.lit (.bool b)) ((decide_eq_false (fun hr => by obtain ⟨r1, r2, r3, r4, r5, r6, r7, r8, r9, r10, r11⟩ := hr; first | omega | exact absurd r10 (by assumption) | exact absurd (r10 _ (thr_mem (by omega))) (by assumption))).symm), rfl⟩⟩
          · skip
            have h5k := h5
            have h5' : ¬ (c.thr.length > 12) := (by have hh := of_decide_eq_false h5; omega)
            clear h5
            refine AWp.region ?_
            refine zr (zfE Tryz.underlying27 sizeOf_25) ?_
            refine zr (zlE (.list false 40 (c.thr.map encT)) Tryz.underlying25 sizeOf_25) ?_
            refine zc [.list false 40 (c.thr.map encT), .fn 35 []] Tryz.call34 (tcf_any c.thr (by omega) M) ?_
            rintro _ _ ⟨rfl, rfl⟩
            refine zM (zB (c.thr.any fun t => !decide (RightT t))) ?_
            refine zN ?_
            refine zC (b := (c.thr.any fun t => !decide (RightT t))) rfl (fun h6 => ?_) (fun h6 => ?_)
            · skip
              have h6k := h6
              have h6' : ¬ ∀ t ∈ c.thr, RightT t := (any_t h6)
              clear h6
              refine zg ?_
              refine zM (zB false) ?_
              refine zN ?_
              refine AWp.ret ?_
              exact ⟨.inl rfl, _, ResOf.one 2 (zB false) rfl rfl, ⟨congrArg (fun b => AV.lit (.bool b)) ((decide_eq_false (fun hr => by obtain ⟨r1, r2, r3, r4, r5, r6, r7, r8, r9, r10, r11⟩ := hr; first | omega | exact absurd r10 (by assumption) | exact absurd (r10 _ (thr_mem (by omega))) (by assumption))).symm), rfl⟩⟩
            · skip
              have h6k := h6
              have h6' : ∀ t ∈ c.thr, RightT t := (any_f h6)
              clear h6
              refine AWp.skip ?_
              refine zj 2 [(0, encC c), (1, .eptr (encC c) 0), (3, zB (decide (min (min c.a0 c.a1) c.a2 < 0))), (12, zB (decide (c.a2 > c.c2))), (27, zB (c.thr.any fun t => !decide (RightT t)))] [] M (bif (decide (1 ≤ c.per ∧ c.per ≤ 1000)) then (bif (decide (1 ≤ c.age ∧ c.age ≤ 1000)) then (bif (decide (0 ≤ c.ret ∧ c.ret ≤ 20)) then (decide (0 ≤ c.ded ∧ c.ded ≤ 100)) else false) else false) else false) ?_ ?_
              · skip
                refine zr (zfE Tryz.underlying27 sizeOf_3) ?_
                refine zr (zlE (zI c.per) Tryz.underlying3 sizeOf_3) ?_
                refine zc [zI c.per, zI 1, zI 1000] Tryz.call37 (cin_any c.per 1 1000 M) ?_
                rintro _ _ ⟨rfl, rfl⟩
                refine zM (zB (decide (1 ≤ c.per ∧ c.per ≤ 1000))) ?_
                refine AOps.splitJ (t := 38) (b := decide (1 ≤ c.per ∧ c.per ≤ 1000)) (x := (bif (decide (1 ≤ c.age ∧ c.age ≤ 1000)) then (bif (decide (0 ≤ c.ret ∧ c.ret ≤ 20)) then (decide (0 ≤ c.ded ∧ c.ded ≤ 100)) else false) else false)) (y := false) rfl (fun h7 => ?_) (fun h7 => ?_)
                · skip
                  refine zr (zfE Tryz.underlying27 sizeOf_3) ?_
                  refine zr (zlE (zI c.age) Tryz.underlying3 sizeOf_3) ?_
                  refine zc [zI c.age, zI 1, zI 1000] Tryz.call37 (cin_any c.age 1 1000 M) ?_
                  rintro _ _ ⟨rfl, rfl⟩
                  refine zr (zp true (zB (decide (1 ≤ c.age ∧ c.age ≤ 1000)))) ?_
                  refine zM (zB (decide (1 ≤ c.age ∧ c.age ≤ 1000))) ?_
                  refine AOps.splitJ (t := 43) (b := decide (1 ≤ c.age ∧ c.age ≤ 1000)) (x := (bif (decide (0 ≤ c.ret ∧ c.ret ≤ 20)) then (decide (0 ≤ c.ded ∧ c.ded ≤ 100)) else false)) (y := false) rfl (fun h8 => ?_) (fun h8 => ?_)
                  · skip
                    refine zr (zfE Tryz.underlying27 sizeOf_3) ?_
                    refine zr (zlE (zI c.ret) Tryz.underlying3 sizeOf_3) ?_
                    refine zc [zI c.ret, zI 0, zI 20] Tryz.call37 (cin_any c.ret 0 20 M) ?_
                    rintro _ _ ⟨rfl, rfl⟩
                    refine zr (zp true (zB (decide (0 ≤ c.ret ∧ c.ret ≤ 20)))) ?_
                    refine zM (zB (decide (0 ≤ c.ret ∧ c.ret ≤ 20))) ?_
                    refine AOps.splitJ (t := 48) (b := decide (0 ≤ c.ret ∧ c.ret ≤ 20)) (x := (decide (0 ≤ c.ded ∧ c.ded ≤ 100))) (y := false) rfl (fun h9 => ?_) (fun h9 => ?_)
                    · skip
                      refine zr (zfE Tryz.underlying27 sizeOf_3) ?_
                      refine zr (zlE (zI c.ded) Tryz.underlying3 sizeOf_3) ?_
                      refine zc [zI c.ded, zI 0, zI 100] Tryz.call37 (cin_any c.ded 0 100 M) ?_
                      rintro _ _ ⟨rfl, rfl⟩
                      refine zr (zp true (zB (decide (0 ≤ c.ded ∧ c.ded ≤ 100)))) ?_
                      refine zM (zB (decide (0 ≤ c.ded ∧ c.ded ≤ 100))) ?_
                      exact AOps.nil rfl
                    · skip
                      refine zs ?_
                      refine zs ?_
                      refine zs ?_
                      refine zr (zp false (zB false)) ?_
                      refine zM (zB false) ?_
                      exact AOps.nil rfl
                  · skip
                    refine zs ?_
                    refine zs ?_
                    refine zs ?_
                    refine zr (zp false (zB false)) ?_
                    refine zM (zB false) ?_
                    refine zs ?_
                    refine zs ?_
                    refine zs ?_
                    refine zr (zp false (zB false)) ?_
                    refine zM (zB false) ?_
                    exact AOps.nil rfl
                · skip
                  refine zs ?_
                  refine zs ?_
                  refine zs ?_
                  refine zr (zp false (zB false)) ?_
                  refine zM (zB false) ?_
                  refine zs ?_
                  refine zs ?_
                  refine zs ?_
                  refine zr (zp false (zB false)) ?_
                  refine zM (zB false) ?_
                  refine zs ?_
                  refine zs ?_
                  refine zs ?_
                  refine zr (zp false (zB false)) ?_
                  refine zM (zB false) ?_
                  exact AOps.nil rfl
              refine AWp.ret ?_
              exact ⟨.inl rfl, _, ResOf.one 2 (zB (bif (decide (1 ≤ c.per ∧ c.per ≤ 1000)) then (bif (decide (1 ≤ c.age ∧ c.age ≤ 1000)) then (bif (decide (0 ≤ c.ret ∧ c.ret ≤ 20)) then (decide (0 ≤ c.ded ∧ c.ded ≤ 100)) else false) else false) else false)) rfl rfl, ⟨congrArg (fun b => AV.lit (.bool b)) ((by rw [bif_and, bif_and, bif_and]; exact decide_eq_decide.2 ⟨fun hq => ⟨by omega, by omega, by omega, by omega, by omega, by omega, by omega, by omega, by omega, by first | assumption | exact all_thr (i := i) (by omega) hno, by omega, by omega, by omega, by omega, by omega, by omega, by omega, by omega⟩, fun hr => by obtain ⟨r1, r2, r3, r4, r5, r6, r7, r8, r9, r10, r11⟩ := hr; omega⟩)), rfl⟩⟩

set_option maxRecDepth 20000 in
theorem RRight_any (c : Cfg) (hl : c.thr.length ≤ 140737488355328) (M : Nat → Option (List AV)) : ACall Tryz.prog 13 [encC c] M (fun r M' => r = zB (decide (RightC c)) ∧ M = M') := by
  refine ACall.of Tryz.func13 rfl (n := 95) rfl rfl rfl ?_
  refine zg ?_
  refine AOps.box trivial rfl (by decide) rfl (noL rfl) rfl (v := encC c) (.inl ⟨rfl, rfl⟩) rfl rfl (all_flat rfl) ?_
  refine AOps.freezeK 1 [0, 1] [] (s' := ⟨[(0, encC c), (1, .eptr (encC c) 0)], [], M⟩) rfl rfl rfl ?_
  refine zM (zB false) ?_
  refine zN ?_
  refine AWp.seq ?_
  refine zg ?_
  refine zM (zI 0) ?_
  refine zN ?_
  refine AWp.block ?_
  refine AWp.unroll 4 ?_
  refine AWp.round ?_
  refine AWp.seq ?_
  refine zg ?_
  refine zM (zI 0) ?_
  refine zr (zi true) ?_
  refine zN ?_
  refine AWp.cond (b := true) rfl (fun hx => ?_) (fun hx => by cases hx)
  refine AWp.skip ?_
  refine AWp.seq ?_
  refine AWp.block ?_
  refine zj 20 [(0, encC c), (1, .eptr (encC c) 0), (2, zB false), (3, zI 0), (6, zB true)] [] M (bif (decide (c.c0 < 1)) then true else (decide (c.a0 < 0))) ?_ ?_
  · skip
    refine zM (zI 0) ?_
    refine zr (zfE Tryz.underlying27 sizeOf_24) ?_
    refine zr (ziE 0 Tryz.underlying24 sizeOf_3) ?_
    refine zr (zlE (zI c.c0) Tryz.underlying3 sizeOf_3) ?_
    refine zr (zi (decide (c.c0 < 1))) ?_
    refine zM (zB (decide (c.c0 < 1))) ?_
    refine AOps.splitJ (t := 14) (b := decide (c.c0 < 1)) (x := true) (y := (decide (c.a0 < 0))) rfl (fun h1 => ?_) (fun h1 => ?_)
    · skip
      have h1' : c.c0 < 1 := (by have hh := of_decide_eq_true h1; omega)
      clear h1
      refine zs ?_
      refine zs ?_
      refine zs ?_
      refine zs ?_
      refine zs ?_
      refine zr (zp true (zB true)) ?_
      exact AOps.nil rfl
    · skip
      have h1' : ¬ (c.c0 < 1) := (by have hh := of_decide_eq_false h1; omega)
      clear h1
      refine zM (zI 0) ?_
      refine zr (zfE Tryz.underlying27 sizeOf_24) ?_
      refine zr (ziE 0 Tryz.underlying24 sizeOf_3) ?_
      refine zr (zlE (zI c.a0) Tryz.underlying3 sizeOf_3) ?_
      refine zr (zi (decide (c.a0 < 0))) ?_
      refine zr (zp false (zB (decide (c.a0 < 0)))) ?_
      exact AOps.nil rfl
  have hz1 : (bif (decide (c.c0 < 1)) then true else (decide (c.a0 < 0))) = decide (c.c0 < 1 ∨ c.a0 < 0) := by rw [Bool.eq_iff_iff, decide_eq_true_iff]; simp only [Bool.cond_eq_ite]; (repeat' split) <;> simp_all <;> omega
  refine zC (b := bif (decide (c.c0 < 1)) then true else (decide (c.a0 < 0))) rfl (fun h2 => ?_) (fun h2 => ?_)
  · skip
    have h2' : c.c0 < 1 ∨ c.a0 < 0 := (of_decide_eq_true (hz1.symm.trans h2))
    clear h2
    refine zg ?_
    refine zM (zB false) ?_
    refine zN ?_
    refine AWp.ret ?_
    exact ⟨.inl rfl, _, ResOf.one 2 (zB false) rfl rfl, ⟨congrArg (fun b => AV.lit (.bool b)) ((decide_eq_false (fun hr => by obtain ⟨r1, r2, r3, r4, r5, r6, r7, r8, r9, r10, r11⟩ := hr; first | omega | exact absurd r10 (by assumption) | exact absurd (r10 _ (thr_mem (by omega))) (by assumption))).symm), rfl⟩⟩
  · skip
    have h2' : ¬ (c.c0 < 1 ∨ c.a0 < 0) := (of_decide_eq_false (hz1.symm.trans h2))
    clear h2
    refine AWp.skip ?_
    refine AWp.region ?_
    refine zM (zI 0) ?_
    refine zr (zd (0 + 1) 1) ?_
    refine zM (zI 1) ?_
    refine zN ?_
    refine AWp.round ?_
    refine AWp.seq ?_
    refine zg ?_
    refine zM (zI 1) ?_
    refine zr (zi true) ?_
    refine zN ?_
    refine AWp.cond (b := true) rfl (fun hx => ?_) (fun hx => by cases hx)
    refine AWp.skip ?_
    refine AWp.seq ?_
    refine AWp.block ?_
    refine zj 20 [(0, encC c), (1, .eptr (encC c) 0), (2, zB false), (3, zI 1), (6, zB true)] [] M (bif (decide (c.c1 < 1)) then true else (decide (c.a1 < 0))) ?_ ?_
    · skip
      refine zM (zI 1) ?_
      refine zr (zfE Tryz.underlying27 sizeOf_24) ?_
      refine zr (ziE 1 Tryz.underlying24 sizeOf_3) ?_
      refine zr (zlE (zI c.c1) Tryz.underlying3 sizeOf_3) ?_
      refine zr (zi (decide (c.c1 < 1))) ?_
      refine zM (zB (decide (c.c1 < 1))) ?_
      refine AOps.splitJ (t := 14) (b := decide (c.c1 < 1)) (x := true) (y := (decide (c.a1 < 0))) rfl (fun h3 => ?_) (fun h3 => ?_)
      · skip
        have h3' : c.c1 < 1 := (by have hh := of_decide_eq_true h3; omega)
        clear h3
        refine zs ?_
        refine zs ?_
        refine zs ?_
        refine zs ?_
        refine zs ?_
        refine zr (zp true (zB true)) ?_
        exact AOps.nil rfl
      · skip
        have h3' : ¬ (c.c1 < 1) := (by have hh := of_decide_eq_false h3; omega)
        clear h3
        refine zM (zI 1) ?_
        refine zr (zfE Tryz.underlying27 sizeOf_24) ?_
        refine zr (ziE 1 Tryz.underlying24 sizeOf_3) ?_
        refine zr (zlE (zI c.a1) Tryz.underlying3 sizeOf_3) ?_
        refine zr (zi (decide (c.a1 < 0))) ?_
        refine zr (zp false (zB (decide (c.a1 < 0)))) ?_
        exact AOps.nil rfl
    have hz2 : (bif (decide (c.c1 < 1)) then true else (decide (c.a1 < 0))) = decide (c.c1 < 1 ∨ c.a1 < 0) := by rw [Bool.eq_iff_iff, decide_eq_true_iff]; simp only [Bool.cond_eq_ite]; (repeat' split) <;> simp_all <;> omega
    refine zC (b := bif (decide (c.c1 < 1)) then true else (decide (c.a1 < 0))) rfl (fun h4 => ?_) (fun h4 => ?_)
    · skip
      have h4' : c.c1 < 1 ∨ c.a1 < 0 := (of_decide_eq_true (hz2.symm.trans h4))
      clear h4
      refine zg ?_
      refine zM (zB false) ?_
      refine zN ?_
      refine AWp.ret ?_
      exact ⟨.inl rfl, _, ResOf.one 2 (zB false) rfl rfl, ⟨congrArg (fun b => AV.lit (.bool b)) ((decide_eq_false (fun hr => by obtain ⟨r1, r2, r3, r4, r5, r6, r7, r8, r9, r10, r11⟩ := hr; first | omega | exact absurd r10 (by assumption) | exact absurd (r10 _ (thr_mem (by omega))) (by assumption))).symm), rfl⟩⟩
    · skip
      have h4' : ¬ (c.c1 < 1 ∨ c.a1 < 0) := (of_decide_eq_false (hz2.symm.trans h4))
      clear h4
      refine AWp.skip ?_
      refine AWp.region ?_
      refine zM (zI 1) ?_
      refine zr (zd (1 + 1) 2) ?_
      refine zM (zI 2) ?_
      refine zN ?_
      refine AWp.round ?_
      refine AWp.seq ?_
      refine zg ?_
      refine zM (zI 2) ?_
      refine zr (zi true) ?_
      refine zN ?_
      refine AWp.cond (b := true) rfl (fun hx => ?_) (fun hx => by cases hx)
      refine AWp.skip ?_
      refine AWp.seq ?_
      refine AWp.block ?_
      refine zj 20 [(0, encC c), (1, .eptr (encC c) 0), (2, zB false), (3, zI 2), (6, zB true)] [] M (bif (decide (c.c2 < 1)) then true else (decide (c.a2 < 0))) ?_ ?_
      · skip
        refine zM (zI 2) ?_
        refine zr (zfE Tryz.underlying27 sizeOf_24) ?_
        refine zr (ziE 2 Tryz.underlying24 sizeOf_3) ?_
        refine zr (zlE (zI c.c2) Tryz.underlying3 sizeOf_3) ?_
        refine zr (zi (decide (c.c2 < 1))) ?_
        refine zM (zB (decide (c.c2 < 1))) ?_
        refine AOps.splitJ (t := 14) (b := decide (c.c2 < 1)) (x := true) (y := (decide (c.a2 < 0))) rfl (fun h5 => ?_) (fun h5 => ?_)
        · skip
          have h5' : c.c2 < 1 := (by have hh := of_decide_eq_true h5; omega)
          clear h5
          refine zs ?_
          refine zs ?_
          refine zs ?_
          refine zs ?_
          refine zs ?_
          refine zr (zp true (zB true)) ?_
          exact AOps.nil rfl
        · skip
          have h5' : ¬ (c.c2 < 1) := (by have hh := of_decide_eq_false h5; omega)
          clear h5
          refine zM (zI 2) ?_
          refine zr (zfE Tryz.underlying27 sizeOf_24) ?_
          refine zr (ziE 2 Tryz.underlying24 sizeOf_3) ?_
          refine zr (zlE (zI c.a2) Tryz.underlying3 sizeOf_3) ?_
          refine zr (zi (decide (c.a2 < 0))) ?_
          refine zr (zp false (zB (decide (c.a2 < 0)))) ?_
          exact AOps.nil rfl
      have hz3 : (bif (decide (c.c2 < 1)) then true else (decide (c.a2 < 0))) = decide (c.c2 < 1 ∨ c.a2 < 0) := by rw [Bool.eq_iff_iff, decide_eq_true_iff]; simp only [Bool.cond_eq_ite]; (repeat' split) <;> simp_all <;> omega
      refine zC (b := bif (decide (c.c2 < 1)) then true else (decide (c.a2 < 0))) rfl (fun h6 => ?_) (fun h6 => ?_)
      · skip
        have h6' : c.c2 < 1 ∨ c.a2 < 0 := (of_decide_eq_true (hz3.symm.trans h6))
        clear h6
        refine zg ?_
        refine zM (zB false) ?_
        refine zN ?_
        refine AWp.ret ?_
        exact ⟨.inl rfl, _, ResOf.one 2 (zB false) rfl rfl, ⟨congrArg (fun b => AV.lit (.bool b)) ((decide_eq_false (fun hr => by obtain ⟨r1, r2, r3, r4, r5, r6, r7, r8, r9, r10, r11⟩ := hr; first | omega | exact absurd r10 (by assumption) | exact absurd (r10 _ (thr_mem (by omega))) (by assumption))).symm), rfl⟩⟩
      · skip
        have h6' : ¬ (c.c2 < 1 ∨ c.a2 < 0) := (of_decide_eq_false (hz3.symm.trans h6))
        clear h6
        refine AWp.skip ?_
        refine AWp.region ?_
        refine zM (zI 2) ?_
        refine zr (zd (2 + 1) 3) ?_
        refine zM (zI 3) ?_
        refine zN ?_
        refine AWp.round ?_
        refine AWp.seq ?_
        refine zg ?_
        refine zM (zI 3) ?_
        refine zr (zi false) ?_
        refine zN ?_
        refine AWp.cond (b := false) rfl (fun hx => by cases hx) (fun hx => ?_)
        refine AWp.exit ?_
        refine AWp.seq ?_
        refine zj 42 [(20, zB (bif (decide (c.c2 < 1)) then true else (decide (c.a2 < 0)))), (0, encC c), (1, .eptr (encC c) 0), (2, zB false), (3, zI 3), (6, zB false)] [] M (bif (decide (c.a1 > c.c0)) then true else (bif (decide (c.a2 > c.c2)) then true else (decide ((c.thr.length : Int) > 12)))) ?_ ?_
        · skip
          refine zr (zfE Tryz.underlying27 sizeOf_24) ?_
          refine zr (ziE 1 Tryz.underlying24 sizeOf_3) ?_
          refine zr (zlE (zI c.a1) Tryz.underlying3 sizeOf_3) ?_
          refine zr (zfE Tryz.underlying27 sizeOf_24) ?_
          refine zr (ziE 0 Tryz.underlying24 sizeOf_3) ?_
          refine zr (zlE (zI c.c0) Tryz.underlying3 sizeOf_3) ?_
          refine zr (zi (decide (c.a1 > c.c0))) ?_
          refine zM (zB (decide (c.a1 > c.c0))) ?_
          refine AOps.splitJ (t := 28) (b := decide (c.a1 > c.c0)) (x := true) (y := (bif (decide (c.a2 > c.c2)) then true else (decide ((c.thr.length : Int) > 12)))) rfl (fun h7 => ?_) (fun h7 => ?_)
          · skip
            have h7' : c.a1 > c.c0 := (by have hh := of_decide_eq_true h7; omega)
            clear h7
            refine zs ?_
            refine zs ?_
            refine zs ?_
            refine zs ?_
            refine zs ?_
            refine zs ?_
            refine zs ?_
            refine zr (zp true (zB true)) ?_
            refine zM (zB true) ?_
            refine zs ?_
            refine zs ?_
            refine zs ?_
            refine zs ?_
            refine zr (zp true (zB true)) ?_
            exact AOps.nil rfl
          · skip
            have h7' : ¬ (c.a1 > c.c0) := (by have hh := of_decide_eq_false h7; omega)
            clear h7
            refine zr (zfE Tryz.underlying27 sizeOf_24) ?_
            refine zr (ziE 2 Tryz.underlying24 sizeOf_3) ?_
            refine zr (zlE (zI c.a2) Tryz.underlying3 sizeOf_3) ?_
            refine zr (zfE Tryz.underlying27 sizeOf_24) ?_
            refine zr (ziE 2 Tryz.underlying24 sizeOf_3) ?_
            refine zr (zlE (zI c.c2) Tryz.underlying3 sizeOf_3) ?_
            refine zr (zi (decide (c.a2 > c.c2))) ?_
            refine zr (zp false (zB (decide (c.a2 > c.c2)))) ?_
            refine zM (zB (decide (c.a2 > c.c2))) ?_
            refine AOps.splitJ (t := 37) (b := decide (c.a2 > c.c2)) (x := true) (y := (decide ((c.thr.length : Int) > 12))) rfl (fun h8 => ?_) (fun h8 => ?_)
            · skip
              have h8' : c.a2 > c.c2 := (by have hh := of_decide_eq_true h8; omega)
              clear h8
              refine zs ?_
              refine zs ?_
              refine zs ?_
              refine zs ?_
              refine zr (zp true (zB true)) ?_
              exact AOps.nil rfl
            · skip
              have h8' : ¬ (c.a2 > c.c2) := (by have hh := of_decide_eq_false h8; omega)
              clear h8
              refine zr (zfE Tryz.underlying27 sizeOf_25) ?_
              refine zr (zlE (.list false 40 (c.thr.map encT)) Tryz.underlying25 sizeOf_25) ?_
              refine zr (zL (c.thr.map encT) c.thr.length Tryz.underlying25 (by simp)) ?_
              refine zr (zi (decide ((c.thr.length : Int) > 12))) ?_
              refine zr (zp false (zB (decide ((c.thr.length : Int) > 12)))) ?_
              exact AOps.nil rfl
        have hz4 : (bif (decide (c.a1 > c.c0)) then true else (bif (decide (c.a2 > c.c2)) then true else (decide ((c.thr.length : Int) > 12)))) = decide (c.a1 > c.c0 ∨ c.a2 > c.c2 ∨ c.thr.length > 12) := by rw [Bool.eq_iff_iff, decide_eq_true_iff]; simp only [Bool.cond_eq_ite]; (repeat' split) <;> simp_all <;> omega
        refine zC (b := bif (decide (c.a1 > c.c0)) then true else (bif (decide (c.a2 > c.c2)) then true else (decide ((c.thr.length : Int) > 12)))) rfl (fun h9 => ?_) (fun h9 => ?_)
        · skip
          have h9' : c.a1 > c.c0 ∨ c.a2 > c.c2 ∨ c.thr.length > 12 := (of_decide_eq_true (hz4.symm.trans h9))
          clear h9
          refine zg ?_
          refine zM (zB false) ?_
          refine zN ?_
          refine AWp.ret ?_
          exact ⟨.inl rfl, _, ResOf.one 2 (zB false) rfl rfl, ⟨congrArg (fun b => AV.lit (.bool b)) ((decide_eq_false (fun hr => by obtain ⟨r1, r2, r3, r4, r5, r6, r7, r8, r9, r10, r11⟩ := hr; first | omega | exact absurd r10 (by assumption) | exact absurd (r10 _ (thr_mem (by omega))) (by assumption))).symm), rfl⟩⟩
        · skip
          have h9' : ¬ (c.a1 > c.c0 ∨ c.a2 > c.c2 ∨ c.thr.length > 12) := (of_decide_eq_false (hz4.symm.trans h9))
          clear h9
          refine AWp.skip ?_
          refine AWp.seq ?_
          refine zg ?_
          refine zM (zI 0) ?_
          refine zN ?_
          refine AWp.block ?_
          refine AWp.loopE [1, 2, 4] [] (fun m s => ∃ (i : Nat), m = c.thr.length - i ∧ s = ⟨[(1, .eptr (encC c) 0), (2, zB false), (4, zI (i : Int))], [], M⟩ ∧ (i ≤ c.thr.length) ∧ (∀ j, j < i → RightT (c.thr.getD j t0))) ?_ ?_
          · exact ⟨_, 0, rfl, rfl, Nat.zero_le _, fun j hj => by omega⟩
          · rintro _ _ ⟨i, rfl, rfl, hi, hno⟩
            refine AWp.seq ?_
            refine zg ?_
            refine zM (zI (i : Int)) ?_
            refine zr (zfE Tryz.underlying27 sizeOf_25) ?_
            refine zr (zlE (.list false 40 (c.thr.map encT)) Tryz.underlying25 sizeOf_25) ?_
            refine zr (zL (c.thr.map encT) c.thr.length Tryz.underlying25 (by simp)) ?_
            refine zr (zi (decide ((i : Int) < (c.thr.length : Int)))) ?_
            refine zN ?_
            refine zC (b := decide ((i : Int) < (c.thr.length : Int))) rfl (fun h10 => ?_) (fun h10 => ?_)
            · skip
              have h10' : i < c.thr.length := (by have hh := of_decide_eq_true h10; omega)
              clear h10
              refine AWp.skip ?_
              refine AWp.seq ?_
              refine AWp.block ?_
              refine zg ?_
              refine zr (zfE Tryz.underlying27 sizeOf_25) ?_
              refine zr (zlE (.list false 40 (c.thr.map encT)) Tryz.underlying25 sizeOf_25) ?_
              refine zM (zI (i : Int)) ?_
              refine zr (zel i (encT (c.thr.getD i t0)) Tryz.underlying25 sizeOf_40 (thr_at (by omega))) ?_
              refine zr (zlE (encT (c.thr.getD i t0)) Tryz.underlying40 sizeOf_40) ?_
              refine zc [encT (c.thr.getD i t0)] Tryz.call28 (rRight_any (c.thr.getD i t0) M) ?_
              rintro _ _ ⟨rfl, rfl⟩
              refine zr (zn (decide (RightT (c.thr.getD i t0)))) ?_
              refine zN ?_
              refine zC (b := !(decide (RightT (c.thr.getD i t0)))) rfl (fun h11 => ?_) (fun h11 => ?_)
              · skip
                have h11' : ¬ RightT (c.thr.getD i t0) := (of_decide_eq_false (bnot_t h11))
                clear h11
                refine zg ?_
                refine zM (zB false) ?_
                refine zN ?_
                refine AWp.ret ?_
                exact ⟨.inl rfl, _, ResOf.one 2 (zB false) rfl rfl, ⟨congrArg (fun b => AV.lit (.bool b)) ((decide_eq_false (fun hr => by obtain ⟨r1, r2, r3, r4, r5, r6, r7, r8, r9, r10, r11⟩ := hr; first | omega | exact absurd r10 (by assumption) | exact absurd (r10 _ (thr_mem (by omega))) (by assumption))).symm), rfl⟩⟩
              · skip
                have h11' : RightT (c.thr.getD i t0) := (of_decide_eq_true (bnot_f h11))
                clear h11
                refine AWp.skip ?_
                refine AWp.region ?_
                refine zM (zI (i : Int)) ?_
                refine zr (zw ((i : Int) + 1) ((i + 1 : Nat) : Int)) ?_
                refine zM (zI ((i + 1 : Nat) : Int)) ?_
                refine zN ?_
                exact ⟨_, by omega, i + 1, rfl, rfl, by omega, nx_thr hno (by assumption)⟩
            · skip
              have h10' : ¬ (i < c.thr.length) := (by have hh := of_decide_eq_false h10; omega)
              clear h10
              refine AWp.exit ?_
              refine zj 2 [(1, .eptr (encC c) 0), (4, zI (i : Int)), (47, zB (decide ((i : Int) < (c.thr.length : Int))))] [] M (bif (decide (c.per ≥ 1)) then (bif (decide (c.per ≤ 1000)) then (bif (decide (c.age ≥ 1)) then (bif (decide (c.age ≤ 1000)) then (bif (decide (c.ret ≥ 0)) then (bif (decide (c.ret ≤ 20)) then (bif (decide (c.ded ≥ 0)) then (decide (c.ded ≤ 100)) else false) else false) else false) else false) else false) else false) else false) ?_ ?_
              · skip
                refine zr (zfE Tryz.underlying27 sizeOf_3) ?_
                refine zr (zlE (zI c.per) Tryz.underlying3 sizeOf_3) ?_
                refine zr (zi (decide (c.per ≥ 1))) ?_
                refine zM (zB (decide (c.per ≥ 1))) ?_
                refine AOps.splitJ (t := 60) (b := decide (c.per ≥ 1)) (x := (bif (decide (c.per ≤ 1000)) then (bif (decide (c.age ≥ 1)) then (bif (decide (c.age ≤ 1000)) then (bif (decide (c.ret ≥ 0)) then (bif (decide (c.ret ≤ 20)) then (bif (decide (c.ded ≥ 0)) then (decide (c.ded ≤ 100)) else false) else false) else false) else false) else false) else false)) (y := false) rfl (fun h12 => ?_) (fun h12 => ?_)
                · skip
                  have h12' : c.per ≥ 1 := (by have hh := of_decide_eq_true h12; omega)
                  clear h12
                  refine zr (zfE Tryz.underlying27 sizeOf_3) ?_
                  refine zr (zlE (zI c.per) Tryz.underlying3 sizeOf_3) ?_
                  refine zr (zi (decide (c.per ≤ 1000))) ?_
                  refine zr (zp true (zB (decide (c.per ≤ 1000)))) ?_
                  refine zM (zB (decide (c.per ≤ 1000))) ?_
                  refine AOps.splitJ (t := 65) (b := decide (c.per ≤ 1000)) (x := (bif (decide (c.age ≥ 1)) then (bif (decide (c.age ≤ 1000)) then (bif (decide (c.ret ≥ 0)) then (bif (decide (c.ret ≤ 20)) then (bif (decide (c.ded ≥ 0)) then (decide (c.ded ≤ 100)) else false) else false) else false) else false) else false)) (y := false) rfl (fun h13 => ?_) (fun h13 => ?_)
                  · skip
                    have h13' : c.per ≤ 1000 := (by have hh := of_decide_eq_true h13; omega)
                    clear h13
                    refine zr (zfE Tryz.underlying27 sizeOf_3) ?_
                    refine zr (zlE (zI c.age) Tryz.underlying3 sizeOf_3) ?_
                    refine zr (zi (decide (c.age ≥ 1))) ?_
                    refine zr (zp true (zB (decide (c.age ≥ 1)))) ?_
                    refine zM (zB (decide (c.age ≥ 1))) ?_
                    refine AOps.splitJ (t := 70) (b := decide (c.age ≥ 1)) (x := (bif (decide (c.age ≤ 1000)) then (bif (decide (c.ret ≥ 0)) then (bif (decide (c.ret ≤ 20)) then (bif (decide (c.ded ≥ 0)) then (decide (c.ded ≤ 100)) else false) else false) else false) else false)) (y := false) rfl (fun h14 => ?_) (fun h14 => ?_)
                    · skip
                      have h14' : c.age ≥ 1 := (by have hh := of_decide_eq_true h14; omega)
                      clear h14
                      refine zr (zfE Tryz.underlying27 sizeOf_3) ?_
                      refine zr (zlE (zI c.age) Tryz.underlying3 sizeOf_3) ?_
                      refine zr (zi (decide (c.age ≤ 1000))) ?_
                      refine zr (zp true (zB (decide (c.age ≤ 1000)))) ?_
                      refine zM (zB (decide (c.age ≤ 1000))) ?_
                      refine AOps.splitJ (t := 75) (b := decide (c.age ≤ 1000)) (x := (bif (decide (c.ret ≥ 0)) then (bif (decide (c.ret ≤ 20)) then (bif (decide (c.ded ≥ 0)) then (decide (c.ded ≤ 100)) else false) else false) else false)) (y := false) rfl (fun h15 => ?_) (fun h15 => ?_)
                      · skip
                        have h15' : c.age ≤ 1000 := (by have hh := of_decide_eq_true h15; omega)
                        clear h15
                        refine zr (zfE Tryz.underlying27 sizeOf_3) ?_
                        refine zr (zlE (zI c.ret) Tryz.underlying3 sizeOf_3) ?_
                        refine zr (zi (decide (c.ret ≥ 0))) ?_
                        refine zr (zp true (zB (decide (c.ret ≥ 0)))) ?_
                        refine zM (zB (decide (c.ret ≥ 0))) ?_
                        refine AOps.splitJ (t := 80) (b := decide (c.ret ≥ 0)) (x := (bif (decide (c.ret ≤ 20)) then (bif (decide (c.ded ≥ 0)) then (decide (c.ded ≤ 100)) else false) else false)) (y := false) rfl (fun h16 => ?_) (fun h16 => ?_)
                        · skip
                          have h16' : c.ret ≥ 0 := (by have hh := of_decide_eq_true h16; omega)
                          clear h16
                          refine zr (zfE Tryz.underlying27 sizeOf_3) ?_
                          refine zr (zlE (zI c.ret) Tryz.underlying3 sizeOf_3) ?_
                          refine zr (zi (decide (c.ret ≤ 20))) ?_
                          refine zr (zp true (zB (decide (c.ret ≤ 20)))) ?_
                          refine zM (zB (decide (c.ret ≤ 20))) ?_
                          refine AOps.splitJ (t := 85) (b := decide (c.ret ≤ 20)) (x := (bif (decide (c.ded ≥ 0)) then (decide (c.ded ≤ 100)) else false)) (y := false) rfl (fun h17 => ?_) (fun h17 => ?_)
                          · skip
                            have h17' : c.ret ≤ 20 := (by have hh := of_decide_eq_true h17; omega)
                            clear h17
                            refine zr (zfE Tryz.underlying27 sizeOf_3) ?_
                            refine zr (zlE (zI c.ded) Tryz.underlying3 sizeOf_3) ?_
                            refine zr (zi (decide (c.ded ≥ 0))) ?_
                            refine zr (zp true (zB (decide (c.ded ≥ 0)))) ?_
                            refine zM (zB (decide (c.ded ≥ 0))) ?_
                            refine AOps.splitJ (t := 90) (b := decide (c.ded ≥ 0)) (x := (decide (c.ded ≤ 100))) (y := false) rfl (fun h18 => ?_) (fun h18 => ?_)
                            · skip
                              have h18' : c.ded ≥ 0 := (by have hh := of_decide_eq_true h18; omega)
                              clear h18
                              refine zr (zfE Tryz.underlying27 sizeOf_3) ?_
                              refine zr (zlE (zI c.ded) Tryz.underlying3 sizeOf_3) ?_
                              refine zr (zi (decide (c.ded ≤ 100))) ?_
                              refine zr (zp true (zB (decide (c.ded ≤ 100)))) ?_
                              refine zM (zB (decide (c.ded ≤ 100))) ?_
                              exact AOps.nil rfl
                            · skip
                              have h18' : ¬ (c.ded ≥ 0) := (by have hh := of_decide_eq_false h18; omega)
                              clear h18
                              refine zs ?_
                              refine zs ?_
                              refine zs ?_
                              refine zr (zp false (zB false)) ?_
                              refine zM (zB false) ?_
                              exact AOps.nil rfl
                          · skip
                            have h17' : ¬ (c.ret ≤ 20) := (by have hh := of_decide_eq_false h17; omega)
                            clear h17
                            refine zs ?_
                            refine zs ?_
                            refine zs ?_
                            refine zr (zp false (zB false)) ?_
                            refine zM (zB false) ?_
                            refine zs ?_
                            refine zs ?_
                            refine zs ?_
                            refine zr (zp false (zB false)) ?_
                            refine zM (zB false) ?_
                            exact AOps.nil rfl
                        · skip
                          have h16' : ¬ (c.ret ≥ 0) := (by have hh := of_decide_eq_false h16; omega)
                          clear h16
                          refine zs ?_
                          refine zs ?_
                          refine zs ?_
                          refine zr (zp false (zB false)) ?_
                          refine zM (zB false) ?_
                          refine zs ?_
                          refine zs ?_
                          refine zs ?_
                          refine zr (zp false (zB false)) ?_
                          refine zM (zB false) ?_
                          refine zs ?_
                          refine zs ?_
                          refine zs ?_
                          refine zr (zp false (zB false)) ?_
                          refine zM (zB false) ?_
                          exact AOps.nil rfl
                      · skip
                        have h15' : ¬ (c.age ≤ 1000) := (by have hh := of_decide_eq_false h15; omega)
                        clear h15
                        refine zs ?_
                        refine zs ?_
                        refine zs ?_
                        refine zr (zp false (zB false)) ?_
                        refine zM (zB false) ?_
                        refine zs ?_
                        refine zs ?_
                        refine zs ?_
                        refine zr (zp false (zB false)) ?_
                        refine zM (zB false) ?_
                        refine zs ?_
                        refine zs ?_
                        refine zs ?_
                        refine zr (zp false (zB false)) ?_
                        refine zM (zB false) ?_
                        refine zs ?_
                        refine zs ?_
                        refine zs ?_
                        refine zr (zp false (zB false)) ?_
                        refine zM (zB false) ?_
                        exact AOps.nil rfl
                    · skip
                      have h14' : ¬ (c.age ≥ 1) := (by have hh := of_decide_eq_false h14; omega)
                      clear h14
                      refine zs ?_
                      refine zs ?_
                      refine zs ?_
                      refine zr (zp false (zB false)) ?_
                      refine zM (zB false) ?_
                      refine zs ?_
                      refine zs ?_
                      refine zs ?_
                      refine zr (zp false (zB false)) ?_
                      refine zM (zB false) ?_
                      refine zs ?_
                      refine zs ?_
                      refine zs ?_
                      refine zr (zp false (zB false)) ?_
                      refine zM (zB false) ?_
                      refine zs ?_
                      refine zs ?_
                      refine zs ?_
                      refine zr (zp false (zB false)) ?_
                      refine zM (zB false) ?_
                      refine zs ?_
                      refine zs ?_
                      refine zs ?_
                      refine zr (zp false (zB false)) ?_
                      refine zM (zB false) ?_
                      exact AOps.nil rfl
                  · skip
                    have h13' : ¬ (c.per ≤ 1000) := (by have hh := of_decide_eq_false h13; omega)
                    clear h13
                    refine zs ?_
                    refine zs ?_
                    refine zs ?_
                    refine zr (zp false (zB false)) ?_
                    refine zM (zB false) ?_
                    refine zs ?_
                    refine zs ?_
                    refine zs ?_
                    refine zr (zp false (zB false)) ?_
                    refine zM (zB false) ?_
                    refine zs ?_
                    refine zs ?_
                    refine zs ?_
                    refine zr (zp false (zB false)) ?_
                    refine zM (zB false) ?_
                    refine zs ?_
                    refine zs ?_
                    refine zs ?_
                    refine zr (zp false (zB false)) ?_
                    refine zM (zB false) ?_
                    refine zs ?_
                    refine zs ?_
                    refine zs ?_
                    refine zr (zp false (zB false)) ?_
                    refine zM (zB false) ?_
                    refine zs ?_
                    refine zs ?_
                    refine zs ?_
                    refine zr (zp false (zB false)) ?_
                    refine zM (zB false) ?_
                    exact AOps.nil rfl
                · skip
                  have h12' : ¬ (c.per ≥ 1) := (by have hh := of_decide_eq_false h12; omega)
                  clear h12
                  refine zs ?_
                  refine zs ?_
                  refine zs ?_
                  refine zr (zp false (zB false)) ?_
                  refine zM (zB false) ?_
                  refine zs ?_
                  refine zs ?_
                  refine zs ?_
                  refine zr (zp false (zB false)) ?_
                  refine zM (zB false) ?_
                  refine zs ?_
                  refine zs ?_
                  refine zs ?_
                  refine zr (zp false (zB false)) ?_
                  refine zM (zB false) ?_
                  refine zs ?_
                  refine zs ?_
                  refine zs ?_
                  refine zr (zp false (zB false)) ?_
                  refine zM (zB false) ?_
                  refine zs ?_
                  refine zs ?_
                  refine zs ?_
                  refine zr (zp false (zB false)) ?_
                  refine zM (zB false) ?_
                  refine zs ?_
                  refine zs ?_
                  refine zs ?_
                  refine zr (zp false (zB false)) ?_
                  refine zM (zB false) ?_
                  refine zs ?_
                  refine zs ?_
                  refine zs ?_
                  refine zr (zp false (zB false)) ?_
                  refine zM (zB false) ?_
                  exact AOps.nil rfl
              refine AWp.ret ?_
              exact ⟨.inl rfl, _, ResOf.one 2 (zB (bif (decide (c.per ≥ 1)) then (bif (decide (c.per ≤ 1000)) then (bif (decide (c.age ≥ 1)) then (bif (decide (c.age ≤ 1000)) then (bif (decide (c.ret ≥ 0)) then (bif (decide (c.ret ≤ 20)) then (bif (decide (c.ded ≥ 0)) then (decide (c.ded ≤ 100)) else false) else false) else false) else false) else false) else false) else false)) rfl rfl, ⟨congrArg (fun b => AV.lit (.bool b)) ((by rw [bif_and, bif_and, bif_and, bif_and, bif_and, bif_and, bif_and]; exact decide_eq_decide.2 ⟨fun hq => ⟨by omega, by omega, by omega, by omega, by omega, by omega, by omega, by omega, by omega, by first | assumption | exact all_thr (i := i) (by omega) hno, by omega, by omega, by omega, by omega, by omega, by omega, by omega, by omega⟩, fun hr => by obtain ⟨r1, r2, r3, r4, r5, r6, r7, r8, r9, r10, r11⟩ := hr; omega⟩)), rfl⟩⟩

set_option maxRecDepth 20000 in
theorem teq_any (ts us : List Thr) (hts : ts.length ≤ 140737488355328) (M : Nat → Option (List AV)) : ACall Tryz.prog 38 [.list false 40 (ts.map encT), .list false 40 (us.map encT)] M (fun r M' => r = zB (decide (ts = us)) ∧ M = M') := by
  refine ACall.of Tryz.func38 rfl (n := 26) rfl rfl rfl ?_
  refine zg ?_
  refine zM (zB false) ?_
  refine zN ?_
  refine AWp.seq ?_
  refine zg ?_
  refine zM (.list false 40 (ts.map encT)) ?_
  refine zr (zL (ts.map encT) ts.length Tryz.underlying25 (by simp)) ?_
  refine zM (.list false 40 (us.map encT)) ?_
  refine zr (zL (us.map encT) us.length Tryz.underlying25 (by simp)) ?_
  refine zr (zi ((ts.length : Int) != (us.length : Int))) ?_
  refine zN ?_
  refine zC (b := (ts.length : Int) != (us.length : Int)) rfl (fun h1 => ?_) (fun h1 => ?_)
  · skip
    have h1' : ts.length ≠ us.length := (by have hh := bne_iff_ne.1 h1; omega)
    clear h1
    refine zg ?_
    refine zM (zB false) ?_
    refine zN ?_
    refine AWp.ret ?_
    exact ⟨.inl rfl, _, ResOf.one 4 (zB false) rfl rfl, ⟨congrArg (fun b => AV.lit (.bool b)) (by first | exact teq_l (by omega) | exact teq_n (by assumption)), rfl⟩⟩
  · skip
    have h1' : ¬ (ts.length ≠ us.length) := (by have hh := bne_eq_false_iff_eq.1 h1; omega)
    clear h1
    refine AWp.skip ?_
    refine AWp.seq ?_
    refine zg ?_
    refine zM (.list false 40 (ts.map encT)) ?_
    refine zr (zL (ts.map encT) ts.length Tryz.underlying25 (by simp)) ?_
    refine zM (zI 0) ?_
    refine zN ?_
    refine AWp.block ?_
    refine AWp.loopE [0, 1, 12, 13] [] (fun m s => ∃ (i : Nat), m = ts.length - i ∧ s = ⟨[(0, .list false 40 (ts.map encT)), (1, .list false 40 (us.map encT)), (12, zI (ts.length : Int)), (13, zI (i : Int))], [], M⟩ ∧ (i ≤ ts.length) ∧ (∀ j, j < i → ts.getD j t0 = us.getD j t0)) ?_ ?_
    · exact ⟨_, 0, rfl, rfl, Nat.zero_le _, fun j hj => by omega⟩
    · rintro _ _ ⟨i, rfl, rfl, hi, hno⟩
      refine zg ?_
      refine zr (zi (decide ((i : Int) < (ts.length : Int)))) ?_
      refine zN ?_
      refine AWp.seq ?_
      refine zC (b := decide ((i : Int) < (ts.length : Int))) rfl (fun h2 => ?_) (fun h2 => ?_)
      · skip
        have h2' : i < ts.length := (by have hh := of_decide_eq_true h2; omega)
        clear h2
        refine AWp.skip ?_
        refine AWp.seq ?_
        refine AWp.block ?_
        refine zg ?_
        refine zM (zI (i : Int)) ?_
        refine zM (zI (i : Int)) ?_
        refine zN ?_
        refine AWp.seq (AWp.drawnAll (by kernel_rfl) (by kernel_rfl) ?_)
        refine ze (zm (.list false 40 (ts.map encT))) ?_
        refine ze (zm (zI (i : Int))) ?_
        refine ze (zel i (encT (ts.getD i t0)) Tryz.underlying25 sizeOf_40 (thr_at (by omega))) ?_
        refine ze (zlE (encT (ts.getD i t0)) Tryz.underlying40 sizeOf_40) ?_
        refine ze (zm (.list false 40 (us.map encT))) ?_
        refine ze (zm (zI (i : Int))) ?_
        refine ze (zel i (encT (us.getD i t0)) Tryz.underlying25 sizeOf_40 (thr_at (by omega))) ?_
        refine ze (zlE (encT (us.getD i t0)) Tryz.underlying40 sizeOf_40) ?_
        refine ze (Reader.eqAgg (us := [(.int .i64 ((ts.getD i t0).sig)), (.int .i64 ((ts.getD i t0).pct)), (.int .i64 ((ts.getD i t0).amt)), (.bool ((ts.getD i t0).soft)), (.int .i64 ((ts.getD i t0).gr))]) (vs := [(.int .i64 ((us.getD i t0).sig)), (.int .i64 ((us.getD i t0).pct)), (.int .i64 ((us.getD i t0).amt)), (.bool ((us.getD i t0).soft)), (.int .i64 ((us.getD i t0).gr))]) (b := ((((ts.getD i t0).sig) == ((us.getD i t0).sig)) && ((((ts.getD i t0).pct) == ((us.getD i t0).pct)) && ((((ts.getD i t0).amt) == ((us.getD i t0).amt)) && ((((ts.getD i t0).soft) == ((us.getD i t0).soft)) && ((((ts.getD i t0).gr) == ((us.getD i t0).gr)) && true)))))) (r := !(decide ((ts.getD i t0) = (us.getD i t0)))) 9 rfl rfl rfl ⟨_, rfl⟩ ⟨_, rfl⟩ Tryz.underlying40 rfl eqg_40 (by decide) rfl rfl (eqV_40 ((ts.getD i t0).sig) ((us.getD i t0).sig) ((ts.getD i t0).pct) ((us.getD i t0).pct) ((ts.getD i t0).amt) ((us.getD i t0).amt) ((ts.getD i t0).soft) ((us.getD i t0).soft) ((ts.getD i t0).gr) ((us.getD i t0).gr)) (.inr ⟨rfl, (congrArg (!·) (thrEq _ _).symm)⟩)) ?_
        refine AOpsE.nil ?_
        refine zC (b := !(decide ((ts.getD i t0) = (us.getD i t0)))) rfl (fun h3 => ?_) (fun h3 => ?_)
        · skip
          have h3' : ¬ (ts.getD i t0) = (us.getD i t0) := (of_decide_eq_false (bnot_t h3))
          clear h3
          refine zg ?_
          refine zM (zB false) ?_
          refine zN ?_
          refine AWp.ret ?_
          exact ⟨.inl rfl, _, ResOf.one 4 (zB false) rfl rfl, ⟨congrArg (fun b => AV.lit (.bool b)) (by first | exact teq_l (by omega) | exact teq_n (by assumption)), rfl⟩⟩
        · skip
          have h3' : (ts.getD i t0) = (us.getD i t0) := (of_decide_eq_true (bnot_f h3))
          clear h3
          refine AWp.skip ?_
          refine AWp.region ?_
          refine zr (zw ((i : Int) + 1) ((i + 1 : Nat) : Int)) ?_
          refine zM (zI ((i + 1 : Nat) : Int)) ?_
          refine zN ?_
          exact ⟨_, by omega, i + 1, rfl, rfl, by omega, nx_eq hno (by assumption)⟩
      · skip
        have h2' : ¬ (i < ts.length) := (by have hh := of_decide_eq_false h2; omega)
        clear h2
        refine AWp.exit ?_
        refine zg ?_
        refine zM (zB true) ?_
        refine zN ?_
        refine AWp.ret ?_
        exact ⟨.inl rfl, _, ResOf.one 4 (zB true) rfl rfl, ⟨congrArg (fun b => AV.lit (.bool b)) ((teq_y (by omega) (by omega) hno)), rfl⟩⟩

set_option maxRecDepth 20000 in
theorem CSame_any (c e : Cfg) (hl : c.thr.length ≤ 140737488355328) (M : Nat → Option (List AV)) : ACall Tryz.prog 17 [encC c, encC e] M (fun r M' => r = zB (decide (c = e)) ∧ M = M') := by
  refine ACall.of Tryz.func17 rfl (n := 52) rfl rfl rfl ?_
  refine zg ?_
  refine AOps.box trivial rfl (by decide) rfl (noL rfl) rfl (v := encC c) (.inl ⟨rfl, rfl⟩) rfl rfl (all_flat rfl) ?_
  refine AOps.freezeK 2 [0, 1, 2] [] (s' := ⟨[(0, encC c), (1, encC e), (2, .eptr (encC c) 0)], [], M⟩) rfl rfl rfl ?_
  refine AOps.box trivial rfl (by decide) rfl (noL rfl) rfl (v := encC e) (.inl ⟨rfl, rfl⟩) rfl rfl (all_flat rfl) ?_
  refine AOps.freezeK 3 [0, 1, 2, 3] [] (s' := ⟨[(0, encC c), (1, encC e), (2, .eptr (encC c) 0), (3, .eptr (encC e) 0)], [], M⟩) rfl rfl rfl ?_
  refine zM (zB false) ?_
  refine zN ?_
  refine zj 4 [(0, encC c), (1, encC e), (2, .eptr (encC c) 0), (3, .eptr (encC e) 0)] [] M (bif ((c.c0 == e.c0) && ((c.c1 == e.c1) && ((c.c2 == e.c2) && true))) then (bif ((c.a0 == e.a0) && ((c.a1 == e.a1) && ((c.a2 == e.a2) && true))) then (bif (decide (c.thr = e.thr)) then (bif (c.per == e.per) then (bif (c.ret == e.ret) then (bif (c.age == e.age) then (c.ded == e.ded) else false) else false) else false) else false) else false) else false) ?_ ?_
  · skip
    refine zr (zfE Tryz.underlying27 sizeOf_24) ?_
    refine zr (zlE (.agg [zI c.c0, zI c.c1, zI c.c2]) Tryz.underlying24 sizeOf_24) ?_
    refine zr (zfE Tryz.underlying27 sizeOf_24) ?_
    refine zr (zlE (.agg [zI e.c0, zI e.c1, zI e.c2]) Tryz.underlying24 sizeOf_24) ?_
    refine zr (Reader.eqAgg (us := [(.int .i64 c.c0), (.int .i64 c.c1), (.int .i64 c.c2)]) (vs := [(.int .i64 e.c0), (.int .i64 e.c1), (.int .i64 e.c2)]) (b := ((c.c0 == e.c0) && ((c.c1 == e.c1) && ((c.c2 == e.c2) && true)))) (r := ((c.c0 == e.c0) && ((c.c1 == e.c1) && ((c.c2 == e.c2) && true)))) 9 rfl rfl rfl ⟨_, rfl⟩ ⟨_, rfl⟩ Tryz.underlying24 rfl eqg_24 (by decide) rfl rfl (eqV_24 c.c0 e.c0 c.c1 e.c1 c.c2 e.c2) (.inl ⟨rfl, rfl⟩)) ?_
    refine zM (zB ((c.c0 == e.c0) && ((c.c1 == e.c1) && ((c.c2 == e.c2) && true)))) ?_
    refine AOps.splitJ (t := 10) (b := ((c.c0 == e.c0) && ((c.c1 == e.c1) && ((c.c2 == e.c2) && true)))) (x := (bif ((c.a0 == e.a0) && ((c.a1 == e.a1) && ((c.a2 == e.a2) && true))) then (bif (decide (c.thr = e.thr)) then (bif (c.per == e.per) then (bif (c.ret == e.ret) then (bif (c.age == e.age) then (c.ded == e.ded) else false) else false) else false) else false) else false)) (y := false) rfl (fun h1 => ?_) (fun h1 => ?_)
    · skip
      refine zr (zfE Tryz.underlying27 sizeOf_24) ?_
      refine zr (zlE (.agg [zI c.a0, zI c.a1, zI c.a2]) Tryz.underlying24 sizeOf_24) ?_
      refine zr (zfE Tryz.underlying27 sizeOf_24) ?_
      refine zr (zlE (.agg [zI e.a0, zI e.a1, zI e.a2]) Tryz.underlying24 sizeOf_24) ?_
      refine zr (Reader.eqAgg (us := [(.int .i64 c.a0), (.int .i64 c.a1), (.int .i64 c.a2)]) (vs := [(.int .i64 e.a0), (.int .i64 e.a1), (.int .i64 e.a2)]) (b := ((c.a0 == e.a0) && ((c.a1 == e.a1) && ((c.a2 == e.a2) && true)))) (r := ((c.a0 == e.a0) && ((c.a1 == e.a1) && ((c.a2 == e.a2) && true)))) 9 rfl rfl rfl ⟨_, rfl⟩ ⟨_, rfl⟩ Tryz.underlying24 rfl eqg_24 (by decide) rfl rfl (eqV_24 c.a0 e.a0 c.a1 e.a1 c.a2 e.a2) (.inl ⟨rfl, rfl⟩)) ?_
      refine zr (zp true (zB ((c.a0 == e.a0) && ((c.a1 == e.a1) && ((c.a2 == e.a2) && true))))) ?_
      refine zM (zB ((c.a0 == e.a0) && ((c.a1 == e.a1) && ((c.a2 == e.a2) && true)))) ?_
      refine AOps.splitJ (t := 17) (b := ((c.a0 == e.a0) && ((c.a1 == e.a1) && ((c.a2 == e.a2) && true)))) (x := (bif (decide (c.thr = e.thr)) then (bif (c.per == e.per) then (bif (c.ret == e.ret) then (bif (c.age == e.age) then (c.ded == e.ded) else false) else false) else false) else false)) (y := false) rfl (fun h2 => ?_) (fun h2 => ?_)
      · skip
        refine zr (zfE Tryz.underlying27 sizeOf_25) ?_
        refine zr (zlE (.list false 40 (c.thr.map encT)) Tryz.underlying25 sizeOf_25) ?_
        refine zr (zfE Tryz.underlying27 sizeOf_25) ?_
        refine zr (zlE (.list false 40 (e.thr.map encT)) Tryz.underlying25 sizeOf_25) ?_
        refine zc [.list false 40 (c.thr.map encT), .list false 40 (e.thr.map encT)] Tryz.call38 (teq_any c.thr e.thr (by omega) M) ?_
        rintro _ _ ⟨rfl, rfl⟩
        refine zr (zp true (zB (decide (c.thr = e.thr)))) ?_
        refine zM (zB (decide (c.thr = e.thr))) ?_
        refine AOps.splitJ (t := 24) (b := decide (c.thr = e.thr)) (x := (bif (c.per == e.per) then (bif (c.ret == e.ret) then (bif (c.age == e.age) then (c.ded == e.ded) else false) else false) else false)) (y := false) rfl (fun h3 => ?_) (fun h3 => ?_)
        · skip
          refine zr (zfE Tryz.underlying27 sizeOf_3) ?_
          refine zr (zlE (zI c.per) Tryz.underlying3 sizeOf_3) ?_
          refine zr (zfE Tryz.underlying27 sizeOf_3) ?_
          refine zr (zlE (zI e.per) Tryz.underlying3 sizeOf_3) ?_
          refine zr (zi (c.per == e.per)) ?_
          refine zr (zp true (zB (c.per == e.per))) ?_
          refine zM (zB (c.per == e.per)) ?_
          refine AOps.splitJ (t := 31) (b := c.per == e.per) (x := (bif (c.ret == e.ret) then (bif (c.age == e.age) then (c.ded == e.ded) else false) else false)) (y := false) rfl (fun h4 => ?_) (fun h4 => ?_)
          · skip
            have h4' : c.per = e.per := (by have hh := eq_of_beq h4; omega)
            clear h4
            refine zr (zfE Tryz.underlying27 sizeOf_3) ?_
            refine zr (zlE (zI c.ret) Tryz.underlying3 sizeOf_3) ?_
            refine zr (zfE Tryz.underlying27 sizeOf_3) ?_
            refine zr (zlE (zI e.ret) Tryz.underlying3 sizeOf_3) ?_
            refine zr (zi (c.ret == e.ret)) ?_
            refine zr (zp true (zB (c.ret == e.ret))) ?_
            refine zM (zB (c.ret == e.ret)) ?_
            refine AOps.splitJ (t := 38) (b := c.ret == e.ret) (x := (bif (c.age == e.age) then (c.ded == e.ded) else false)) (y := false) rfl (fun h5 => ?_) (fun h5 => ?_)
            · skip
              have h5' : c.ret = e.ret := (by have hh := eq_of_beq h5; omega)
              clear h5
              refine zr (zfE Tryz.underlying27 sizeOf_3) ?_
              refine zr (zlE (zI c.age) Tryz.underlying3 sizeOf_3) ?_
              refine zr (zfE Tryz.underlying27 sizeOf_3) ?_
              refine zr (zlE (zI e.age) Tryz.underlying3 sizeOf_3) ?_
              refine zr (zi (c.age == e.age)) ?_
              refine zr (zp true (zB (c.age == e.age))) ?_
              refine zM (zB (c.age == e.age)) ?_
              refine AOps.splitJ (t := 45) (b := c.age == e.age) (x := (c.ded == e.ded)) (y := false) rfl (fun h6 => ?_) (fun h6 => ?_)
              · skip
                have h6' : c.age = e.age := (by have hh := eq_of_beq h6; omega)
                clear h6
                refine zr (zfE Tryz.underlying27 sizeOf_3) ?_
                refine zr (zlE (zI c.ded) Tryz.underlying3 sizeOf_3) ?_
                refine zr (zfE Tryz.underlying27 sizeOf_3) ?_
                refine zr (zlE (zI e.ded) Tryz.underlying3 sizeOf_3) ?_
                refine zr (zi (c.ded == e.ded)) ?_
                refine zr (zp true (zB (c.ded == e.ded))) ?_
                refine zM (zB (c.ded == e.ded)) ?_
                exact AOps.nil rfl
              · skip
                have h6' : ¬ (c.age = e.age) := (by have hh := beq_eq_false_iff_ne.1 h6; omega)
                clear h6
                refine zs ?_
                refine zs ?_
                refine zs ?_
                refine zs ?_
                refine zs ?_
                refine zr (zp false (zB false)) ?_
                refine zM (zB false) ?_
                exact AOps.nil rfl
            · skip
              have h5' : ¬ (c.ret = e.ret) := (by have hh := beq_eq_false_iff_ne.1 h5; omega)
              clear h5
              refine zs ?_
              refine zs ?_
              refine zs ?_
              refine zs ?_
              refine zs ?_
              refine zr (zp false (zB false)) ?_
              refine zM (zB false) ?_
              refine zs ?_
              refine zs ?_
              refine zs ?_
              refine zs ?_
              refine zs ?_
              refine zr (zp false (zB false)) ?_
              refine zM (zB false) ?_
              exact AOps.nil rfl
          · skip
            have h4' : ¬ (c.per = e.per) := (by have hh := beq_eq_false_iff_ne.1 h4; omega)
            clear h4
            refine zs ?_
            refine zs ?_
            refine zs ?_
            refine zs ?_
            refine zs ?_
            refine zr (zp false (zB false)) ?_
            refine zM (zB false) ?_
            refine zs ?_
            refine zs ?_
            refine zs ?_
            refine zs ?_
            refine zs ?_
            refine zr (zp false (zB false)) ?_
            refine zM (zB false) ?_
            refine zs ?_
            refine zs ?_
            refine zs ?_
            refine zs ?_
            refine zs ?_
            refine zr (zp false (zB false)) ?_
            refine zM (zB false) ?_
            exact AOps.nil rfl
        · skip
          refine zs ?_
          refine zs ?_
          refine zs ?_
          refine zs ?_
          refine zs ?_
          refine zr (zp false (zB false)) ?_
          refine zM (zB false) ?_
          refine zs ?_
          refine zs ?_
          refine zs ?_
          refine zs ?_
          refine zs ?_
          refine zr (zp false (zB false)) ?_
          refine zM (zB false) ?_
          refine zs ?_
          refine zs ?_
          refine zs ?_
          refine zs ?_
          refine zs ?_
          refine zr (zp false (zB false)) ?_
          refine zM (zB false) ?_
          refine zs ?_
          refine zs ?_
          refine zs ?_
          refine zs ?_
          refine zs ?_
          refine zr (zp false (zB false)) ?_
          refine zM (zB false) ?_
          exact AOps.nil rfl
      · skip
        refine zs ?_
        refine zs ?_
        refine zs ?_
        refine zs ?_
        refine zs ?_
        refine zr (zp false (zB false)) ?_
        refine zM (zB false) ?_
        refine zs ?_
        refine zs ?_
        refine zs ?_
        refine zs ?_
        refine zs ?_
        refine zr (zp false (zB false)) ?_
        refine zM (zB false) ?_
        refine zs ?_
        refine zs ?_
        refine zs ?_
        refine zs ?_
        refine zs ?_
        refine zr (zp false (zB false)) ?_
        refine zM (zB false) ?_
        refine zs ?_
        refine zs ?_
        refine zs ?_
        refine zs ?_
        refine zs ?_
        refine zr (zp false (zB false)) ?_
        refine zM (zB false) ?_
        refine zs ?_
        refine zs ?_
        refine zs ?_
        refine zs ?_
        refine zs ?_
        refine zr (zp false (zB false)) ?_
        refine zM (zB false) ?_
        exact AOps.nil rfl
    · skip
      refine zs ?_
      refine zs ?_
      refine zs ?_
      refine zs ?_
      refine zs ?_
      refine zr (zp false (zB false)) ?_
      refine zM (zB false) ?_
      refine zs ?_
      refine zs ?_
      refine zs ?_
      refine zs ?_
      refine zs ?_
      refine zr (zp false (zB false)) ?_
      refine zM (zB false) ?_
      refine zs ?_
      refine zs ?_
      refine zs ?_
      refine zs ?_
      refine zs ?_
      refine zr (zp false (zB false)) ?_
      refine zM (zB false) ?_
      refine zs ?_
      refine zs ?_
      refine zs ?_
      refine zs ?_
      refine zs ?_
      refine zr (zp false (zB false)) ?_
      refine zM (zB false) ?_
      refine zs ?_
      refine zs ?_
      refine zs ?_
      refine zs ?_
      refine zs ?_
      refine zr (zp false (zB false)) ?_
      refine zM (zB false) ?_
      refine zs ?_
      refine zs ?_
      refine zs ?_
      refine zs ?_
      refine zs ?_
      refine zr (zp false (zB false)) ?_
      refine zM (zB false) ?_
      exact AOps.nil rfl
  refine AWp.ret ?_
  exact ⟨.inl rfl, _, ResOf.one 4 (zB (bif ((c.c0 == e.c0) && ((c.c1 == e.c1) && ((c.c2 == e.c2) && true))) then (bif ((c.a0 == e.a0) && ((c.a1 == e.a1) && ((c.a2 == e.a2) && true))) then (bif (decide (c.thr = e.thr)) then (bif (c.per == e.per) then (bif (c.ret == e.ret) then (bif (c.age == e.age) then (c.ded == e.ded) else false) else false) else false) else false) else false) else false)) rfl rfl, ⟨congrArg (fun b => AV.lit (.bool b)) (csame_b), rfl⟩⟩

set_option maxRecDepth 20000 in
theorem RSame_any (c e : Cfg) (hl : c.thr.length ≤ 140737488355328) (M : Nat → Option (List AV)) : ACall Tryz.prog 12 [encC c, encC e] M (fun r M' => r = zB (decide (c = e)) ∧ M = M') := by
  refine ACall.of Tryz.func12 rfl (n := 73) rfl rfl rfl ?_
  refine zg ?_
  refine AOps.box trivial rfl (by decide) rfl (noL rfl) rfl (v := encC c) (.inl ⟨rfl, rfl⟩) rfl rfl (all_flat rfl) ?_
  refine AOps.freezeK 2 [0, 1, 2] [] (s' := ⟨[(0, encC c), (1, encC e), (2, .eptr (encC c) 0)], [], M⟩) rfl rfl rfl ?_
  refine AOps.box trivial rfl (by decide) rfl (noL rfl) rfl (v := encC e) (.inl ⟨rfl, rfl⟩) rfl rfl (all_flat rfl) ?_
  refine AOps.freezeK 3 [0, 1, 2, 3] [] (s' := ⟨[(0, encC c), (1, encC e), (2, .eptr (encC c) 0), (3, .eptr (encC e) 0)], [], M⟩) rfl rfl rfl ?_
  refine zM (zB false) ?_
  refine zN ?_
  refine AWp.seq ?_
  refine zj 54 [(0, encC c), (1, encC e), (2, .eptr (encC c) 0), (3, .eptr (encC e) 0), (4, zB false)] [] M (bif (!((c.c0 == e.c0) && ((c.c1 == e.c1) && ((c.c2 == e.c2) && true)))) then true else (bif (!((c.a0 == e.a0) && ((c.a1 == e.a1) && ((c.a2 == e.a2) && true)))) then true else (bif ((c.thr.length : Int) != (e.thr.length : Int)) then true else (bif (c.per != e.per) then true else (bif (c.ret != e.ret) then true else (bif (c.age != e.age) then true else (c.ded != e.ded))))))) ?_ ?_
  · skip
    refine zr (zfE Tryz.underlying27 sizeOf_24) ?_
    refine zr (zlE (.agg [zI c.c0, zI c.c1, zI c.c2]) Tryz.underlying24 sizeOf_24) ?_
    refine zr (zfE Tryz.underlying27 sizeOf_24) ?_
    refine zr (zlE (.agg [zI e.c0, zI e.c1, zI e.c2]) Tryz.underlying24 sizeOf_24) ?_
    refine zr (Reader.eqAgg (us := [(.int .i64 c.c0), (.int .i64 c.c1), (.int .i64 c.c2)]) (vs := [(.int .i64 e.c0), (.int .i64 e.c1), (.int .i64 e.c2)]) (b := ((c.c0 == e.c0) && ((c.c1 == e.c1) && ((c.c2 == e.c2) && true)))) (r := !((c.c0 == e.c0) && ((c.c1 == e.c1) && ((c.c2 == e.c2) && true)))) 9 rfl rfl rfl ⟨_, rfl⟩ ⟨_, rfl⟩ Tryz.underlying24 rfl eqg_24 (by decide) rfl rfl (eqV_24 c.c0 e.c0 c.c1 e.c1 c.c2 e.c2) (.inr ⟨rfl, rfl⟩)) ?_
    refine zM (zB (!((c.c0 == e.c0) && ((c.c1 == e.c1) && ((c.c2 == e.c2) && true))))) ?_
    refine AOps.splitJ (t := 11) (b := !((c.c0 == e.c0) && ((c.c1 == e.c1) && ((c.c2 == e.c2) && true)))) (x := true) (y := (bif (!((c.a0 == e.a0) && ((c.a1 == e.a1) && ((c.a2 == e.a2) && true)))) then true else (bif ((c.thr.length : Int) != (e.thr.length : Int)) then true else (bif (c.per != e.per) then true else (bif (c.ret != e.ret) then true else (bif (c.age != e.age) then true else (c.ded != e.ded))))))) rfl (fun h1 => ?_) (fun h1 => ?_)
    · skip
      refine zs ?_
      refine zs ?_
      refine zs ?_
      refine zs ?_
      refine zs ?_
      refine zr (zp true (zB true)) ?_
      refine zM (zB true) ?_
      refine zs ?_
      refine zs ?_
      refine zs ?_
      refine zs ?_
      refine zs ?_
      refine zs ?_
      refine zs ?_
      refine zr (zp true (zB true)) ?_
      refine zM (zB true) ?_
      refine zs ?_
      refine zs ?_
      refine zs ?_
      refine zs ?_
      refine zs ?_
      refine zr (zp true (zB true)) ?_
      refine zM (zB true) ?_
      refine zs ?_
      refine zs ?_
      refine zs ?_
      refine zs ?_
      refine zs ?_
      refine zr (zp true (zB true)) ?_
      refine zM (zB true) ?_
      refine zs ?_
      refine zs ?_
      refine zs ?_
      refine zs ?_
      refine zs ?_
      refine zr (zp true (zB true)) ?_
      refine zM (zB true) ?_
      refine zs ?_
      refine zs ?_
      refine zs ?_
      refine zs ?_
      refine zs ?_
      refine zr (zp true (zB true)) ?_
      exact AOps.nil rfl
    · skip
      refine zr (zfE Tryz.underlying27 sizeOf_24) ?_
      refine zr (zlE (.agg [zI c.a0, zI c.a1, zI c.a2]) Tryz.underlying24 sizeOf_24) ?_
      refine zr (zfE Tryz.underlying27 sizeOf_24) ?_
      refine zr (zlE (.agg [zI e.a0, zI e.a1, zI e.a2]) Tryz.underlying24 sizeOf_24) ?_
      refine zr (Reader.eqAgg (us := [(.int .i64 c.a0), (.int .i64 c.a1), (.int .i64 c.a2)]) (vs := [(.int .i64 e.a0), (.int .i64 e.a1), (.int .i64 e.a2)]) (b := ((c.a0 == e.a0) && ((c.a1 == e.a1) && ((c.a2 == e.a2) && true)))) (r := !((c.a0 == e.a0) && ((c.a1 == e.a1) && ((c.a2 == e.a2) && true)))) 9 rfl rfl rfl ⟨_, rfl⟩ ⟨_, rfl⟩ Tryz.underlying24 rfl eqg_24 (by decide) rfl rfl (eqV_24 c.a0 e.a0 c.a1 e.a1 c.a2 e.a2) (.inr ⟨rfl, rfl⟩)) ?_
      refine zr (zp false (zB (!((c.a0 == e.a0) && ((c.a1 == e.a1) && ((c.a2 == e.a2) && true)))))) ?_
      refine zM (zB (!((c.a0 == e.a0) && ((c.a1 == e.a1) && ((c.a2 == e.a2) && true))))) ?_
      refine AOps.splitJ (t := 18) (b := !((c.a0 == e.a0) && ((c.a1 == e.a1) && ((c.a2 == e.a2) && true)))) (x := true) (y := (bif ((c.thr.length : Int) != (e.thr.length : Int)) then true else (bif (c.per != e.per) then true else (bif (c.ret != e.ret) then true else (bif (c.age != e.age) then true else (c.ded != e.ded)))))) rfl (fun h2 => ?_) (fun h2 => ?_)
      · skip
        refine zs ?_
        refine zs ?_
        refine zs ?_
        refine zs ?_
        refine zs ?_
        refine zs ?_
        refine zs ?_
        refine zr (zp true (zB true)) ?_
        refine zM (zB true) ?_
        refine zs ?_
        refine zs ?_
        refine zs ?_
        refine zs ?_
        refine zs ?_
        refine zr (zp true (zB true)) ?_
        refine zM (zB true) ?_
        refine zs ?_
        refine zs ?_
        refine zs ?_
        refine zs ?_
        refine zs ?_
        refine zr (zp true (zB true)) ?_
        refine zM (zB true) ?_
        refine zs ?_
        refine zs ?_
        refine zs ?_
        refine zs ?_
        refine zs ?_
        refine zr (zp true (zB true)) ?_
        refine zM (zB true) ?_
        refine zs ?_
        refine zs ?_
        refine zs ?_
        refine zs ?_
        refine zs ?_
        refine zr (zp true (zB true)) ?_
        exact AOps.nil rfl
      · skip
        refine zr (zfE Tryz.underlying27 sizeOf_25) ?_
        refine zr (zlE (.list false 40 (c.thr.map encT)) Tryz.underlying25 sizeOf_25) ?_
        refine zr (zL (c.thr.map encT) c.thr.length Tryz.underlying25 (by simp)) ?_
        refine zr (zfE Tryz.underlying27 sizeOf_25) ?_
        refine zr (zlE (.list false 40 (e.thr.map encT)) Tryz.underlying25 sizeOf_25) ?_
        refine zr (zL (e.thr.map encT) e.thr.length Tryz.underlying25 (by simp)) ?_
        refine zr (zi ((c.thr.length : Int) != (e.thr.length : Int))) ?_
        refine zr (zp false (zB ((c.thr.length : Int) != (e.thr.length : Int)))) ?_
        refine zM (zB ((c.thr.length : Int) != (e.thr.length : Int))) ?_
        refine AOps.splitJ (t := 27) (b := (c.thr.length : Int) != (e.thr.length : Int)) (x := true) (y := (bif (c.per != e.per) then true else (bif (c.ret != e.ret) then true else (bif (c.age != e.age) then true else (c.ded != e.ded))))) rfl (fun h3 => ?_) (fun h3 => ?_)
        · skip
          have h3' : c.thr.length ≠ e.thr.length := (by have hh := bne_iff_ne.1 h3; omega)
          clear h3
          refine zs ?_
          refine zs ?_
          refine zs ?_
          refine zs ?_
          refine zs ?_
          refine zr (zp true (zB true)) ?_
          refine zM (zB true) ?_
          refine zs ?_
          refine zs ?_
          refine zs ?_
          refine zs ?_
          refine zs ?_
          refine zr (zp true (zB true)) ?_
          refine zM (zB true) ?_
          refine zs ?_
          refine zs ?_
          refine zs ?_
          refine zs ?_
          refine zs ?_
          refine zr (zp true (zB true)) ?_
          refine zM (zB true) ?_
          refine zs ?_
          refine zs ?_
          refine zs ?_
          refine zs ?_
          refine zs ?_
          refine zr (zp true (zB true)) ?_
          exact AOps.nil rfl
        · skip
          have h3' : ¬ (c.thr.length ≠ e.thr.length) := (by have hh := bne_eq_false_iff_eq.1 h3; omega)
          clear h3
          refine zr (zfE Tryz.underlying27 sizeOf_3) ?_
          refine zr (zlE (zI c.per) Tryz.underlying3 sizeOf_3) ?_
          refine zr (zfE Tryz.underlying27 sizeOf_3) ?_
          refine zr (zlE (zI e.per) Tryz.underlying3 sizeOf_3) ?_
          refine zr (zi (c.per != e.per)) ?_
          refine zr (zp false (zB (c.per != e.per))) ?_
          refine zM (zB (c.per != e.per)) ?_
          refine AOps.splitJ (t := 34) (b := c.per != e.per) (x := true) (y := (bif (c.ret != e.ret) then true else (bif (c.age != e.age) then true else (c.ded != e.ded)))) rfl (fun h4 => ?_) (fun h4 => ?_)
          · skip
            have h4' : c.per ≠ e.per := (by have hh := bne_iff_ne.1 h4; omega)
            clear h4
            refine zs ?_
            refine zs ?_
            refine zs ?_
            refine zs ?_
            refine zs ?_
            refine zr (zp true (zB true)) ?_
            refine zM (zB true) ?_
            refine zs ?_
            refine zs ?_
            refine zs ?_
            refine zs ?_
            refine zs ?_
            refine zr (zp true (zB true)) ?_
            refine zM (zB true) ?_
            refine zs ?_
            refine zs ?_
            refine zs ?_
            refine zs ?_
            refine zs ?_
            refine zr (zp true (zB true)) ?_
            exact AOps.nil rfl
          · skip
            have h4' : ¬ (c.per ≠ e.per) := (by have hh := bne_eq_false_iff_eq.1 h4; omega)
            clear h4
            refine zr (zfE Tryz.underlying27 sizeOf_3) ?_
            refine zr (zlE (zI c.ret) Tryz.underlying3 sizeOf_3) ?_
            refine zr (zfE Tryz.underlying27 sizeOf_3) ?_
            refine zr (zlE (zI e.ret) Tryz.underlying3 sizeOf_3) ?_
            refine zr (zi (c.ret != e.ret)) ?_
            refine zr (zp false (zB (c.ret != e.ret))) ?_
            refine zM (zB (c.ret != e.ret)) ?_
            refine AOps.splitJ (t := 41) (b := c.ret != e.ret) (x := true) (y := (bif (c.age != e.age) then true else (c.ded != e.ded))) rfl (fun h5 => ?_) (fun h5 => ?_)
            · skip
              have h5' : c.ret ≠ e.ret := (by have hh := bne_iff_ne.1 h5; omega)
              clear h5
              refine zs ?_
              refine zs ?_
              refine zs ?_
              refine zs ?_
              refine zs ?_
              refine zr (zp true (zB true)) ?_
              refine zM (zB true) ?_
              refine zs ?_
              refine zs ?_
              refine zs ?_
              refine zs ?_
              refine zs ?_
              refine zr (zp true (zB true)) ?_
              exact AOps.nil rfl
            · skip
              have h5' : ¬ (c.ret ≠ e.ret) := (by have hh := bne_eq_false_iff_eq.1 h5; omega)
              clear h5
              refine zr (zfE Tryz.underlying27 sizeOf_3) ?_
              refine zr (zlE (zI c.age) Tryz.underlying3 sizeOf_3) ?_
              refine zr (zfE Tryz.underlying27 sizeOf_3) ?_
              refine zr (zlE (zI e.age) Tryz.underlying3 sizeOf_3) ?_
              refine zr (zi (c.age != e.age)) ?_
              refine zr (zp false (zB (c.age != e.age))) ?_
              refine zM (zB (c.age != e.age)) ?_
              refine AOps.splitJ (t := 48) (b := c.age != e.age) (x := true) (y := (c.ded != e.ded)) rfl (fun h6 => ?_) (fun h6 => ?_)
              · skip
                have h6' : c.age ≠ e.age := (by have hh := bne_iff_ne.1 h6; omega)
                clear h6
                refine zs ?_
                refine zs ?_
                refine zs ?_
                refine zs ?_
                refine zs ?_
                refine zr (zp true (zB true)) ?_
                exact AOps.nil rfl
              · skip
                have h6' : ¬ (c.age ≠ e.age) := (by have hh := bne_eq_false_iff_eq.1 h6; omega)
                clear h6
                refine zr (zfE Tryz.underlying27 sizeOf_3) ?_
                refine zr (zlE (zI c.ded) Tryz.underlying3 sizeOf_3) ?_
                refine zr (zfE Tryz.underlying27 sizeOf_3) ?_
                refine zr (zlE (zI e.ded) Tryz.underlying3 sizeOf_3) ?_
                refine zr (zi (c.ded != e.ded)) ?_
                refine zr (zp false (zB (c.ded != e.ded))) ?_
                exact AOps.nil rfl
  refine zC (b := bif (!((c.c0 == e.c0) && ((c.c1 == e.c1) && ((c.c2 == e.c2) && true)))) then true else (bif (!((c.a0 == e.a0) && ((c.a1 == e.a1) && ((c.a2 == e.a2) && true)))) then true else (bif ((c.thr.length : Int) != (e.thr.length : Int)) then true else (bif (c.per != e.per) then true else (bif (c.ret != e.ret) then true else (bif (c.age != e.age) then true else (c.ded != e.ded))))))) rfl (fun h7 => ?_) (fun h7 => ?_)
  · skip
    have h7' : CfN c e := (cfn_t h7 cfn_b)
    clear h7
    refine zg ?_
    refine zM (zB false) ?_
    refine zN ?_
    refine AWp.ret ?_
    exact ⟨.inl rfl, _, ResOf.one 4 (zB false) rfl rfl, ⟨congrArg (fun b => AV.lit (.bool b)) ((decide_eq_false (by rintro rfl; simp_all [CfN])).symm), rfl⟩⟩
  · skip
    have h7' : ¬ CfN c e := (cfn_f h7 cfn_b)
    clear h7
    refine AWp.skip ?_
    refine AWp.seq ?_
    refine zg ?_
    refine zM (zI 0) ?_
    refine zN ?_
    refine AWp.block ?_
    refine AWp.loopE [2, 3, 4, 5] [] (fun m s => ∃ (i : Nat), m = c.thr.length - i ∧ s = ⟨[(2, .eptr (encC c) 0), (3, .eptr (encC e) 0), (4, zB false), (5, zI (i : Int))], [], M⟩ ∧ (i ≤ c.thr.length) ∧ (∀ j, j < i → c.thr.getD j t0 = e.thr.getD j t0)) ?_ ?_
    · exact ⟨_, 0, rfl, rfl, Nat.zero_le _, fun j hj => by omega⟩
    · rintro _ _ ⟨i, rfl, rfl, hi, hno⟩
      have hle := cfn_len (by assumption)
      refine AWp.seq ?_
      refine zg ?_
      refine zM (zI (i : Int)) ?_
      refine zr (zfE Tryz.underlying27 sizeOf_25) ?_
      refine zr (zlE (.list false 40 (c.thr.map encT)) Tryz.underlying25 sizeOf_25) ?_
      refine zr (zL (c.thr.map encT) c.thr.length Tryz.underlying25 (by simp)) ?_
      refine zr (zi (decide ((i : Int) < (c.thr.length : Int)))) ?_
      refine zN ?_
      refine zC (b := decide ((i : Int) < (c.thr.length : Int))) rfl (fun h8 => ?_) (fun h8 => ?_)
      · skip
        have h8' : i < c.thr.length := (by have hh := of_decide_eq_true h8; omega)
        clear h8
        refine AWp.skip ?_
        refine AWp.seq ?_
        refine AWp.block ?_
        refine AWp.seq (AWp.drawnAll (by kernel_rfl) (by kernel_rfl) ?_)
        refine ze (zfE Tryz.underlying27 sizeOf_25) ?_
        refine ze (zlE (.list false 40 (c.thr.map encT)) Tryz.underlying25 sizeOf_25) ?_
        refine ze (zm (zI (i : Int))) ?_
        refine ze (zel i (encT (c.thr.getD i t0)) Tryz.underlying25 sizeOf_40 (thr_at (by omega))) ?_
        refine ze (zlE (encT (c.thr.getD i t0)) Tryz.underlying40 sizeOf_40) ?_
        refine ze (zfE Tryz.underlying27 sizeOf_25) ?_
        refine ze (zlE (.list false 40 (e.thr.map encT)) Tryz.underlying25 sizeOf_25) ?_
        refine ze (zm (zI (i : Int))) ?_
        refine ze (zel i (encT (e.thr.getD i t0)) Tryz.underlying25 sizeOf_40 (thr_at (by omega))) ?_
        refine ze (zlE (encT (e.thr.getD i t0)) Tryz.underlying40 sizeOf_40) ?_
        refine ze (Reader.eqAgg (us := [(.int .i64 ((c.thr.getD i t0).sig)), (.int .i64 ((c.thr.getD i t0).pct)), (.int .i64 ((c.thr.getD i t0).amt)), (.bool ((c.thr.getD i t0).soft)), (.int .i64 ((c.thr.getD i t0).gr))]) (vs := [(.int .i64 ((e.thr.getD i t0).sig)), (.int .i64 ((e.thr.getD i t0).pct)), (.int .i64 ((e.thr.getD i t0).amt)), (.bool ((e.thr.getD i t0).soft)), (.int .i64 ((e.thr.getD i t0).gr))]) (b := ((((c.thr.getD i t0).sig) == ((e.thr.getD i t0).sig)) && ((((c.thr.getD i t0).pct) == ((e.thr.getD i t0).pct)) && ((((c.thr.getD i t0).amt) == ((e.thr.getD i t0).amt)) && ((((c.thr.getD i t0).soft) == ((e.thr.getD i t0).soft)) && ((((c.thr.getD i t0).gr) == ((e.thr.getD i t0).gr)) && true)))))) (r := !(decide ((c.thr.getD i t0) = (e.thr.getD i t0)))) 9 rfl rfl rfl ⟨_, rfl⟩ ⟨_, rfl⟩ Tryz.underlying40 rfl eqg_40 (by decide) rfl rfl (eqV_40 ((c.thr.getD i t0).sig) ((e.thr.getD i t0).sig) ((c.thr.getD i t0).pct) ((e.thr.getD i t0).pct) ((c.thr.getD i t0).amt) ((e.thr.getD i t0).amt) ((c.thr.getD i t0).soft) ((e.thr.getD i t0).soft) ((c.thr.getD i t0).gr) ((e.thr.getD i t0).gr)) (.inr ⟨rfl, (congrArg (!·) (thrEq _ _).symm)⟩)) ?_
        refine AOpsE.nil ?_
        refine zC (b := !(decide ((c.thr.getD i t0) = (e.thr.getD i t0)))) rfl (fun h9 => ?_) (fun h9 => ?_)
        · skip
          have h9' : ¬ (c.thr.getD i t0) = (e.thr.getD i t0) := (of_decide_eq_false (bnot_t h9))
          clear h9
          refine zg ?_
          refine zM (zB false) ?_
          refine zN ?_
          refine AWp.ret ?_
          exact ⟨.inl rfl, _, ResOf.one 4 (zB false) rfl rfl, ⟨congrArg (fun b => AV.lit (.bool b)) ((decide_eq_false (by rintro rfl; simp_all [CfN])).symm), rfl⟩⟩
        · skip
          have h9' : (c.thr.getD i t0) = (e.thr.getD i t0) := (of_decide_eq_true (bnot_f h9))
          clear h9
          refine AWp.skip ?_
          refine AWp.region ?_
          refine zM (zI (i : Int)) ?_
          refine zr (zw ((i : Int) + 1) ((i + 1 : Nat) : Int)) ?_
          refine zM (zI ((i + 1 : Nat) : Int)) ?_
          refine zN ?_
          exact ⟨_, by omega, i + 1, rfl, rfl, by omega, nx_eq hno (by assumption)⟩
      · skip
        have h8' : ¬ (i < c.thr.length) := (by have hh := of_decide_eq_false h8; omega)
        clear h8
        refine AWp.exit ?_
        refine zg ?_
        refine zM (zB true) ?_
        refine zN ?_
        refine AWp.ret ?_
        exact ⟨.inl rfl, _, ResOf.one 4 (zB true) rfl rfl, ⟨congrArg (fun b => AV.lit (.bool b)) ((decide_eq_true (cf_ext (by assumption) (teq_of (by omega) (by omega) hno))).symm), rfl⟩⟩
end
section
open Go.RowKit
/-- Where a key's numbers stand. -/
def ptrs (cid : Nat) (k : Int) : List AV :=
  if k = 0 then [.gptr cid 0, .gptr cid 1, .gptr cid 2] else if k = 1 then [.gptr cid 3, .gptr cid 4, .gptr cid 5] else if k = 2 then [.gptr cid 7] else if k = 3 then [.gptr cid 8] else if k = 4 then [.gptr cid 9] else if k = 5 then [.gptr cid 10] else []
def numS (cid : Nat) : List (List UInt8 × AV) := [(cpL, .list false 78 (ptrs cid 0)), (alL, .list false 78 (ptrs cid 1)), (peL, .list false 78 (ptrs cid 2)), (reL, .list false 78 (ptrs cid 3)), (agL, .list false 78 (ptrs cid 4)), (deL, .list false 78 (ptrs cid 5))]
def FitsL (k : Int) (l : List Field) : Prop := l.length = (if k < 2 then 3 else 1) ∧ ∀ f ∈ l, qe f.text = 0
theorem qe_2 {t : List UInt8} (h : qe t ≠ 0) : qe t = 2 := by
  unfold qe at h ⊢; split <;> simp_all
theorem num_all (cid : Nat) (w : List UInt8) : (0 ≤ kOf w ∧ (w, AV.list false 78 (ptrs cid (kOf w))) ∈ numS cid ∧ ∀ p ∈ numS cid, w = p.1 → p.2 = AV.list false 78 (ptrs cid (kOf w))) ∨ (kOf w = -1 ∧ ∀ p ∈ numS cid, w ≠ p.1) := by
  rcases k_cases w with ⟨h, h2⟩ | ⟨h, rfl⟩ | ⟨h, rfl⟩ | ⟨h, rfl⟩ | ⟨h, rfl⟩ | ⟨h, rfl⟩ | ⟨h, rfl⟩
  · refine .inr ⟨h, fun p hp e => h2 ?_⟩
    have hm : ∀ p ∈ numS cid, p.1 ∈ cwL := by
      intro p hp
      simp only [numS, List.mem_cons, List.not_mem_nil, or_false] at hp
      rcases hp with rfl | rfl | rfl | rfl | rfl | rfl <;> simp [cwL]
    rw [e]; exact hm p hp
  all_goals
    rw [h]
    refine .inl ⟨by decide, by simp [numS], fun p hp e => ?_⟩
    simp only [numS, List.mem_cons, List.not_mem_nil, or_false] at hp
    rcases hp with rfl | rfl | rfl | rfl | rfl | rfl <;> first | rfl | (simp only at e; exact absurd e (by decide))

set_option maxRecDepth 20000 in
theorem numbers_any (cid : Nat) (M : Nat → Option (List AV)) : ACall Tryz.prog 21 [.gptr cid 0] M (fun r M' => ∃ id T, r = .gmap id ∧ M id = none ∧ T.Perm (numS cid) ∧ M' = setM M id (mapA T)) := by
  refine ACall.of Tryz.func21 rfl (n := 47) rfl rfl rfl ?_
  refine zg ?_
  refine zM (.lit (.map none)) ?_
  refine zN ?_
  refine AWp.seq (AWp.anyMs [0, 2] [] 0 (fun id => [[(3, .gmap id)], [(4, .gptr cid 0)], [(5, .gptr cid 0)], [(6, .gptr cid 0)], [(7, .gptr cid 0)], [(8, .gptr cid 0)], [(9, .gptr cid 0)], [(10, .gptr cid 0)], [(11, .gptr cid 1)], [(12, .gptr cid 0)], [(13, .gptr cid 0)], [(14, .gptr cid 0)], [(15, .gptr cid 2)], [(16, .list true 78 [.gptr cid 0, .gptr cid 1, .gptr cid 2])], [], [(17, .gptr cid 0)], [(18, .gptr cid 0)], [(19, .gptr cid 3)], [(20, .gptr cid 3)], [(21, .gptr cid 0)], [(22, .gptr cid 0)], [(23, .gptr cid 3)], [(24, .gptr cid 4)], [(25, .gptr cid 0)], [(26, .gptr cid 0)], [(27, .gptr cid 3)], [(28, .gptr cid 5)], [(29, .list true 78 [.gptr cid 3, .gptr cid 4, .gptr cid 5])], [], [(30, .gptr cid 0)], [(31, .gptr cid 0)], [(32, .gptr cid 7)], [(33, .list true 78 [.gptr cid 7])], [], [(34, .gptr cid 0)], [(35, .gptr cid 0)], [(36, .gptr cid 8)], [(37, .list true 78 [.gptr cid 8])], [], [(38, .gptr cid 0)], [(39, .gptr cid 0)], [(40, .gptr cid 9)], [(41, .list true 78 [.gptr cid 9])], [], [(42, .gptr cid 0)], [(43, .gptr cid 0)], [(44, .gptr cid 10)], [(45, .list true 78 [.gptr cid 10])], [], [(46, .gmap id)], [(2, .gmap id)]]) (fun id => [[], [(0, none, .gptr cid 0)], [(4, some 1, .gptr cid 0)], [(5, some 2, .gptr cid 0)], [(6, some 3, .gptr cid 0)], [(0, none, .gptr cid 0)], [(8, some 5, .gptr cid 0)], [(9, some 6, .gptr cid 0)], [(10, some 7, .gptr cid 0)], [(0, none, .gptr cid 0)], [(12, some 9, .gptr cid 0)], [(13, some 10, .gptr cid 0)], [(14, some 11, .gptr cid 0)], [(7, some 4, .gptr cid 0), (11, some 8, .gptr cid 1), (15, some 12, .gptr cid 2)], [(3, some 0, .gmap id), (16, some 13, .list true 78 [.gptr cid 0, .gptr cid 1, .gptr cid 2])], [(0, none, .gptr cid 0)], [(17, some 15, .gptr cid 0)], [(18, some 16, .gptr cid 0)], [(19, some 17, .gptr cid 3)], [(0, none, .gptr cid 0)], [(21, some 19, .gptr cid 0)], [(22, some 20, .gptr cid 0)], [(23, some 21, .gptr cid 3)], [(0, none, .gptr cid 0)], [(25, some 23, .gptr cid 0)], [(26, some 24, .gptr cid 0)], [(27, some 25, .gptr cid 3)], [(20, some 18, .gptr cid 3), (24, some 22, .gptr cid 4), (28, some 26, .gptr cid 5)], [(3, some 0, .gmap id), (29, some 27, .list true 78 [.gptr cid 3, .gptr cid 4, .gptr cid 5])], [(0, none, .gptr cid 0)], [(30, some 29, .gptr cid 0)], [(31, some 30, .gptr cid 0)], [(32, some 31, .gptr cid 7)], [(3, some 0, .gmap id), (33, some 32, .list true 78 [.gptr cid 7])], [(0, none, .gptr cid 0)], [(34, some 34, .gptr cid 0)], [(35, some 35, .gptr cid 0)], [(36, some 36, .gptr cid 8)], [(3, some 0, .gmap id), (37, some 37, .list true 78 [.gptr cid 8])], [(0, none, .gptr cid 0)], [(38, some 39, .gptr cid 0)], [(39, some 40, .gptr cid 0)], [(40, some 41, .gptr cid 9)], [(3, some 0, .gmap id), (41, some 42, .list true 78 [.gptr cid 9])], [(0, none, .gptr cid 0)], [(42, some 44, .gptr cid 0)], [(43, some 45, .gptr cid 0)], [(44, some 46, .gptr cid 10)], [(3, some 0, .gmap id), (45, some 47, .list true 78 [.gptr cid 10])], [(3, some 0, .gmap id)], [(46, some 49, .gmap id)]]) [(14, [99, 97, 112, 97, 99, 105, 116, 121], .list false 78 [.gptr cid 0, .gptr cid 1, .gptr cid 2]), (28, [97, 108, 108, 111, 99, 97, 116, 97, 98, 108, 101], .list false 78 [.gptr cid 3, .gptr cid 4, .gptr cid 5]), (33, [112, 101, 114, 105, 111, 100], .list false 78 [.gptr cid 7]), (38, [114, 101, 116, 114, 105, 101, 115], .list false 78 [.gptr cid 8]), (43, [109, 97, 120, 97, 103, 101], .list false 78 [.gptr cid 9]), (48, [100, 101, 97, 100], .list false 78 [.gptr cid 10])] ?_ ?_)
  · skip
    refine hmN ?_
    refine hmV (fun id fr mem h => ?_) ?_
    · obtain ⟨_h0, -⟩ := h
      refine zM (.gptr cid 0) ?_
      exact zN rfl
    refine hmV (fun id fr mem h => ?_) ?_
    · obtain ⟨_h0, -⟩ := h
      refine zr (znc (.gptr cid 0)) ?_
      exact zN rfl
    refine hmV (fun id fr mem h => ?_) ?_
    · obtain ⟨_h0, -⟩ := h
      refine zr (zfG Tryz.underlying27 sizeOf_24) ?_
      exact zN rfl
    refine hmV (fun id fr mem h => ?_) ?_
    · obtain ⟨_h0, -⟩ := h
      refine zr (ziG 0 Tryz.underlying24 sizeOf_3) ?_
      exact zN rfl
    refine hmV (fun id fr mem h => ?_) ?_
    · obtain ⟨_h0, -⟩ := h
      refine zM (.gptr cid 0) ?_
      exact zN rfl
    refine hmV (fun id fr mem h => ?_) ?_
    · obtain ⟨_h0, -⟩ := h
      refine zr (znc (.gptr cid 0)) ?_
      exact zN rfl
    refine hmV (fun id fr mem h => ?_) ?_
    · obtain ⟨_h0, -⟩ := h
      refine zr (zfG Tryz.underlying27 sizeOf_24) ?_
      exact zN rfl
    refine hmV (fun id fr mem h => ?_) ?_
    · obtain ⟨_h0, -⟩ := h
      refine zr (ziG 1 Tryz.underlying24 sizeOf_3) ?_
      exact zN rfl
    refine hmV (fun id fr mem h => ?_) ?_
    · obtain ⟨_h0, -⟩ := h
      refine zM (.gptr cid 0) ?_
      exact zN rfl
    refine hmV (fun id fr mem h => ?_) ?_
    · obtain ⟨_h0, -⟩ := h
      refine zr (znc (.gptr cid 0)) ?_
      exact zN rfl
    refine hmV (fun id fr mem h => ?_) ?_
    · obtain ⟨_h0, -⟩ := h
      refine zr (zfG Tryz.underlying27 sizeOf_24) ?_
      exact zN rfl
    refine hmV (fun id fr mem h => ?_) ?_
    · obtain ⟨_h0, -⟩ := h
      refine zr (ziG 2 Tryz.underlying24 sizeOf_3) ?_
      exact zN rfl
    refine hmV (fun id fr mem h => ?_) ?_
    · obtain ⟨_h0, _h1, _h2, -⟩ := h
      refine zbS [] [.gptr cid 0, .gptr cid 1, .gptr cid 2] Tryz.underlying75 Tryz.i78 ?_
      exact zN rfl
    refine hmI 0 Tryz.underlying51 Tryz.underlying9 ?_
    refine hmV (fun id fr mem h => ?_) ?_
    · obtain ⟨_h0, -⟩ := h
      refine zM (.gptr cid 0) ?_
      exact zN rfl
    refine hmV (fun id fr mem h => ?_) ?_
    · obtain ⟨_h0, -⟩ := h
      refine zr (znc (.gptr cid 0)) ?_
      exact zN rfl
    refine hmV (fun id fr mem h => ?_) ?_
    · obtain ⟨_h0, -⟩ := h
      refine zr (zfG Tryz.underlying27 sizeOf_24) ?_
      exact zN rfl
    refine hmV (fun id fr mem h => ?_) ?_
    · obtain ⟨_h0, -⟩ := h
      refine zr (ziG 0 Tryz.underlying24 sizeOf_3) ?_
      exact zN rfl
    refine hmV (fun id fr mem h => ?_) ?_
    · obtain ⟨_h0, -⟩ := h
      refine zM (.gptr cid 0) ?_
      exact zN rfl
    refine hmV (fun id fr mem h => ?_) ?_
    · obtain ⟨_h0, -⟩ := h
      refine zr (znc (.gptr cid 0)) ?_
      exact zN rfl
    refine hmV (fun id fr mem h => ?_) ?_
    · obtain ⟨_h0, -⟩ := h
      refine zr (zfG Tryz.underlying27 sizeOf_24) ?_
      exact zN rfl
    refine hmV (fun id fr mem h => ?_) ?_
    · obtain ⟨_h0, -⟩ := h
      refine zr (ziG 1 Tryz.underlying24 sizeOf_3) ?_
      exact zN rfl
    refine hmV (fun id fr mem h => ?_) ?_
    · obtain ⟨_h0, -⟩ := h
      refine zM (.gptr cid 0) ?_
      exact zN rfl
    refine hmV (fun id fr mem h => ?_) ?_
    · obtain ⟨_h0, -⟩ := h
      refine zr (znc (.gptr cid 0)) ?_
      exact zN rfl
    refine hmV (fun id fr mem h => ?_) ?_
    · obtain ⟨_h0, -⟩ := h
      refine zr (zfG Tryz.underlying27 sizeOf_24) ?_
      exact zN rfl
    refine hmV (fun id fr mem h => ?_) ?_
    · obtain ⟨_h0, -⟩ := h
      refine zr (ziG 2 Tryz.underlying24 sizeOf_3) ?_
      exact zN rfl
    refine hmV (fun id fr mem h => ?_) ?_
    · obtain ⟨_h0, _h1, _h2, -⟩ := h
      refine zbS [] [.gptr cid 3, .gptr cid 4, .gptr cid 5] Tryz.underlying75 Tryz.i78 ?_
      exact zN rfl
    refine hmI 1 Tryz.underlying51 Tryz.underlying9 ?_
    refine hmV (fun id fr mem h => ?_) ?_
    · obtain ⟨_h0, -⟩ := h
      refine zM (.gptr cid 0) ?_
      exact zN rfl
    refine hmV (fun id fr mem h => ?_) ?_
    · obtain ⟨_h0, -⟩ := h
      refine zr (znc (.gptr cid 0)) ?_
      exact zN rfl
    refine hmV (fun id fr mem h => ?_) ?_
    · obtain ⟨_h0, -⟩ := h
      refine zr (zfG Tryz.underlying27 sizeOf_3) ?_
      exact zN rfl
    refine hmV (fun id fr mem h => ?_) ?_
    · obtain ⟨_h0, -⟩ := h
      refine zbS [] [.gptr cid 7] Tryz.underlying75 Tryz.i78 ?_
      exact zN rfl
    refine hmI 2 Tryz.underlying51 Tryz.underlying9 ?_
    refine hmV (fun id fr mem h => ?_) ?_
    · obtain ⟨_h0, -⟩ := h
      refine zM (.gptr cid 0) ?_
      exact zN rfl
    refine hmV (fun id fr mem h => ?_) ?_
    · obtain ⟨_h0, -⟩ := h
      refine zr (znc (.gptr cid 0)) ?_
      exact zN rfl
    refine hmV (fun id fr mem h => ?_) ?_
    · obtain ⟨_h0, -⟩ := h
      refine zr (zfG Tryz.underlying27 sizeOf_3) ?_
      exact zN rfl
    refine hmV (fun id fr mem h => ?_) ?_
    · obtain ⟨_h0, -⟩ := h
      refine zbS [] [.gptr cid 8] Tryz.underlying75 Tryz.i78 ?_
      exact zN rfl
    refine hmI 3 Tryz.underlying51 Tryz.underlying9 ?_
    refine hmV (fun id fr mem h => ?_) ?_
    · obtain ⟨_h0, -⟩ := h
      refine zM (.gptr cid 0) ?_
      exact zN rfl
    refine hmV (fun id fr mem h => ?_) ?_
    · obtain ⟨_h0, -⟩ := h
      refine zr (znc (.gptr cid 0)) ?_
      exact zN rfl
    refine hmV (fun id fr mem h => ?_) ?_
    · obtain ⟨_h0, -⟩ := h
      refine zr (zfG Tryz.underlying27 sizeOf_3) ?_
      exact zN rfl
    refine hmV (fun id fr mem h => ?_) ?_
    · obtain ⟨_h0, -⟩ := h
      refine zbS [] [.gptr cid 9] Tryz.underlying75 Tryz.i78 ?_
      exact zN rfl
    refine hmI 4 Tryz.underlying51 Tryz.underlying9 ?_
    refine hmV (fun id fr mem h => ?_) ?_
    · obtain ⟨_h0, -⟩ := h
      refine zM (.gptr cid 0) ?_
      exact zN rfl
    refine hmV (fun id fr mem h => ?_) ?_
    · obtain ⟨_h0, -⟩ := h
      refine zr (znc (.gptr cid 0)) ?_
      exact zN rfl
    refine hmV (fun id fr mem h => ?_) ?_
    · obtain ⟨_h0, -⟩ := h
      refine zr (zfG Tryz.underlying27 sizeOf_3) ?_
      exact zN rfl
    refine hmV (fun id fr mem h => ?_) ?_
    · obtain ⟨_h0, -⟩ := h
      refine zbS [] [.gptr cid 10] Tryz.underlying75 Tryz.i78 ?_
      exact zN rfl
    refine hmI 5 Tryz.underlying51 Tryz.underlying9 ?_
    refine hmV (fun id fr mem h => ?_) ?_
    · obtain ⟨_h0, -⟩ := h
      refine zM (.gmap id) ?_
      exact zN rfl
    refine hmV (fun id fr mem h => ?_) ?_
    · obtain ⟨_h0, -⟩ := h
      refine zM (.gmap id) ?_
      exact zN rfl
    exact hm0
  intro id1 T1 hid1n hT1
  refine ⟨⟨[(0, .gptr cid 0), (2, .gmap id1)], [], (setM M id1 (mapA T1))⟩, rfl, ?_⟩
  refine AWp.ret ?_
  exact ⟨.inl rfl, _, ResOf.one 2 (.gmap id1) rfl rfl, ⟨id1, T1, rfl, hid1n, hT1, rfl⟩⟩

set_option maxRecDepth 20000 in
theorem fill_ok0 (M : Nat → Option (List AV)) (c : Cfg) (cid : Nat) (fa fb fc : Field) (hlen : ∀ f ∈ [fa, fb, fc], f.text.length ≤ 4294967280) (hM : M cid = some (cells true c))  : ACall Tryz.prog 45 [.list false 78 [.gptr cid 0, .gptr cid 1, .gptr cid 2], .list false 50 (([fa, fb, fc] : List Field).map encF)] M (fun r M' => ∃ e c', r = zI e ∧ M' = setM M cid (cells true c') ∧ ((e = 0 ∧ FitsL 0 [fa, fb, fc] ∧ c' = setC c 0 ([fa, fb, fc].map fun f => (qv f.text : Int))) ∨ (e = 2 ∧ ¬ FitsL 0 [fa, fb, fc]))) := by
  have hlfa := hlen fa (by simp)
  have hlfb := hlen fb (by simp)
  have hlfc := hlen fc (by simp)
  refine ACall.of Tryz.func45 rfl (n := 37) rfl rfl rfl ?_
  refine zg ?_
  refine zM (zI 0) ?_
  refine zN ?_
  refine AWp.seq ?_
  refine zg ?_
  refine zM (.list false 50 (([fa, fb, fc] : List Field).map encF)) ?_
  refine zr (zL (([fa, fb, fc] : List Field).map encF) 3 Tryz.underlying46 rfl) ?_
  refine zM (.list false 78 [.gptr cid 0, .gptr cid 1, .gptr cid 2]) ?_
  refine zr (zL [.gptr cid 0, .gptr cid 1, .gptr cid 2] 3 Tryz.underlying75 rfl) ?_
  refine zr (zi false) ?_
  refine zN ?_
  refine AWp.cond (b := false) rfl (fun hx => by cases hx) (fun hx => ?_)
  refine AWp.skip ?_
  refine AWp.seq ?_
  refine zg ?_
  refine zM (.list false 50 (([fa, fb, fc] : List Field).map encF)) ?_
  refine zr (zL (([fa, fb, fc] : List Field).map encF) 3 Tryz.underlying46 rfl) ?_
  refine zM (zI 0) ?_
  refine zN ?_
  refine AWp.block ?_
  refine AWp.unroll 4 ?_
  refine AWp.round ?_
  refine zg ?_
  refine zr (zi true) ?_
  refine zN ?_
  refine AWp.seq ?_
  refine AWp.cond (b := true) rfl (fun hx => ?_) (fun hx => by cases hx)
  refine AWp.skip ?_
  refine AWp.seq ?_
  refine AWp.block ?_
  refine zg ?_
  refine zM (zI 0) ?_
  refine zr (zel 0 (encF fa) Tryz.underlying46 sizeOf_50 rfl) ?_
  refine zr (zlE (encF fa) Tryz.underlying50 sizeOf_50) ?_
  refine zal [] zero_50 [.str [], zI 0, zI 0] ?_
  refine zM (zI 0) ?_
  refine zst sizeOf_50 (encF fa) ?_
  refine zN ?_
  refine zg ?_
  refine zr (zfL Tryz.underlying50 sizeOf_9) ?_
  refine zr (zlL (.str fa.text) Tryz.underlying9 sizeOf_9) ?_
  refine zc [.str fa.text] Tryz.call66 (Read_any fa.text (by first | assumption | omega | (simp only [List.length_append, List.length_cons, List.length_nil]; omega)) M) ?_
  rintro _ _ ⟨rfl, rfl⟩
  refine zM (.tuple [zI ((qv fa.text : Nat) : Int), zI (qe fa.text)]) ?_
  refine zr (zx (zI ((qv fa.text : Nat) : Int))) ?_
  refine zr (zx (zI (qe fa.text))) ?_
  refine zM (zI ((qv fa.text : Nat) : Int)) ?_
  refine zM (zI (qe fa.text)) ?_
  refine zN ?_
  refine AWp.seq ?_
  refine zg ?_
  refine zM (zI (qe fa.text)) ?_
  refine zr (zi ((qe fa.text) != 0)) ?_
  refine zN ?_
  refine zC (b := (qe fa.text) != 0) rfl (fun h1 => ?_) (fun h1 => ?_)
  · skip
    have h1' : (qe fa.text) ≠ 0 := (by have hh := bne_iff_ne.1 h1; omega)
    clear h1
    refine zg ?_
    refine zM (zI (qe fa.text)) ?_
    refine zM (zI (qe fa.text)) ?_
    refine zN ?_
    refine AWp.ret ?_
    exact ⟨.inl rfl, _, ResOf.one 4 (zI (qe fa.text)) rfl rfl, ⟨_, c, rfl, (setM_self hM).symm, .inr ⟨qe_2 (by assumption), fun h => by simp_all [FitsL]⟩⟩⟩
  · skip
    have h1' : ¬ ((qe fa.text) ≠ 0) := (by have hh := bne_eq_false_iff_eq.1 h1; omega)
    clear h1
    refine AWp.skip ?_
    refine AWp.region ?_
    refine zM (.list false 78 [.gptr cid 0, .gptr cid 1, .gptr cid 2]) ?_
    refine zM (zI 0) ?_
    refine zr (zel 0 (.gptr cid 0) Tryz.underlying75 sizeOf_78 rfl) ?_
    refine zr (zlE (.gptr cid 0) Tryz.underlying78 sizeOf_78) ?_
    refine zM (zI ((qv fa.text : Nat) : Int)) ?_
    refine zr (znc (.gptr cid 0)) ?_
    refine AOps.storeG trivial rfl rfl rfl hM sizeOf_3 (.inl ⟨rfl, rfl⟩) rfl (v := zI ((qv fa.text : Nat) : Int)) rfl (all_flat rfl) rfl (Nat.le_of_ble_eq_true rfl) rfl ?_
    refine zN ?_
    refine AWp.region ?_
    refine zr (zd (0 + 1) 1) ?_
    refine zM (zI 1) ?_
    refine zN ?_
    refine AWp.weakTo (ls := [0, 1, 4, 14, 15, 16]) (ks := []) (s' := ⟨[(0, .list false 78 [.gptr cid 0, .gptr cid 1, .gptr cid 2]), (1, .list false 50 (([fa, fb, fc] : List Field).map encF)), (4, zI 0), (14, .list false 50 (([fa, fb, fc] : List Field).map encF)), (15, zI (3 : Int)), (16, zI 1)], [], (setM M cid [zI ((qv fa.text : Nat) : Int), zI c.c1, zI c.c2, zI c.a0, zI c.a1, zI c.a2, .list true 40 (c.thr.map encT), zI c.per, zI c.ret, zI c.age, zI c.ded])⟩) rfl ?_
    refine AWp.round ?_
    refine zg ?_
    refine zr (zi true) ?_
    refine zN ?_
    refine AWp.seq ?_
    refine AWp.cond (b := true) rfl (fun hx => ?_) (fun hx => by cases hx)
    refine AWp.skip ?_
    refine AWp.seq ?_
    refine AWp.block ?_
    refine zg ?_
    refine zM (zI 1) ?_
    refine zr (zel 1 (encF fb) Tryz.underlying46 sizeOf_50 rfl) ?_
    refine zr (zlE (encF fb) Tryz.underlying50 sizeOf_50) ?_
    refine zal [] zero_50 [.str [], zI 0, zI 0] ?_
    refine zM (zI 1) ?_
    refine zst sizeOf_50 (encF fb) ?_
    refine zN ?_
    refine zg ?_
    refine zr (zfL Tryz.underlying50 sizeOf_9) ?_
    refine zr (zlL (.str fb.text) Tryz.underlying9 sizeOf_9) ?_
    refine zc [.str fb.text] Tryz.call66 (Read_any fb.text (by first | assumption | omega | (simp only [List.length_append, List.length_cons, List.length_nil]; omega)) (setM M cid [zI ((qv fa.text : Nat) : Int), zI c.c1, zI c.c2, zI c.a0, zI c.a1, zI c.a2, .list true 40 (c.thr.map encT), zI c.per, zI c.ret, zI c.age, zI c.ded])) ?_
    rintro _ _ ⟨rfl, rfl⟩
    refine zM (.tuple [zI ((qv fb.text : Nat) : Int), zI (qe fb.text)]) ?_
    refine zr (zx (zI ((qv fb.text : Nat) : Int))) ?_
    refine zr (zx (zI (qe fb.text))) ?_
    refine zM (zI ((qv fb.text : Nat) : Int)) ?_
    refine zM (zI (qe fb.text)) ?_
    refine zN ?_
    refine AWp.seq ?_
    refine zg ?_
    refine zM (zI (qe fb.text)) ?_
    refine zr (zi ((qe fb.text) != 0)) ?_
    refine zN ?_
    refine zC (b := (qe fb.text) != 0) rfl (fun h2 => ?_) (fun h2 => ?_)
    · skip
      have h2' : (qe fb.text) ≠ 0 := (by have hh := bne_iff_ne.1 h2; omega)
      clear h2
      refine zg ?_
      refine zM (zI (qe fb.text)) ?_
      refine zM (zI (qe fb.text)) ?_
      refine zN ?_
      refine AWp.ret ?_
      exact ⟨.inl rfl, _, ResOf.one 4 (zI (qe fb.text)) rfl rfl, ⟨_, (⟨((qv fa.text : Nat) : Int), c.c1, c.c2, c.a0, c.a1, c.a2, c.thr, c.per, c.ret, c.age, c.ded⟩ : Cfg), rfl, rfl, .inr ⟨qe_2 (by assumption), fun h => by simp_all [FitsL]⟩⟩⟩
    · skip
      have h2' : ¬ ((qe fb.text) ≠ 0) := (by have hh := bne_eq_false_iff_eq.1 h2; omega)
      clear h2
      refine AWp.skip ?_
      refine AWp.region ?_
      refine zM (.list false 78 [.gptr cid 0, .gptr cid 1, .gptr cid 2]) ?_
      refine zM (zI 1) ?_
      refine zr (zel 1 (.gptr cid 1) Tryz.underlying75 sizeOf_78 rfl) ?_
      refine zr (zlE (.gptr cid 1) Tryz.underlying78 sizeOf_78) ?_
      refine zM (zI ((qv fb.text : Nat) : Int)) ?_
      refine zr (znc (.gptr cid 1)) ?_
      refine AOps.storeG trivial rfl rfl rfl setM_get sizeOf_3 (.inl ⟨rfl, rfl⟩) rfl (v := zI ((qv fb.text : Nat) : Int)) rfl (all_flat rfl) rfl (Nat.le_of_ble_eq_true rfl) setM_setM ?_
      refine zN ?_
      refine AWp.region ?_
      refine zr (zd (1 + 1) 2) ?_
      refine zM (zI 2) ?_
      refine zN ?_
      refine AWp.weakTo (ls := [0, 1, 4, 14, 15, 16]) (ks := []) (s' := ⟨[(0, .list false 78 [.gptr cid 0, .gptr cid 1, .gptr cid 2]), (1, .list false 50 (([fa, fb, fc] : List Field).map encF)), (4, zI 0), (14, .list false 50 (([fa, fb, fc] : List Field).map encF)), (15, zI (3 : Int)), (16, zI 2)], [], (setM M cid [zI ((qv fa.text : Nat) : Int), zI ((qv fb.text : Nat) : Int), zI c.c2, zI c.a0, zI c.a1, zI c.a2, .list true 40 (c.thr.map encT), zI c.per, zI c.ret, zI c.age, zI c.ded])⟩) rfl ?_
      refine AWp.round ?_
      refine zg ?_
      refine zr (zi true) ?_
      refine zN ?_
      refine AWp.seq ?_
      refine AWp.cond (b := true) rfl (fun hx => ?_) (fun hx => by cases hx)
      refine AWp.skip ?_
      refine AWp.seq ?_
      refine AWp.block ?_
      refine zg ?_
      refine zM (zI 2) ?_
      refine zr (zel 2 (encF fc) Tryz.underlying46 sizeOf_50 rfl) ?_
      refine zr (zlE (encF fc) Tryz.underlying50 sizeOf_50) ?_
      refine zal [] zero_50 [.str [], zI 0, zI 0] ?_
      refine zM (zI 2) ?_
      refine zst sizeOf_50 (encF fc) ?_
      refine zN ?_
      refine zg ?_
      refine zr (zfL Tryz.underlying50 sizeOf_9) ?_
      refine zr (zlL (.str fc.text) Tryz.underlying9 sizeOf_9) ?_
      refine zc [.str fc.text] Tryz.call66 (Read_any fc.text (by first | assumption | omega | (simp only [List.length_append, List.length_cons, List.length_nil]; omega)) (setM M cid [zI ((qv fa.text : Nat) : Int), zI ((qv fb.text : Nat) : Int), zI c.c2, zI c.a0, zI c.a1, zI c.a2, .list true 40 (c.thr.map encT), zI c.per, zI c.ret, zI c.age, zI c.ded])) ?_
      rintro _ _ ⟨rfl, rfl⟩
      refine zM (.tuple [zI ((qv fc.text : Nat) : Int), zI (qe fc.text)]) ?_
      refine zr (zx (zI ((qv fc.text : Nat) : Int))) ?_
      refine zr (zx (zI (qe fc.text))) ?_
      refine zM (zI ((qv fc.text : Nat) : Int)) ?_
      refine zM (zI (qe fc.text)) ?_
      refine zN ?_
      refine AWp.seq ?_
      refine zg ?_
      refine zM (zI (qe fc.text)) ?_
      refine zr (zi ((qe fc.text) != 0)) ?_
      refine zN ?_
      refine zC (b := (qe fc.text) != 0) rfl (fun h3 => ?_) (fun h3 => ?_)
      · skip
        have h3' : (qe fc.text) ≠ 0 := (by have hh := bne_iff_ne.1 h3; omega)
        clear h3
        refine zg ?_
        refine zM (zI (qe fc.text)) ?_
        refine zM (zI (qe fc.text)) ?_
        refine zN ?_
        refine AWp.ret ?_
        exact ⟨.inl rfl, _, ResOf.one 4 (zI (qe fc.text)) rfl rfl, ⟨_, (⟨((qv fa.text : Nat) : Int), ((qv fb.text : Nat) : Int), c.c2, c.a0, c.a1, c.a2, c.thr, c.per, c.ret, c.age, c.ded⟩ : Cfg), rfl, rfl, .inr ⟨qe_2 (by assumption), fun h => by simp_all [FitsL]⟩⟩⟩
      · skip
        have h3' : ¬ ((qe fc.text) ≠ 0) := (by have hh := bne_eq_false_iff_eq.1 h3; omega)
        clear h3
        refine AWp.skip ?_
        refine AWp.region ?_
        refine zM (.list false 78 [.gptr cid 0, .gptr cid 1, .gptr cid 2]) ?_
        refine zM (zI 2) ?_
        refine zr (zel 2 (.gptr cid 2) Tryz.underlying75 sizeOf_78 rfl) ?_
        refine zr (zlE (.gptr cid 2) Tryz.underlying78 sizeOf_78) ?_
        refine zM (zI ((qv fc.text : Nat) : Int)) ?_
        refine zr (znc (.gptr cid 2)) ?_
        refine AOps.storeG trivial rfl rfl rfl setM_get sizeOf_3 (.inl ⟨rfl, rfl⟩) rfl (v := zI ((qv fc.text : Nat) : Int)) rfl (all_flat rfl) rfl (Nat.le_of_ble_eq_true rfl) setM_setM ?_
        refine zN ?_
        refine AWp.region ?_
        refine zr (zd (2 + 1) 3) ?_
        refine zM (zI 3) ?_
        refine zN ?_
        refine AWp.weakTo (ls := [0, 1, 4, 14, 15, 16]) (ks := []) (s' := ⟨[(0, .list false 78 [.gptr cid 0, .gptr cid 1, .gptr cid 2]), (1, .list false 50 (([fa, fb, fc] : List Field).map encF)), (4, zI 0), (14, .list false 50 (([fa, fb, fc] : List Field).map encF)), (15, zI (3 : Int)), (16, zI 3)], [], (setM M cid [zI ((qv fa.text : Nat) : Int), zI ((qv fb.text : Nat) : Int), zI ((qv fc.text : Nat) : Int), zI c.a0, zI c.a1, zI c.a2, .list true 40 (c.thr.map encT), zI c.per, zI c.ret, zI c.age, zI c.ded])⟩) rfl ?_
        refine AWp.round ?_
        refine zg ?_
        refine zr (zi false) ?_
        refine zN ?_
        refine AWp.seq ?_
        refine AWp.cond (b := false) rfl (fun hx => by cases hx) (fun hx => ?_)
        refine AWp.exit ?_
        refine zg ?_
        refine zM (zI 0) ?_
        refine zN ?_
        refine AWp.ret ?_
        exact ⟨.inl rfl, _, ResOf.one 4 (zI 0) rfl rfl, ⟨_, setC c 0 ([fa, fb, fc].map fun f => (qv f.text : Int)), rfl, rfl, .inl ⟨rfl, ⟨rfl, by simp; omega⟩, rfl⟩⟩⟩

set_option maxRecDepth 20000 in
theorem fill_no0 (M : Nat → Option (List AV)) (c : Cfg) (cid : Nat) (l : List Field) (hl : l.length ≠ 3) (hM : M cid = some (cells true c))  : ACall Tryz.prog 45 [.list false 78 [.gptr cid 0, .gptr cid 1, .gptr cid 2], .list false 50 (l.map encF)] M (fun r M' => ∃ e c', r = zI e ∧ M' = setM M cid (cells true c') ∧ ((e = 0 ∧ FitsL 0 l ∧ c' = setC c 0 (l.map fun f => (qv f.text : Int))) ∨ (e = 2 ∧ ¬ FitsL 0 l))) := by
  refine ACall.of Tryz.func45 rfl (n := 37) rfl rfl rfl ?_
  refine zg ?_
  refine zM (zI 0) ?_
  refine zN ?_
  refine AWp.seq ?_
  refine zg ?_
  refine zM (.list false 50 (l.map encF)) ?_
  refine zr (zL (l.map encF) l.length Tryz.underlying46 (by simp)) ?_
  refine zM (.list false 78 [.gptr cid 0, .gptr cid 1, .gptr cid 2]) ?_
  refine zr (zL [.gptr cid 0, .gptr cid 1, .gptr cid 2] 3 Tryz.underlying75 rfl) ?_
  refine zr (zi ((l.length : Int) != (3 : Int))) ?_
  refine zN ?_
  refine zC (b := (l.length : Int) != (3 : Int)) rfl (fun h1 => ?_) (fun h1 => ?_)
  · skip
    have h1' : l.length ≠ 3 := (by have hh := bne_iff_ne.1 h1; omega)
    clear h1
    refine zg ?_
    refine zM (zI 2) ?_
    refine zN ?_
    refine AWp.ret ?_
    exact ⟨.inl rfl, _, ResOf.one 4 (zI 2) rfl rfl, ⟨_, c, rfl, (setM_self hM).symm, .inr ⟨rfl, fun h => hl h.1⟩⟩⟩
  · skip
    have h1' : ¬ (l.length ≠ 3) := (by have hh := bne_eq_false_iff_eq.1 h1; omega)
    clear h1
    exfalso; omega

set_option maxRecDepth 20000 in
theorem fill_ok1 (M : Nat → Option (List AV)) (c : Cfg) (cid : Nat) (fa fb fc : Field) (hlen : ∀ f ∈ [fa, fb, fc], f.text.length ≤ 4294967280) (hM : M cid = some (cells true c))  : ACall Tryz.prog 45 [.list false 78 [.gptr cid 3, .gptr cid 4, .gptr cid 5], .list false 50 (([fa, fb, fc] : List Field).map encF)] M (fun r M' => ∃ e c', r = zI e ∧ M' = setM M cid (cells true c') ∧ ((e = 0 ∧ FitsL 1 [fa, fb, fc] ∧ c' = setC c 1 ([fa, fb, fc].map fun f => (qv f.text : Int))) ∨ (e = 2 ∧ ¬ FitsL 1 [fa, fb, fc]))) := by
  have hlfa := hlen fa (by simp)
  have hlfb := hlen fb (by simp)
  have hlfc := hlen fc (by simp)
  refine ACall.of Tryz.func45 rfl (n := 37) rfl rfl rfl ?_
  refine zg ?_
  refine zM (zI 0) ?_
  refine zN ?_
  refine AWp.seq ?_
  refine zg ?_
  refine zM (.list false 50 (([fa, fb, fc] : List Field).map encF)) ?_
  refine zr (zL (([fa, fb, fc] : List Field).map encF) 3 Tryz.underlying46 rfl) ?_
  refine zM (.list false 78 [.gptr cid 3, .gptr cid 4, .gptr cid 5]) ?_
  refine zr (zL [.gptr cid 3, .gptr cid 4, .gptr cid 5] 3 Tryz.underlying75 rfl) ?_
  refine zr (zi false) ?_
  refine zN ?_
  refine AWp.cond (b := false) rfl (fun hx => by cases hx) (fun hx => ?_)
  refine AWp.skip ?_
  refine AWp.seq ?_
  refine zg ?_
  refine zM (.list false 50 (([fa, fb, fc] : List Field).map encF)) ?_
  refine zr (zL (([fa, fb, fc] : List Field).map encF) 3 Tryz.underlying46 rfl) ?_
  refine zM (zI 0) ?_
  refine zN ?_
  refine AWp.block ?_
  refine AWp.unroll 4 ?_
  refine AWp.round ?_
  refine zg ?_
  refine zr (zi true) ?_
  refine zN ?_
  refine AWp.seq ?_
  refine AWp.cond (b := true) rfl (fun hx => ?_) (fun hx => by cases hx)
  refine AWp.skip ?_
  refine AWp.seq ?_
  refine AWp.block ?_
  refine zg ?_
  refine zM (zI 0) ?_
  refine zr (zel 0 (encF fa) Tryz.underlying46 sizeOf_50 rfl) ?_
  refine zr (zlE (encF fa) Tryz.underlying50 sizeOf_50) ?_
  refine zal [] zero_50 [.str [], zI 0, zI 0] ?_
  refine zM (zI 0) ?_
  refine zst sizeOf_50 (encF fa) ?_
  refine zN ?_
  refine zg ?_
  refine zr (zfL Tryz.underlying50 sizeOf_9) ?_
  refine zr (zlL (.str fa.text) Tryz.underlying9 sizeOf_9) ?_
  refine zc [.str fa.text] Tryz.call66 (Read_any fa.text (by first | assumption | omega | (simp only [List.length_append, List.length_cons, List.length_nil]; omega)) M) ?_
  rintro _ _ ⟨rfl, rfl⟩
  refine zM (.tuple [zI ((qv fa.text : Nat) : Int), zI (qe fa.text)]) ?_
  refine zr (zx (zI ((qv fa.text : Nat) : Int))) ?_
  refine zr (zx (zI (qe fa.text))) ?_
  refine zM (zI ((qv fa.text : Nat) : Int)) ?_
  refine zM (zI (qe fa.text)) ?_
  refine zN ?_
  refine AWp.seq ?_
  refine zg ?_
  refine zM (zI (qe fa.text)) ?_
  refine zr (zi ((qe fa.text) != 0)) ?_
  refine zN ?_
  refine zC (b := (qe fa.text) != 0) rfl (fun h1 => ?_) (fun h1 => ?_)
  · skip
    have h1' : (qe fa.text) ≠ 0 := (by have hh := bne_iff_ne.1 h1; omega)
    clear h1
    refine zg ?_
    refine zM (zI (qe fa.text)) ?_
    refine zM (zI (qe fa.text)) ?_
    refine zN ?_
    refine AWp.ret ?_
    exact ⟨.inl rfl, _, ResOf.one 4 (zI (qe fa.text)) rfl rfl, ⟨_, c, rfl, (setM_self hM).symm, .inr ⟨qe_2 (by assumption), fun h => by simp_all [FitsL]⟩⟩⟩
  · skip
    have h1' : ¬ ((qe fa.text) ≠ 0) := (by have hh := bne_eq_false_iff_eq.1 h1; omega)
    clear h1
    refine AWp.skip ?_
    refine AWp.region ?_
    refine zM (.list false 78 [.gptr cid 3, .gptr cid 4, .gptr cid 5]) ?_
    refine zM (zI 0) ?_
    refine zr (zel 0 (.gptr cid 3) Tryz.underlying75 sizeOf_78 rfl) ?_
    refine zr (zlE (.gptr cid 3) Tryz.underlying78 sizeOf_78) ?_
    refine zM (zI ((qv fa.text : Nat) : Int)) ?_
    refine zr (znc (.gptr cid 3)) ?_
    refine AOps.storeG trivial rfl rfl rfl hM sizeOf_3 (.inl ⟨rfl, rfl⟩) rfl (v := zI ((qv fa.text : Nat) : Int)) rfl (all_flat rfl) rfl (Nat.le_of_ble_eq_true rfl) rfl ?_
    refine zN ?_
    refine AWp.region ?_
    refine zr (zd (0 + 1) 1) ?_
    refine zM (zI 1) ?_
    refine zN ?_
    refine AWp.weakTo (ls := [0, 1, 4, 14, 15, 16]) (ks := []) (s' := ⟨[(0, .list false 78 [.gptr cid 3, .gptr cid 4, .gptr cid 5]), (1, .list false 50 (([fa, fb, fc] : List Field).map encF)), (4, zI 0), (14, .list false 50 (([fa, fb, fc] : List Field).map encF)), (15, zI (3 : Int)), (16, zI 1)], [], (setM M cid [zI c.c0, zI c.c1, zI c.c2, zI ((qv fa.text : Nat) : Int), zI c.a1, zI c.a2, .list true 40 (c.thr.map encT), zI c.per, zI c.ret, zI c.age, zI c.ded])⟩) rfl ?_
    refine AWp.round ?_
    refine zg ?_
    refine zr (zi true) ?_
    refine zN ?_
    refine AWp.seq ?_
    refine AWp.cond (b := true) rfl (fun hx => ?_) (fun hx => by cases hx)
    refine AWp.skip ?_
    refine AWp.seq ?_
    refine AWp.block ?_
    refine zg ?_
    refine zM (zI 1) ?_
    refine zr (zel 1 (encF fb) Tryz.underlying46 sizeOf_50 rfl) ?_
    refine zr (zlE (encF fb) Tryz.underlying50 sizeOf_50) ?_
    refine zal [] zero_50 [.str [], zI 0, zI 0] ?_
    refine zM (zI 1) ?_
    refine zst sizeOf_50 (encF fb) ?_
    refine zN ?_
    refine zg ?_
    refine zr (zfL Tryz.underlying50 sizeOf_9) ?_
    refine zr (zlL (.str fb.text) Tryz.underlying9 sizeOf_9) ?_
    refine zc [.str fb.text] Tryz.call66 (Read_any fb.text (by first | assumption | omega | (simp only [List.length_append, List.length_cons, List.length_nil]; omega)) (setM M cid [zI c.c0, zI c.c1, zI c.c2, zI ((qv fa.text : Nat) : Int), zI c.a1, zI c.a2, .list true 40 (c.thr.map encT), zI c.per, zI c.ret, zI c.age, zI c.ded])) ?_
    rintro _ _ ⟨rfl, rfl⟩
    refine zM (.tuple [zI ((qv fb.text : Nat) : Int), zI (qe fb.text)]) ?_
    refine zr (zx (zI ((qv fb.text : Nat) : Int))) ?_
    refine zr (zx (zI (qe fb.text))) ?_
    refine zM (zI ((qv fb.text : Nat) : Int)) ?_
    refine zM (zI (qe fb.text)) ?_
    refine zN ?_
    refine AWp.seq ?_
    refine zg ?_
    refine zM (zI (qe fb.text)) ?_
    refine zr (zi ((qe fb.text) != 0)) ?_
    refine zN ?_
    refine zC (b := (qe fb.text) != 0) rfl (fun h2 => ?_) (fun h2 => ?_)
    · skip
      have h2' : (qe fb.text) ≠ 0 := (by have hh := bne_iff_ne.1 h2; omega)
      clear h2
      refine zg ?_
      refine zM (zI (qe fb.text)) ?_
      refine zM (zI (qe fb.text)) ?_
      refine zN ?_
      refine AWp.ret ?_
      exact ⟨.inl rfl, _, ResOf.one 4 (zI (qe fb.text)) rfl rfl, ⟨_, (⟨c.c0, c.c1, c.c2, ((qv fa.text : Nat) : Int), c.a1, c.a2, c.thr, c.per, c.ret, c.age, c.ded⟩ : Cfg), rfl, rfl, .inr ⟨qe_2 (by assumption), fun h => by simp_all [FitsL]⟩⟩⟩
    · skip
      have h2' : ¬ ((qe fb.text) ≠ 0) := (by have hh := bne_eq_false_iff_eq.1 h2; omega)
      clear h2
      refine AWp.skip ?_
      refine AWp.region ?_
      refine zM (.list false 78 [.gptr cid 3, .gptr cid 4, .gptr cid 5]) ?_
      refine zM (zI 1) ?_
      refine zr (zel 1 (.gptr cid 4) Tryz.underlying75 sizeOf_78 rfl) ?_
      refine zr (zlE (.gptr cid 4) Tryz.underlying78 sizeOf_78) ?_
      refine zM (zI ((qv fb.text : Nat) : Int)) ?_
      refine zr (znc (.gptr cid 4)) ?_
      refine AOps.storeG trivial rfl rfl rfl setM_get sizeOf_3 (.inl ⟨rfl, rfl⟩) rfl (v := zI ((qv fb.text : Nat) : Int)) rfl (all_flat rfl) rfl (Nat.le_of_ble_eq_true rfl) setM_setM ?_
      refine zN ?_
      refine AWp.region ?_
      refine zr (zd (1 + 1) 2) ?_
      refine zM (zI 2) ?_
      refine zN ?_
      refine AWp.weakTo (ls := [0, 1, 4, 14, 15, 16]) (ks := []) (s' := ⟨[(0, .list false 78 [.gptr cid 3, .gptr cid 4, .gptr cid 5]), (1, .list false 50 (([fa, fb, fc] : List Field).map encF)), (4, zI 0), (14, .list false 50 (([fa, fb, fc] : List Field).map encF)), (15, zI (3 : Int)), (16, zI 2)], [], (setM M cid [zI c.c0, zI c.c1, zI c.c2, zI ((qv fa.text : Nat) : Int), zI ((qv fb.text : Nat) : Int), zI c.a2, .list true 40 (c.thr.map encT), zI c.per, zI c.ret, zI c.age, zI c.ded])⟩) rfl ?_
      refine AWp.round ?_
      refine zg ?_
      refine zr (zi true) ?_
      refine zN ?_
      refine AWp.seq ?_
      refine AWp.cond (b := true) rfl (fun hx => ?_) (fun hx => by cases hx)
      refine AWp.skip ?_
      refine AWp.seq ?_
      refine AWp.block ?_
      refine zg ?_
      refine zM (zI 2) ?_
      refine zr (zel 2 (encF fc) Tryz.underlying46 sizeOf_50 rfl) ?_
      refine zr (zlE (encF fc) Tryz.underlying50 sizeOf_50) ?_
      refine zal [] zero_50 [.str [], zI 0, zI 0] ?_
      refine zM (zI 2) ?_
      refine zst sizeOf_50 (encF fc) ?_
      refine zN ?_
      refine zg ?_
      refine zr (zfL Tryz.underlying50 sizeOf_9) ?_
      refine zr (zlL (.str fc.text) Tryz.underlying9 sizeOf_9) ?_
      refine zc [.str fc.text] Tryz.call66 (Read_any fc.text (by first | assumption | omega | (simp only [List.length_append, List.length_cons, List.length_nil]; omega)) (setM M cid [zI c.c0, zI c.c1, zI c.c2, zI ((qv fa.text : Nat) : Int), zI ((qv fb.text : Nat) : Int), zI c.a2, .list true 40 (c.thr.map encT), zI c.per, zI c.ret, zI c.age, zI c.ded])) ?_
      rintro _ _ ⟨rfl, rfl⟩
      refine zM (.tuple [zI ((qv fc.text : Nat) : Int), zI (qe fc.text)]) ?_
      refine zr (zx (zI ((qv fc.text : Nat) : Int))) ?_
      refine zr (zx (zI (qe fc.text))) ?_
      refine zM (zI ((qv fc.text : Nat) : Int)) ?_
      refine zM (zI (qe fc.text)) ?_
      refine zN ?_
      refine AWp.seq ?_
      refine zg ?_
      refine zM (zI (qe fc.text)) ?_
      refine zr (zi ((qe fc.text) != 0)) ?_
      refine zN ?_
      refine zC (b := (qe fc.text) != 0) rfl (fun h3 => ?_) (fun h3 => ?_)
      · skip
        have h3' : (qe fc.text) ≠ 0 := (by have hh := bne_iff_ne.1 h3; omega)
        clear h3
        refine zg ?_
        refine zM (zI (qe fc.text)) ?_
        refine zM (zI (qe fc.text)) ?_
        refine zN ?_
        refine AWp.ret ?_
        exact ⟨.inl rfl, _, ResOf.one 4 (zI (qe fc.text)) rfl rfl, ⟨_, (⟨c.c0, c.c1, c.c2, ((qv fa.text : Nat) : Int), ((qv fb.text : Nat) : Int), c.a2, c.thr, c.per, c.ret, c.age, c.ded⟩ : Cfg), rfl, rfl, .inr ⟨qe_2 (by assumption), fun h => by simp_all [FitsL]⟩⟩⟩
      · skip
        have h3' : ¬ ((qe fc.text) ≠ 0) := (by have hh := bne_eq_false_iff_eq.1 h3; omega)
        clear h3
        refine AWp.skip ?_
        refine AWp.region ?_
        refine zM (.list false 78 [.gptr cid 3, .gptr cid 4, .gptr cid 5]) ?_
        refine zM (zI 2) ?_
        refine zr (zel 2 (.gptr cid 5) Tryz.underlying75 sizeOf_78 rfl) ?_
        refine zr (zlE (.gptr cid 5) Tryz.underlying78 sizeOf_78) ?_
        refine zM (zI ((qv fc.text : Nat) : Int)) ?_
        refine zr (znc (.gptr cid 5)) ?_
        refine AOps.storeG trivial rfl rfl rfl setM_get sizeOf_3 (.inl ⟨rfl, rfl⟩) rfl (v := zI ((qv fc.text : Nat) : Int)) rfl (all_flat rfl) rfl (Nat.le_of_ble_eq_true rfl) setM_setM ?_
        refine zN ?_
        refine AWp.region ?_
        refine zr (zd (2 + 1) 3) ?_
        refine zM (zI 3) ?_
        refine zN ?_
        refine AWp.weakTo (ls := [0, 1, 4, 14, 15, 16]) (ks := []) (s' := ⟨[(0, .list false 78 [.gptr cid 3, .gptr cid 4, .gptr cid 5]), (1, .list false 50 (([fa, fb, fc] : List Field).map encF)), (4, zI 0), (14, .list false 50 (([fa, fb, fc] : List Field).map encF)), (15, zI (3 : Int)), (16, zI 3)], [], (setM M cid [zI c.c0, zI c.c1, zI c.c2, zI ((qv fa.text : Nat) : Int), zI ((qv fb.text : Nat) : Int), zI ((qv fc.text : Nat) : Int), .list true 40 (c.thr.map encT), zI c.per, zI c.ret, zI c.age, zI c.ded])⟩) rfl ?_
        refine AWp.round ?_
        refine zg ?_
        refine zr (zi false) ?_
        refine zN ?_
        refine AWp.seq ?_
        refine AWp.cond (b := false) rfl (fun hx => by cases hx) (fun hx => ?_)
        refine AWp.exit ?_
        refine zg ?_
        refine zM (zI 0) ?_
        refine zN ?_
        refine AWp.ret ?_
        exact ⟨.inl rfl, _, ResOf.one 4 (zI 0) rfl rfl, ⟨_, setC c 1 ([fa, fb, fc].map fun f => (qv f.text : Int)), rfl, rfl, .inl ⟨rfl, ⟨rfl, by simp; omega⟩, rfl⟩⟩⟩

set_option maxRecDepth 20000 in
theorem fill_no1 (M : Nat → Option (List AV)) (c : Cfg) (cid : Nat) (l : List Field) (hl : l.length ≠ 3) (hM : M cid = some (cells true c))  : ACall Tryz.prog 45 [.list false 78 [.gptr cid 3, .gptr cid 4, .gptr cid 5], .list false 50 (l.map encF)] M (fun r M' => ∃ e c', r = zI e ∧ M' = setM M cid (cells true c') ∧ ((e = 0 ∧ FitsL 1 l ∧ c' = setC c 1 (l.map fun f => (qv f.text : Int))) ∨ (e = 2 ∧ ¬ FitsL 1 l))) := by
  refine ACall.of Tryz.func45 rfl (n := 37) rfl rfl rfl ?_
  refine zg ?_
  refine zM (zI 0) ?_
  refine zN ?_
  refine AWp.seq ?_
  refine zg ?_
  refine zM (.list false 50 (l.map encF)) ?_
  refine zr (zL (l.map encF) l.length Tryz.underlying46 (by simp)) ?_
  refine zM (.list false 78 [.gptr cid 3, .gptr cid 4, .gptr cid 5]) ?_
  refine zr (zL [.gptr cid 3, .gptr cid 4, .gptr cid 5] 3 Tryz.underlying75 rfl) ?_
  refine zr (zi ((l.length : Int) != (3 : Int))) ?_
  refine zN ?_
  refine zC (b := (l.length : Int) != (3 : Int)) rfl (fun h1 => ?_) (fun h1 => ?_)
  · skip
    have h1' : l.length ≠ 3 := (by have hh := bne_iff_ne.1 h1; omega)
    clear h1
    refine zg ?_
    refine zM (zI 2) ?_
    refine zN ?_
    refine AWp.ret ?_
    exact ⟨.inl rfl, _, ResOf.one 4 (zI 2) rfl rfl, ⟨_, c, rfl, (setM_self hM).symm, .inr ⟨rfl, fun h => hl h.1⟩⟩⟩
  · skip
    have h1' : ¬ (l.length ≠ 3) := (by have hh := bne_eq_false_iff_eq.1 h1; omega)
    clear h1
    exfalso; omega

set_option maxRecDepth 20000 in
theorem fill_ok2 (M : Nat → Option (List AV)) (c : Cfg) (cid : Nat) (fa : Field) (hlen : ∀ f ∈ [fa], f.text.length ≤ 4294967280) (hM : M cid = some (cells true c))  : ACall Tryz.prog 45 [.list false 78 [.gptr cid 7], .list false 50 (([fa] : List Field).map encF)] M (fun r M' => ∃ e c', r = zI e ∧ M' = setM M cid (cells true c') ∧ ((e = 0 ∧ FitsL 2 [fa] ∧ c' = setC c 2 ([fa].map fun f => (qv f.text : Int))) ∨ (e = 2 ∧ ¬ FitsL 2 [fa]))) := by
  have hlfa := hlen fa (by simp)
  refine ACall.of Tryz.func45 rfl (n := 37) rfl rfl rfl ?_
  refine zg ?_
  refine zM (zI 0) ?_
  refine zN ?_
  refine AWp.seq ?_
  refine zg ?_
  refine zM (.list false 50 (([fa] : List Field).map encF)) ?_
  refine zr (zL (([fa] : List Field).map encF) 1 Tryz.underlying46 rfl) ?_
  refine zM (.list false 78 [.gptr cid 7]) ?_
  refine zr (zL [.gptr cid 7] 1 Tryz.underlying75 rfl) ?_
  refine zr (zi false) ?_
  refine zN ?_
  refine AWp.cond (b := false) rfl (fun hx => by cases hx) (fun hx => ?_)
  refine AWp.skip ?_
  refine AWp.seq ?_
  refine zg ?_
  refine zM (.list false 50 (([fa] : List Field).map encF)) ?_
  refine zr (zL (([fa] : List Field).map encF) 1 Tryz.underlying46 rfl) ?_
  refine zM (zI 0) ?_
  refine zN ?_
  refine AWp.block ?_
  refine AWp.unroll 2 ?_
  refine AWp.round ?_
  refine zg ?_
  refine zr (zi true) ?_
  refine zN ?_
  refine AWp.seq ?_
  refine AWp.cond (b := true) rfl (fun hx => ?_) (fun hx => by cases hx)
  refine AWp.skip ?_
  refine AWp.seq ?_
  refine AWp.block ?_
  refine zg ?_
  refine zM (zI 0) ?_
  refine zr (zel 0 (encF fa) Tryz.underlying46 sizeOf_50 rfl) ?_
  refine zr (zlE (encF fa) Tryz.underlying50 sizeOf_50) ?_
  refine zal [] zero_50 [.str [], zI 0, zI 0] ?_
  refine zM (zI 0) ?_
  refine zst sizeOf_50 (encF fa) ?_
  refine zN ?_
  refine zg ?_
  refine zr (zfL Tryz.underlying50 sizeOf_9) ?_
  refine zr (zlL (.str fa.text) Tryz.underlying9 sizeOf_9) ?_
  refine zc [.str fa.text] Tryz.call66 (Read_any fa.text (by first | assumption | omega | (simp only [List.length_append, List.length_cons, List.length_nil]; omega)) M) ?_
  rintro _ _ ⟨rfl, rfl⟩
  refine zM (.tuple [zI ((qv fa.text : Nat) : Int), zI (qe fa.text)]) ?_
  refine zr (zx (zI ((qv fa.text : Nat) : Int))) ?_
  refine zr (zx (zI (qe fa.text))) ?_
  refine zM (zI ((qv fa.text : Nat) : Int)) ?_
  refine zM (zI (qe fa.text)) ?_
  refine zN ?_
  refine AWp.seq ?_
  refine zg ?_
  refine zM (zI (qe fa.text)) ?_
  refine zr (zi ((qe fa.text) != 0)) ?_
  refine zN ?_
  refine zC (b := (qe fa.text) != 0) rfl (fun h1 => ?_) (fun h1 => ?_)
  · skip
    have h1' : (qe fa.text) ≠ 0 := (by have hh := bne_iff_ne.1 h1; omega)
    clear h1
    refine zg ?_
    refine zM (zI (qe fa.text)) ?_
    refine zM (zI (qe fa.text)) ?_
    refine zN ?_
    refine AWp.ret ?_
    exact ⟨.inl rfl, _, ResOf.one 4 (zI (qe fa.text)) rfl rfl, ⟨_, c, rfl, (setM_self hM).symm, .inr ⟨qe_2 (by assumption), fun h => by simp_all [FitsL]⟩⟩⟩
  · skip
    have h1' : ¬ ((qe fa.text) ≠ 0) := (by have hh := bne_eq_false_iff_eq.1 h1; omega)
    clear h1
    refine AWp.skip ?_
    refine AWp.region ?_
    refine zM (.list false 78 [.gptr cid 7]) ?_
    refine zM (zI 0) ?_
    refine zr (zel 0 (.gptr cid 7) Tryz.underlying75 sizeOf_78 rfl) ?_
    refine zr (zlE (.gptr cid 7) Tryz.underlying78 sizeOf_78) ?_
    refine zM (zI ((qv fa.text : Nat) : Int)) ?_
    refine zr (znc (.gptr cid 7)) ?_
    refine AOps.storeG trivial rfl rfl rfl hM sizeOf_3 (.inl ⟨rfl, rfl⟩) rfl (v := zI ((qv fa.text : Nat) : Int)) rfl (all_flat rfl) rfl (Nat.le_of_ble_eq_true rfl) rfl ?_
    refine zN ?_
    refine AWp.region ?_
    refine zr (zd (0 + 1) 1) ?_
    refine zM (zI 1) ?_
    refine zN ?_
    refine AWp.weakTo (ls := [0, 1, 4, 14, 15, 16]) (ks := []) (s' := ⟨[(0, .list false 78 [.gptr cid 7]), (1, .list false 50 (([fa] : List Field).map encF)), (4, zI 0), (14, .list false 50 (([fa] : List Field).map encF)), (15, zI (1 : Int)), (16, zI 1)], [], (setM M cid [zI c.c0, zI c.c1, zI c.c2, zI c.a0, zI c.a1, zI c.a2, .list true 40 (c.thr.map encT), zI ((qv fa.text : Nat) : Int), zI c.ret, zI c.age, zI c.ded])⟩) rfl ?_
    refine AWp.round ?_
    refine zg ?_
    refine zr (zi false) ?_
    refine zN ?_
    refine AWp.seq ?_
    refine AWp.cond (b := false) rfl (fun hx => by cases hx) (fun hx => ?_)
    refine AWp.exit ?_
    refine zg ?_
    refine zM (zI 0) ?_
    refine zN ?_
    refine AWp.ret ?_
    exact ⟨.inl rfl, _, ResOf.one 4 (zI 0) rfl rfl, ⟨_, setC c 2 ([fa].map fun f => (qv f.text : Int)), rfl, rfl, .inl ⟨rfl, ⟨rfl, by simp; omega⟩, rfl⟩⟩⟩

set_option maxRecDepth 20000 in
theorem fill_no2 (M : Nat → Option (List AV)) (c : Cfg) (cid : Nat) (l : List Field) (hl : l.length ≠ 1) (hM : M cid = some (cells true c))  : ACall Tryz.prog 45 [.list false 78 [.gptr cid 7], .list false 50 (l.map encF)] M (fun r M' => ∃ e c', r = zI e ∧ M' = setM M cid (cells true c') ∧ ((e = 0 ∧ FitsL 2 l ∧ c' = setC c 2 (l.map fun f => (qv f.text : Int))) ∨ (e = 2 ∧ ¬ FitsL 2 l))) := by
  refine ACall.of Tryz.func45 rfl (n := 37) rfl rfl rfl ?_
  refine zg ?_
  refine zM (zI 0) ?_
  refine zN ?_
  refine AWp.seq ?_
  refine zg ?_
  refine zM (.list false 50 (l.map encF)) ?_
  refine zr (zL (l.map encF) l.length Tryz.underlying46 (by simp)) ?_
  refine zM (.list false 78 [.gptr cid 7]) ?_
  refine zr (zL [.gptr cid 7] 1 Tryz.underlying75 rfl) ?_
  refine zr (zi ((l.length : Int) != (1 : Int))) ?_
  refine zN ?_
  refine zC (b := (l.length : Int) != (1 : Int)) rfl (fun h1 => ?_) (fun h1 => ?_)
  · skip
    have h1' : l.length ≠ 1 := (by have hh := bne_iff_ne.1 h1; omega)
    clear h1
    refine zg ?_
    refine zM (zI 2) ?_
    refine zN ?_
    refine AWp.ret ?_
    exact ⟨.inl rfl, _, ResOf.one 4 (zI 2) rfl rfl, ⟨_, c, rfl, (setM_self hM).symm, .inr ⟨rfl, fun h => hl h.1⟩⟩⟩
  · skip
    have h1' : ¬ (l.length ≠ 1) := (by have hh := bne_eq_false_iff_eq.1 h1; omega)
    clear h1
    exfalso; omega

set_option maxRecDepth 20000 in
theorem fill_ok3 (M : Nat → Option (List AV)) (c : Cfg) (cid : Nat) (fa : Field) (hlen : ∀ f ∈ [fa], f.text.length ≤ 4294967280) (hM : M cid = some (cells true c))  : ACall Tryz.prog 45 [.list false 78 [.gptr cid 8], .list false 50 (([fa] : List Field).map encF)] M (fun r M' => ∃ e c', r = zI e ∧ M' = setM M cid (cells true c') ∧ ((e = 0 ∧ FitsL 3 [fa] ∧ c' = setC c 3 ([fa].map fun f => (qv f.text : Int))) ∨ (e = 2 ∧ ¬ FitsL 3 [fa]))) := by
  have hlfa := hlen fa (by simp)
  refine ACall.of Tryz.func45 rfl (n := 37) rfl rfl rfl ?_
  refine zg ?_
  refine zM (zI 0) ?_
  refine zN ?_
  refine AWp.seq ?_
  refine zg ?_
  refine zM (.list false 50 (([fa] : List Field).map encF)) ?_
  refine zr (zL (([fa] : List Field).map encF) 1 Tryz.underlying46 rfl) ?_
  refine zM (.list false 78 [.gptr cid 8]) ?_
  refine zr (zL [.gptr cid 8] 1 Tryz.underlying75 rfl) ?_
  refine zr (zi false) ?_
  refine zN ?_
  refine AWp.cond (b := false) rfl (fun hx => by cases hx) (fun hx => ?_)
  refine AWp.skip ?_
  refine AWp.seq ?_
  refine zg ?_
  refine zM (.list false 50 (([fa] : List Field).map encF)) ?_
  refine zr (zL (([fa] : List Field).map encF) 1 Tryz.underlying46 rfl) ?_
  refine zM (zI 0) ?_
  refine zN ?_
  refine AWp.block ?_
  refine AWp.unroll 2 ?_
  refine AWp.round ?_
  refine zg ?_
  refine zr (zi true) ?_
  refine zN ?_
  refine AWp.seq ?_
  refine AWp.cond (b := true) rfl (fun hx => ?_) (fun hx => by cases hx)
  refine AWp.skip ?_
  refine AWp.seq ?_
  refine AWp.block ?_
  refine zg ?_
  refine zM (zI 0) ?_
  refine zr (zel 0 (encF fa) Tryz.underlying46 sizeOf_50 rfl) ?_
  refine zr (zlE (encF fa) Tryz.underlying50 sizeOf_50) ?_
  refine zal [] zero_50 [.str [], zI 0, zI 0] ?_
  refine zM (zI 0) ?_
  refine zst sizeOf_50 (encF fa) ?_
  refine zN ?_
  refine zg ?_
  refine zr (zfL Tryz.underlying50 sizeOf_9) ?_
  refine zr (zlL (.str fa.text) Tryz.underlying9 sizeOf_9) ?_
  refine zc [.str fa.text] Tryz.call66 (Read_any fa.text (by first | assumption | omega | (simp only [List.length_append, List.length_cons, List.length_nil]; omega)) M) ?_
  rintro _ _ ⟨rfl, rfl⟩
  refine zM (.tuple [zI ((qv fa.text : Nat) : Int), zI (qe fa.text)]) ?_
  refine zr (zx (zI ((qv fa.text : Nat) : Int))) ?_
  refine zr (zx (zI (qe fa.text))) ?_
  refine zM (zI ((qv fa.text : Nat) : Int)) ?_
  refine zM (zI (qe fa.text)) ?_
  refine zN ?_
  refine AWp.seq ?_
  refine zg ?_
  refine zM (zI (qe fa.text)) ?_
  refine zr (zi ((qe fa.text) != 0)) ?_
  refine zN ?_
  refine zC (b := (qe fa.text) != 0) rfl (fun h1 => ?_) (fun h1 => ?_)
  · skip
    have h1' : (qe fa.text) ≠ 0 := (by have hh := bne_iff_ne.1 h1; omega)
    clear h1
    refine zg ?_
    refine zM (zI (qe fa.text)) ?_
    refine zM (zI (qe fa.text)) ?_
    refine zN ?_
    refine AWp.ret ?_
    exact ⟨.inl rfl, _, ResOf.one 4 (zI (qe fa.text)) rfl rfl, ⟨_, c, rfl, (setM_self hM).symm, .inr ⟨qe_2 (by assumption), fun h => by simp_all [FitsL]⟩⟩⟩
  · skip
    have h1' : ¬ ((qe fa.text) ≠ 0) := (by have hh := bne_eq_false_iff_eq.1 h1; omega)
    clear h1
    refine AWp.skip ?_
    refine AWp.region ?_
    refine zM (.list false 78 [.gptr cid 8]) ?_
    refine zM (zI 0) ?_
    refine zr (zel 0 (.gptr cid 8) Tryz.underlying75 sizeOf_78 rfl) ?_
    refine zr (zlE (.gptr cid 8) Tryz.underlying78 sizeOf_78) ?_
    refine zM (zI ((qv fa.text : Nat) : Int)) ?_
    refine zr (znc (.gptr cid 8)) ?_
    refine AOps.storeG trivial rfl rfl rfl hM sizeOf_3 (.inl ⟨rfl, rfl⟩) rfl (v := zI ((qv fa.text : Nat) : Int)) rfl (all_flat rfl) rfl (Nat.le_of_ble_eq_true rfl) rfl ?_
    refine zN ?_
    refine AWp.region ?_
    refine zr (zd (0 + 1) 1) ?_
    refine zM (zI 1) ?_
    refine zN ?_
    refine AWp.weakTo (ls := [0, 1, 4, 14, 15, 16]) (ks := []) (s' := ⟨[(0, .list false 78 [.gptr cid 8]), (1, .list false 50 (([fa] : List Field).map encF)), (4, zI 0), (14, .list false 50 (([fa] : List Field).map encF)), (15, zI (1 : Int)), (16, zI 1)], [], (setM M cid [zI c.c0, zI c.c1, zI c.c2, zI c.a0, zI c.a1, zI c.a2, .list true 40 (c.thr.map encT), zI c.per, zI ((qv fa.text : Nat) : Int), zI c.age, zI c.ded])⟩) rfl ?_
    refine AWp.round ?_
    refine zg ?_
    refine zr (zi false) ?_
    refine zN ?_
    refine AWp.seq ?_
    refine AWp.cond (b := false) rfl (fun hx => by cases hx) (fun hx => ?_)
    refine AWp.exit ?_
    refine zg ?_
    refine zM (zI 0) ?_
    refine zN ?_
    refine AWp.ret ?_
    exact ⟨.inl rfl, _, ResOf.one 4 (zI 0) rfl rfl, ⟨_, setC c 3 ([fa].map fun f => (qv f.text : Int)), rfl, rfl, .inl ⟨rfl, ⟨rfl, by simp; omega⟩, rfl⟩⟩⟩

set_option maxRecDepth 20000 in
theorem fill_no3 (M : Nat → Option (List AV)) (c : Cfg) (cid : Nat) (l : List Field) (hl : l.length ≠ 1) (hM : M cid = some (cells true c))  : ACall Tryz.prog 45 [.list false 78 [.gptr cid 8], .list false 50 (l.map encF)] M (fun r M' => ∃ e c', r = zI e ∧ M' = setM M cid (cells true c') ∧ ((e = 0 ∧ FitsL 3 l ∧ c' = setC c 3 (l.map fun f => (qv f.text : Int))) ∨ (e = 2 ∧ ¬ FitsL 3 l))) := by
  refine ACall.of Tryz.func45 rfl (n := 37) rfl rfl rfl ?_
  refine zg ?_
  refine zM (zI 0) ?_
  refine zN ?_
  refine AWp.seq ?_
  refine zg ?_
  refine zM (.list false 50 (l.map encF)) ?_
  refine zr (zL (l.map encF) l.length Tryz.underlying46 (by simp)) ?_
  refine zM (.list false 78 [.gptr cid 8]) ?_
  refine zr (zL [.gptr cid 8] 1 Tryz.underlying75 rfl) ?_
  refine zr (zi ((l.length : Int) != (1 : Int))) ?_
  refine zN ?_
  refine zC (b := (l.length : Int) != (1 : Int)) rfl (fun h1 => ?_) (fun h1 => ?_)
  · skip
    have h1' : l.length ≠ 1 := (by have hh := bne_iff_ne.1 h1; omega)
    clear h1
    refine zg ?_
    refine zM (zI 2) ?_
    refine zN ?_
    refine AWp.ret ?_
    exact ⟨.inl rfl, _, ResOf.one 4 (zI 2) rfl rfl, ⟨_, c, rfl, (setM_self hM).symm, .inr ⟨rfl, fun h => hl h.1⟩⟩⟩
  · skip
    have h1' : ¬ (l.length ≠ 1) := (by have hh := bne_eq_false_iff_eq.1 h1; omega)
    clear h1
    exfalso; omega

set_option maxRecDepth 20000 in
theorem fill_ok4 (M : Nat → Option (List AV)) (c : Cfg) (cid : Nat) (fa : Field) (hlen : ∀ f ∈ [fa], f.text.length ≤ 4294967280) (hM : M cid = some (cells true c))  : ACall Tryz.prog 45 [.list false 78 [.gptr cid 9], .list false 50 (([fa] : List Field).map encF)] M (fun r M' => ∃ e c', r = zI e ∧ M' = setM M cid (cells true c') ∧ ((e = 0 ∧ FitsL 4 [fa] ∧ c' = setC c 4 ([fa].map fun f => (qv f.text : Int))) ∨ (e = 2 ∧ ¬ FitsL 4 [fa]))) := by
  have hlfa := hlen fa (by simp)
  refine ACall.of Tryz.func45 rfl (n := 37) rfl rfl rfl ?_
  refine zg ?_
  refine zM (zI 0) ?_
  refine zN ?_
  refine AWp.seq ?_
  refine zg ?_
  refine zM (.list false 50 (([fa] : List Field).map encF)) ?_
  refine zr (zL (([fa] : List Field).map encF) 1 Tryz.underlying46 rfl) ?_
  refine zM (.list false 78 [.gptr cid 9]) ?_
  refine zr (zL [.gptr cid 9] 1 Tryz.underlying75 rfl) ?_
  refine zr (zi false) ?_
  refine zN ?_
  refine AWp.cond (b := false) rfl (fun hx => by cases hx) (fun hx => ?_)
  refine AWp.skip ?_
  refine AWp.seq ?_
  refine zg ?_
  refine zM (.list false 50 (([fa] : List Field).map encF)) ?_
  refine zr (zL (([fa] : List Field).map encF) 1 Tryz.underlying46 rfl) ?_
  refine zM (zI 0) ?_
  refine zN ?_
  refine AWp.block ?_
  refine AWp.unroll 2 ?_
  refine AWp.round ?_
  refine zg ?_
  refine zr (zi true) ?_
  refine zN ?_
  refine AWp.seq ?_
  refine AWp.cond (b := true) rfl (fun hx => ?_) (fun hx => by cases hx)
  refine AWp.skip ?_
  refine AWp.seq ?_
  refine AWp.block ?_
  refine zg ?_
  refine zM (zI 0) ?_
  refine zr (zel 0 (encF fa) Tryz.underlying46 sizeOf_50 rfl) ?_
  refine zr (zlE (encF fa) Tryz.underlying50 sizeOf_50) ?_
  refine zal [] zero_50 [.str [], zI 0, zI 0] ?_
  refine zM (zI 0) ?_
  refine zst sizeOf_50 (encF fa) ?_
  refine zN ?_
  refine zg ?_
  refine zr (zfL Tryz.underlying50 sizeOf_9) ?_
  refine zr (zlL (.str fa.text) Tryz.underlying9 sizeOf_9) ?_
  refine zc [.str fa.text] Tryz.call66 (Read_any fa.text (by first | assumption | omega | (simp only [List.length_append, List.length_cons, List.length_nil]; omega)) M) ?_
  rintro _ _ ⟨rfl, rfl⟩
  refine zM (.tuple [zI ((qv fa.text : Nat) : Int), zI (qe fa.text)]) ?_
  refine zr (zx (zI ((qv fa.text : Nat) : Int))) ?_
  refine zr (zx (zI (qe fa.text))) ?_
  refine zM (zI ((qv fa.text : Nat) : Int)) ?_
  refine zM (zI (qe fa.text)) ?_
  refine zN ?_
  refine AWp.seq ?_
  refine zg ?_
  refine zM (zI (qe fa.text)) ?_
  refine zr (zi ((qe fa.text) != 0)) ?_
  refine zN ?_
  refine zC (b := (qe fa.text) != 0) rfl (fun h1 => ?_) (fun h1 => ?_)
  · skip
    have h1' : (qe fa.text) ≠ 0 := (by have hh := bne_iff_ne.1 h1; omega)
    clear h1
    refine zg ?_
    refine zM (zI (qe fa.text)) ?_
    refine zM (zI (qe fa.text)) ?_
    refine zN ?_
    refine AWp.ret ?_
    exact ⟨.inl rfl, _, ResOf.one 4 (zI (qe fa.text)) rfl rfl, ⟨_, c, rfl, (setM_self hM).symm, .inr ⟨qe_2 (by assumption), fun h => by simp_all [FitsL]⟩⟩⟩
  · skip
    have h1' : ¬ ((qe fa.text) ≠ 0) := (by have hh := bne_eq_false_iff_eq.1 h1; omega)
    clear h1
    refine AWp.skip ?_
    refine AWp.region ?_
    refine zM (.list false 78 [.gptr cid 9]) ?_
    refine zM (zI 0) ?_
    refine zr (zel 0 (.gptr cid 9) Tryz.underlying75 sizeOf_78 rfl) ?_
    refine zr (zlE (.gptr cid 9) Tryz.underlying78 sizeOf_78) ?_
    refine zM (zI ((qv fa.text : Nat) : Int)) ?_
    refine zr (znc (.gptr cid 9)) ?_
    refine AOps.storeG trivial rfl rfl rfl hM sizeOf_3 (.inl ⟨rfl, rfl⟩) rfl (v := zI ((qv fa.text : Nat) : Int)) rfl (all_flat rfl) rfl (Nat.le_of_ble_eq_true rfl) rfl ?_
    refine zN ?_
    refine AWp.region ?_
    refine zr (zd (0 + 1) 1) ?_
    refine zM (zI 1) ?_
    refine zN ?_
    refine AWp.weakTo (ls := [0, 1, 4, 14, 15, 16]) (ks := []) (s' := ⟨[(0, .list false 78 [.gptr cid 9]), (1, .list false 50 (([fa] : List Field).map encF)), (4, zI 0), (14, .list false 50 (([fa] : List Field).map encF)), (15, zI (1 : Int)), (16, zI 1)], [], (setM M cid [zI c.c0, zI c.c1, zI c.c2, zI c.a0, zI c.a1, zI c.a2, .list true 40 (c.thr.map encT), zI c.per, zI c.ret, zI ((qv fa.text : Nat) : Int), zI c.ded])⟩) rfl ?_
    refine AWp.round ?_
    refine zg ?_
    refine zr (zi false) ?_
    refine zN ?_
    refine AWp.seq ?_
    refine AWp.cond (b := false) rfl (fun hx => by cases hx) (fun hx => ?_)
    refine AWp.exit ?_
    refine zg ?_
    refine zM (zI 0) ?_
    refine zN ?_
    refine AWp.ret ?_
    exact ⟨.inl rfl, _, ResOf.one 4 (zI 0) rfl rfl, ⟨_, setC c 4 ([fa].map fun f => (qv f.text : Int)), rfl, rfl, .inl ⟨rfl, ⟨rfl, by simp; omega⟩, rfl⟩⟩⟩

set_option maxRecDepth 20000 in
theorem fill_no4 (M : Nat → Option (List AV)) (c : Cfg) (cid : Nat) (l : List Field) (hl : l.length ≠ 1) (hM : M cid = some (cells true c))  : ACall Tryz.prog 45 [.list false 78 [.gptr cid 9], .list false 50 (l.map encF)] M (fun r M' => ∃ e c', r = zI e ∧ M' = setM M cid (cells true c') ∧ ((e = 0 ∧ FitsL 4 l ∧ c' = setC c 4 (l.map fun f => (qv f.text : Int))) ∨ (e = 2 ∧ ¬ FitsL 4 l))) := by
  refine ACall.of Tryz.func45 rfl (n := 37) rfl rfl rfl ?_
  refine zg ?_
  refine zM (zI 0) ?_
  refine zN ?_
  refine AWp.seq ?_
  refine zg ?_
  refine zM (.list false 50 (l.map encF)) ?_
  refine zr (zL (l.map encF) l.length Tryz.underlying46 (by simp)) ?_
  refine zM (.list false 78 [.gptr cid 9]) ?_
  refine zr (zL [.gptr cid 9] 1 Tryz.underlying75 rfl) ?_
  refine zr (zi ((l.length : Int) != (1 : Int))) ?_
  refine zN ?_
  refine zC (b := (l.length : Int) != (1 : Int)) rfl (fun h1 => ?_) (fun h1 => ?_)
  · skip
    have h1' : l.length ≠ 1 := (by have hh := bne_iff_ne.1 h1; omega)
    clear h1
    refine zg ?_
    refine zM (zI 2) ?_
    refine zN ?_
    refine AWp.ret ?_
    exact ⟨.inl rfl, _, ResOf.one 4 (zI 2) rfl rfl, ⟨_, c, rfl, (setM_self hM).symm, .inr ⟨rfl, fun h => hl h.1⟩⟩⟩
  · skip
    have h1' : ¬ (l.length ≠ 1) := (by have hh := bne_eq_false_iff_eq.1 h1; omega)
    clear h1
    exfalso; omega

set_option maxRecDepth 20000 in
theorem fill_ok5 (M : Nat → Option (List AV)) (c : Cfg) (cid : Nat) (fa : Field) (hlen : ∀ f ∈ [fa], f.text.length ≤ 4294967280) (hM : M cid = some (cells true c))  : ACall Tryz.prog 45 [.list false 78 [.gptr cid 10], .list false 50 (([fa] : List Field).map encF)] M (fun r M' => ∃ e c', r = zI e ∧ M' = setM M cid (cells true c') ∧ ((e = 0 ∧ FitsL 5 [fa] ∧ c' = setC c 5 ([fa].map fun f => (qv f.text : Int))) ∨ (e = 2 ∧ ¬ FitsL 5 [fa]))) := by
  have hlfa := hlen fa (by simp)
  refine ACall.of Tryz.func45 rfl (n := 37) rfl rfl rfl ?_
  refine zg ?_
  refine zM (zI 0) ?_
  refine zN ?_
  refine AWp.seq ?_
  refine zg ?_
  refine zM (.list false 50 (([fa] : List Field).map encF)) ?_
  refine zr (zL (([fa] : List Field).map encF) 1 Tryz.underlying46 rfl) ?_
  refine zM (.list false 78 [.gptr cid 10]) ?_
  refine zr (zL [.gptr cid 10] 1 Tryz.underlying75 rfl) ?_
  refine zr (zi false) ?_
  refine zN ?_
  refine AWp.cond (b := false) rfl (fun hx => by cases hx) (fun hx => ?_)
  refine AWp.skip ?_
  refine AWp.seq ?_
  refine zg ?_
  refine zM (.list false 50 (([fa] : List Field).map encF)) ?_
  refine zr (zL (([fa] : List Field).map encF) 1 Tryz.underlying46 rfl) ?_
  refine zM (zI 0) ?_
  refine zN ?_
  refine AWp.block ?_
  refine AWp.unroll 2 ?_
  refine AWp.round ?_
  refine zg ?_
  refine zr (zi true) ?_
  refine zN ?_
  refine AWp.seq ?_
  refine AWp.cond (b := true) rfl (fun hx => ?_) (fun hx => by cases hx)
  refine AWp.skip ?_
  refine AWp.seq ?_
  refine AWp.block ?_
  refine zg ?_
  refine zM (zI 0) ?_
  refine zr (zel 0 (encF fa) Tryz.underlying46 sizeOf_50 rfl) ?_
  refine zr (zlE (encF fa) Tryz.underlying50 sizeOf_50) ?_
  refine zal [] zero_50 [.str [], zI 0, zI 0] ?_
  refine zM (zI 0) ?_
  refine zst sizeOf_50 (encF fa) ?_
  refine zN ?_
  refine zg ?_
  refine zr (zfL Tryz.underlying50 sizeOf_9) ?_
  refine zr (zlL (.str fa.text) Tryz.underlying9 sizeOf_9) ?_
  refine zc [.str fa.text] Tryz.call66 (Read_any fa.text (by first | assumption | omega | (simp only [List.length_append, List.length_cons, List.length_nil]; omega)) M) ?_
  rintro _ _ ⟨rfl, rfl⟩
  refine zM (.tuple [zI ((qv fa.text : Nat) : Int), zI (qe fa.text)]) ?_
  refine zr (zx (zI ((qv fa.text : Nat) : Int))) ?_
  refine zr (zx (zI (qe fa.text))) ?_
  refine zM (zI ((qv fa.text : Nat) : Int)) ?_
  refine zM (zI (qe fa.text)) ?_
  refine zN ?_
  refine AWp.seq ?_
  refine zg ?_
  refine zM (zI (qe fa.text)) ?_
  refine zr (zi ((qe fa.text) != 0)) ?_
  refine zN ?_
  refine zC (b := (qe fa.text) != 0) rfl (fun h1 => ?_) (fun h1 => ?_)
  · skip
    have h1' : (qe fa.text) ≠ 0 := (by have hh := bne_iff_ne.1 h1; omega)
    clear h1
    refine zg ?_
    refine zM (zI (qe fa.text)) ?_
    refine zM (zI (qe fa.text)) ?_
    refine zN ?_
    refine AWp.ret ?_
    exact ⟨.inl rfl, _, ResOf.one 4 (zI (qe fa.text)) rfl rfl, ⟨_, c, rfl, (setM_self hM).symm, .inr ⟨qe_2 (by assumption), fun h => by simp_all [FitsL]⟩⟩⟩
  · skip
    have h1' : ¬ ((qe fa.text) ≠ 0) := (by have hh := bne_eq_false_iff_eq.1 h1; omega)
    clear h1
    refine AWp.skip ?_
    refine AWp.region ?_
    refine zM (.list false 78 [.gptr cid 10]) ?_
    refine zM (zI 0) ?_
    refine zr (zel 0 (.gptr cid 10) Tryz.underlying75 sizeOf_78 rfl) ?_
    refine zr (zlE (.gptr cid 10) Tryz.underlying78 sizeOf_78) ?_
    refine zM (zI ((qv fa.text : Nat) : Int)) ?_
    refine zr (znc (.gptr cid 10)) ?_
    refine AOps.storeG trivial rfl rfl rfl hM sizeOf_3 (.inl ⟨rfl, rfl⟩) rfl (v := zI ((qv fa.text : Nat) : Int)) rfl (all_flat rfl) rfl (Nat.le_of_ble_eq_true rfl) rfl ?_
    refine zN ?_
    refine AWp.region ?_
    refine zr (zd (0 + 1) 1) ?_
    refine zM (zI 1) ?_
    refine zN ?_
    refine AWp.weakTo (ls := [0, 1, 4, 14, 15, 16]) (ks := []) (s' := ⟨[(0, .list false 78 [.gptr cid 10]), (1, .list false 50 (([fa] : List Field).map encF)), (4, zI 0), (14, .list false 50 (([fa] : List Field).map encF)), (15, zI (1 : Int)), (16, zI 1)], [], (setM M cid [zI c.c0, zI c.c1, zI c.c2, zI c.a0, zI c.a1, zI c.a2, .list true 40 (c.thr.map encT), zI c.per, zI c.ret, zI c.age, zI ((qv fa.text : Nat) : Int)])⟩) rfl ?_
    refine AWp.round ?_
    refine zg ?_
    refine zr (zi false) ?_
    refine zN ?_
    refine AWp.seq ?_
    refine AWp.cond (b := false) rfl (fun hx => by cases hx) (fun hx => ?_)
    refine AWp.exit ?_
    refine zg ?_
    refine zM (zI 0) ?_
    refine zN ?_
    refine AWp.ret ?_
    exact ⟨.inl rfl, _, ResOf.one 4 (zI 0) rfl rfl, ⟨_, setC c 5 ([fa].map fun f => (qv f.text : Int)), rfl, rfl, .inl ⟨rfl, ⟨rfl, by simp; omega⟩, rfl⟩⟩⟩

set_option maxRecDepth 20000 in
theorem fill_no5 (M : Nat → Option (List AV)) (c : Cfg) (cid : Nat) (l : List Field) (hl : l.length ≠ 1) (hM : M cid = some (cells true c))  : ACall Tryz.prog 45 [.list false 78 [.gptr cid 10], .list false 50 (l.map encF)] M (fun r M' => ∃ e c', r = zI e ∧ M' = setM M cid (cells true c') ∧ ((e = 0 ∧ FitsL 5 l ∧ c' = setC c 5 (l.map fun f => (qv f.text : Int))) ∨ (e = 2 ∧ ¬ FitsL 5 l))) := by
  refine ACall.of Tryz.func45 rfl (n := 37) rfl rfl rfl ?_
  refine zg ?_
  refine zM (zI 0) ?_
  refine zN ?_
  refine AWp.seq ?_
  refine zg ?_
  refine zM (.list false 50 (l.map encF)) ?_
  refine zr (zL (l.map encF) l.length Tryz.underlying46 (by simp)) ?_
  refine zM (.list false 78 [.gptr cid 10]) ?_
  refine zr (zL [.gptr cid 10] 1 Tryz.underlying75 rfl) ?_
  refine zr (zi ((l.length : Int) != (1 : Int))) ?_
  refine zN ?_
  refine zC (b := (l.length : Int) != (1 : Int)) rfl (fun h1 => ?_) (fun h1 => ?_)
  · skip
    have h1' : l.length ≠ 1 := (by have hh := bne_iff_ne.1 h1; omega)
    clear h1
    refine zg ?_
    refine zM (zI 2) ?_
    refine zN ?_
    refine AWp.ret ?_
    exact ⟨.inl rfl, _, ResOf.one 4 (zI 2) rfl rfl, ⟨_, c, rfl, (setM_self hM).symm, .inr ⟨rfl, fun h => hl h.1⟩⟩⟩
  · skip
    have h1' : ¬ (l.length ≠ 1) := (by have hh := bne_eq_false_iff_eq.1 h1; omega)
    clear h1
    exfalso; omega

theorem fill_any (M : Nat → Option (List AV)) (c : Cfg) (cid : Nat) (k : Int) (hk : 0 ≤ k) (l : List Field) (hlen : ∀ f ∈ l, f.text.length ≤ 4294967280) (hM : M cid = some (cells true c)) (hk5 : k ≤ 5) :
    ACall Tryz.prog 45 [.list false 78 (ptrs cid k), .list false 50 (l.map encF)] M (fun r M' => ∃ e c', r = zI e ∧ M' = setM M cid (cells true c') ∧ ((e = 0 ∧ FitsL k l ∧ c' = setC c k (l.map fun f => (qv f.text : Int))) ∨ (e = 2 ∧ ¬ FitsL k l))) := by
  have hh : k = 0 ∨ k = 1 ∨ k = 2 ∨ k = 3 ∨ k = 4 ∨ k = 5 := by omega
  rcases hh with rfl | rfl | rfl | rfl | rfl | rfl
  · by_cases hl : l.length = 3
    · match l, hl with
      | [fa, fb, fc], _ => exact fill_ok0 M c cid fa fb fc hlen hM
    · exact fill_no0 M c cid l hl hM
  · by_cases hl : l.length = 3
    · match l, hl with
      | [fa, fb, fc], _ => exact fill_ok1 M c cid fa fb fc hlen hM
    · exact fill_no1 M c cid l hl hM
  · by_cases hl : l.length = 1
    · match l, hl with
      | [fa], _ => exact fill_ok2 M c cid fa hlen hM
    · exact fill_no2 M c cid l hl hM
  · by_cases hl : l.length = 1
    · match l, hl with
      | [fa], _ => exact fill_ok3 M c cid fa hlen hM
    · exact fill_no3 M c cid l hl hM
  · by_cases hl : l.length = 1
    · match l, hl with
      | [fa], _ => exact fill_ok4 M c cid fa hlen hM
    · exact fill_no4 M c cid l hl hM
  · by_cases hl : l.length = 1
    · match l, hl with
      | [fa], _ => exact fill_ok5 M c cid fa hlen hM
    · exact fill_no5 M c cid l hl hM
end
end Go.Proofs.YtmmfkpbkacfegaaGreatDoor
