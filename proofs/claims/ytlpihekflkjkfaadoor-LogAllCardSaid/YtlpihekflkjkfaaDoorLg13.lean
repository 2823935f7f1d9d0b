/- Walks over abstract values, printed by my program av.py. -/
import Derived.Test.YtlpihekflkjkfaaDoorLg9
import Derived.Test.YtlpihekflkjkfaaDoorAvZ
namespace Go.Proofs.YtlpihekflkjkfaaDoor
open Go.RowKit

def FewS (x : Stp) : Prop := x.evs.length ≤ 30 ∧ ∀ q, q < x.evs.length → (x.evs.getD q e0).id.length ≤ 80
def FewP (l : List Stp) : Prop := l.length ≤ 40 ∧ ∀ p, p < l.length → FewS (l.getD p s0)
theorem few_step {l : List Stp} {i : Nat} (hf : ∀ p, p < i → FewS (l.getD p s0)) (h1 : (l.getD i s0).evs.length ≤ 30) (h2 : ∀ q, q < (l.getD i s0).evs.length → ((l.getD i s0).evs.getD q e0).id.length ≤ 80) : ∀ p, p < i + 1 → FewS (l.getD p s0) := by
  intro p hp
  by_cases h : p = i
  · subst h; exact ⟨h1, h2⟩
  · exact hf p (by omega)
theorem few_next {es : List Ev} {k : Nat} (hg : ∀ q, q < k → (es.getD q e0).id.length ≤ 80) (h : (es.getD k e0).id.length ≤ 80) : ∀ q, q < k + 1 → (es.getD q e0).id.length ≤ 80 := by
  intro q hq
  by_cases e : q = k
  · subst e; exact h
  · exact hg q (by omega)
theorem few_end {l : List Stp} {i : Nat} (h : (l.length : Int) ≤ 40) (hf : ∀ p, p < i → FewS (l.getD p s0)) (hx : ¬ (i < l.length ∧ i < 60)) : FewP l := ⟨by omega, fun p hp => hf p (by omega)⟩
theorem getD_mem' {α : Type} {l : List α} {i : Nat} {d : α} (h : i < l.length) : l.getD i d ∈ l := by
  rw [List.getD_eq_getElem?_getD, List.getElem?_eq_getElem h]; exact List.getElem_mem h
theorem mem_getD {α : Type} {l : List α} {x : α} (d : α) (h : x ∈ l) : ∃ i, i < l.length ∧ l.getD i d = x := by
  obtain ⟨i, hi, rfl⟩ := List.getElem_of_mem h
  exact ⟨i, hi, by rw [List.getD_eq_getElem?_getD, List.getElem?_eq_getElem hi]; rfl⟩
theorem len_at {l : List Stp} (hb : ∀ x ∈ l, x.evs.length ≤ 9223372036854775807) {i : Nat} (h : i < l.length) : (l.getD i s0).evs.length ≤ 9223372036854775807 := hb _ (getD_mem' h)
theorem few_at {l : List Stp} (h : FewP l) {i : Nat} : (l.getD i s0).evs.length ≤ 30 := by
  by_cases hi : i < l.length
  · exact (h.2 i hi).1
  · rw [List.getD_eq_getElem?_getD, List.getElem?_eq_none (by omega)]; exact Nat.zero_le _
theorem few_good {l : List Stp} (h : FewP l) (hn : ∀ x ∈ l, ∀ e ∈ x.evs, -9223372036854775808 ≤ e.n ∧ e.n ≤ 9223372036854775807) : GoodS l := by
  intro x hx e he
  refine ⟨?_, hn x hx e he⟩
  obtain ⟨p, hp, rfl⟩ := mem_getD s0 hx
  obtain ⟨q, hq, rfl⟩ := mem_getD e0 he
  have := (h.2 p hp).2 q hq
  omega
theorem few_len {l : List Stp} (h : FewP l) : (evsOf l).length ≤ 1200 := by
  have key : ∀ (r : List Stp), (∀ x ∈ r, x.evs.length ≤ 30) → (evsOf r).length ≤ r.length * 30 := by
    intro r
    induction r with
    | nil => intro _; exact Nat.le_refl _
    | cons a r ih =>
      intro hr
      have h1 := hr a (List.mem_cons_self ..)
      have h2 := ih fun x hx => hr x (List.mem_cons_of_mem _ hx)
      have e : evsOf (a :: r) = (a.evs.map fun e => (a.rd, e)) ++ evsOf r := by simp [evsOf]
      rw [e, List.length_append, List.length_map, List.length_cons, Nat.add_mul]
      omega
  have := key l (fun x hx => by
    obtain ⟨p, hp, rfl⟩ := mem_getD s0 hx
    exact (h.2 p hp).1)
  have := h.1
  omega
theorem few_gl {l : List Stp} (h : FewP l) : (evsOf l).length ≤ 4294967280 := Nat.le_trans (few_len h) (by omega)
theorem few_l {l : List Stp} (h : FewP l) : l.length ≤ 4294967280 := by have := h.1; omega
theorem lines_len (l : List Stp) : (linesL l).length ≤ (evsOf l).length := by
  unfold linesL; split
  · rw [List.length_map]; exact Nat.le_refl _
  · exact Nat.zero_le _
theorem ints17 {c : List Int} (h : c.length = 17) : ∃ q0 q1 q2 q3 q4 q5 q6 q7 q8 q9 q10 q11 q12 q13 q14 q15 q16, c = [q0, q1, q2, q3, q4, q5, q6, q7, q8, q9, q10, q11, q12, q13, q14, q15, q16] := by
  match c, h with
  | [q0, q1, q2, q3, q4, q5, q6, q7, q8, q9, q10, q11, q12, q13, q14, q15, q16], _ => exact ⟨_, _, _, _, _, _, _, _, _, _, _, _, _, _, _, _, _, rfl⟩
section
variable {P : Program} {n : Nat} {s : St} {ops : Array Oper} {QE : Exit → St → Prop}
/-- A region that draws its order, of which no more is told than that something is so. -/
theorem AWp.anyX {ι : Type} {id : Nat} (ls ks : List Nat) (S : ι → St) (φ : ι → Prop) (hm : P.follows .mixedOrders = true) (h : SAny P n ops (fun s' => ∃ i, φ i ∧ s'.keep ls ks = S i) ops.size (Array.replicate ops.size false) s) (k : ∀ i, φ i → QE .normal (S i)) : AWp P n (.region id ops true) s QE := by
  intro G a w K hr hfx hK
  refine Code.wp_mono (Q := fun e a w => e = .normal ∧ K .normal a w) (fun e a w h => by obtain ⟨rfl, h⟩ := h; exact h) ?_
  refine wp_region_any hm ?_
  obtain ⟨hr1, hk1⟩ := hr.later (w' := { w with drawn := w.drawn + 1 }) ⟨rfl, rfl, rfl, Nat.le_refl _, fun _ _ => rfl⟩
  refine h G a _ (fun a w => K .normal a w) hr1 (hfx.keep hk1) fun s' G' a' w' hq hr' hk' => ?_
  obtain ⟨i, hi, e⟩ := hq
  refine hK .normal (S i) G' a' w' (k i hi) ?_ (hk1.trans hk')
  have := hr'.keep ls ks
  rw [e] at this
  exact this
end

set_option maxRecDepth 20000 in
theorem few_any (l : List Stp) (hll : l.length ≤ 9223372036854775807) (hb : ∀ x ∈ l, x.evs.length ≤ 9223372036854775807) (M : Nat → Option (List AV)) : ACall Tryd.prog 27 [.list false 57 (l.map encS)] M (fun r M' => (∃ b, r = zB b ∧ (b = true → FewP l)) ∧ M = M') := by
  refine ACall.of Tryd.func27 rfl (n := 46) rfl rfl rfl ?_
  refine zg ?_
  refine zM (zB false) ?_
  refine zN ?_
  refine AWp.seq ?_
  refine zg ?_
  refine zM (zI 0) ?_
  refine zN ?_
  refine AWp.block ?_
  refine AWp.loopE [0, 3] [] (fun m s => ∃ (i : Nat), m = 60 - i ∧ s = ⟨[(0, .list false 57 (l.map encS)), (3, zI (i : Int))], [], M⟩ ∧ (i ≤ l.length) ∧ (∀ p, p < i → FewS (l.getD p s0))) ?_ ?_
  · exact ⟨_, 0, rfl, rfl, Nat.zero_le _, fun p h => absurd h (Nat.not_lt_zero _)⟩
  · rintro _ _ ⟨i, rfl, rfl, hi, hf⟩
    refine AWp.seq ?_
    refine zj 12 [(0, .list false 57 (l.map encS)), (3, zI (i : Int))] [] M (bif (decide ((i : Int) < (l.length : Int))) then (decide ((i : Int) < 60)) else false) ?_ ?_
    · skip
      refine zM (zI (i : Int)) ?_
      refine zM (.list false 57 (l.map encS)) ?_
      refine zr (zL (l.map encS) l.length Tryd.underlying48 (by simp)) ?_
      refine zr (zi (decide ((i : Int) < (l.length : Int)))) ?_
      refine zM (zB (decide ((i : Int) < (l.length : Int)))) ?_
      refine AOps.splitJ (t := 9) (b := decide ((i : Int) < (l.length : Int))) (x := (decide ((i : Int) < 60))) (y := false) rfl (fun h1 => ?_) (fun h1 => ?_)
      · skip
        have h1' : i < l.length := (by have hh := of_decide_eq_true h1; omega)
        clear h1
        refine zM (zI (i : Int)) ?_
        refine zr (zi (decide ((i : Int) < 60))) ?_
        refine zr (zp true (zB (decide ((i : Int) < 60)))) ?_
        exact AOps.nil rfl
      · skip
        have h1' : ¬ (i < l.length) := (by have hh := of_decide_eq_false h1; omega)
        clear h1
        refine zs ?_
        refine zs ?_
        refine zr (zp false (zB false)) ?_
        exact AOps.nil rfl
    have hz1 : (bif (decide ((i : Int) < (l.length : Int))) then (decide ((i : Int) < 60)) else false) = decide (i < l.length ∧ i < 60) := by rw [Bool.eq_iff_iff, decide_eq_true_iff]; simp only [Bool.cond_eq_ite]; (repeat' split) <;> simp_all <;> omega
    refine zC (b := bif (decide ((i : Int) < (l.length : Int))) then (decide ((i : Int) < 60)) else false) rfl (fun h2 => ?_) (fun h2 => ?_)
    · skip
      have h2' : i < l.length ∧ i < 60 := (of_decide_eq_true (hz1.symm.trans h2))
      clear h2
      refine AWp.skip ?_
      refine AWp.seq ?_
      refine AWp.block ?_
      refine AWp.seq ?_
      refine zg ?_
      refine zM (.list false 57 (l.map encS)) ?_
      refine zM (zI (i : Int)) ?_
      refine zr (zel i (encS (l.getD i s0)) Tryd.underlying48 sizeOf_57 (encS_at (by omega))) ?_
      refine zr (zfE Tryd.underlying57 sizeOf_51) ?_
      refine zr (zlE (.list false 34 ((l.getD i s0).evs.map encE)) Tryd.underlying51 sizeOf_51) ?_
      refine zr (zL ((l.getD i s0).evs.map encE) ((l.getD i s0).evs.length) Tryd.underlying51 (by simp)) ?_
      refine zr (zi (decide ((((l.getD i s0).evs.length : Nat) : Int) > 30))) ?_
      refine zN ?_
      refine zC (b := decide ((((l.getD i s0).evs.length : Nat) : Int) > 30)) rfl (fun h3 => ?_) (fun h3 => ?_)
      · skip
        have h3' : ((l.getD i s0).evs.length) > 30 := (by have hh := of_decide_eq_true h3; omega)
        clear h3
        refine zg ?_
        refine zM (zB false) ?_
        refine zN ?_
        refine AWp.ret ?_
        exact ⟨.inl rfl, _, ResOf.one 2 (zB false) rfl rfl, ⟨⟨false, rfl, fun h => by cases h⟩, rfl⟩⟩
      · skip
        have h3' : ¬ (((l.getD i s0).evs.length) > 30) := (by have hh := of_decide_eq_false h3; omega)
        clear h3
        refine AWp.skip ?_
        refine zg ?_
        refine zM (zI 0) ?_
        refine zN ?_
        refine AWp.block ?_
        refine AWp.loopE [0, 3, 4] [] (fun m s => ∃ (k : Nat), m = (l.getD i s0).evs.length - k ∧ s = ⟨[(0, .list false 57 (l.map encS)), (3, zI (i : Int)), (4, zI (k : Int))], [], M⟩ ∧ (k ≤ (l.getD i s0).evs.length) ∧ (∀ q, q < k → ((l.getD i s0).evs.getD q e0).id.length ≤ 80)) ?_ ?_
        · exact ⟨_, 0, rfl, rfl, Nat.zero_le _, fun q h => absurd h (Nat.not_lt_zero _)⟩
        · rintro _ _ ⟨k, rfl, rfl, hk, hg⟩
          have hel := len_at hb (i := i) (by omega)
          refine AWp.seq ?_
          refine zg ?_
          refine zM (zI (k : Int)) ?_
          refine zM (.list false 57 (l.map encS)) ?_
          refine zM (zI (i : Int)) ?_
          refine zr (zel i (encS (l.getD i s0)) Tryd.underlying48 sizeOf_57 (encS_at (by omega))) ?_
          refine zr (zfE Tryd.underlying57 sizeOf_51) ?_
          refine zr (zlE (.list false 34 ((l.getD i s0).evs.map encE)) Tryd.underlying51 sizeOf_51) ?_
          refine zr (zL ((l.getD i s0).evs.map encE) ((l.getD i s0).evs.length) Tryd.underlying51 (by simp)) ?_
          refine zr (zi (decide ((k : Int) < (((l.getD i s0).evs.length : Nat) : Int)))) ?_
          refine zN ?_
          refine zC (b := decide ((k : Int) < (((l.getD i s0).evs.length : Nat) : Int))) rfl (fun h4 => ?_) (fun h4 => ?_)
          · skip
            have h4' : k < ((l.getD i s0).evs.length) := (by have hh := of_decide_eq_true h4; omega)
            clear h4
            refine AWp.skip ?_
            refine AWp.seq ?_
            refine AWp.block ?_
            refine zg ?_
            refine zM (.list false 57 (l.map encS)) ?_
            refine zM (zI (i : Int)) ?_
            refine zr (zel i (encS (l.getD i s0)) Tryd.underlying48 sizeOf_57 (encS_at (by omega))) ?_
            refine zr (zfE Tryd.underlying57 sizeOf_51) ?_
            refine zr (zlE (.list false 34 ((l.getD i s0).evs.map encE)) Tryd.underlying51 sizeOf_51) ?_
            refine zM (zI (k : Int)) ?_
            refine zr (zel k (encE ((l.getD i s0).evs.getD k e0)) Tryd.underlying51 sizeOf_34 (encE_at (by omega))) ?_
            refine zr (zfE Tryd.underlying34 sizeOf_9) ?_
            refine zr (zlE (.str (((l.getD i s0).evs.getD k e0).id)) Tryd.underlying9 sizeOf_9) ?_
            refine zr (zS (((l.getD i s0).evs.getD k e0).id) ((((l.getD i s0).evs.getD k e0).id).length) Tryd.underlying9 (by first | rfl | simp)) ?_
            refine zr (zi (decide ((((((l.getD i s0).evs.getD k e0).id).length : Nat) : Int) > 80))) ?_
            refine zN ?_
            refine zC (b := decide ((((((l.getD i s0).evs.getD k e0).id).length : Nat) : Int) > 80)) rfl (fun h5 => ?_) (fun h5 => ?_)
            · skip
              have h5' : ((((l.getD i s0).evs.getD k e0).id).length) > 80 := (by have hh := of_decide_eq_true h5; omega)
              clear h5
              refine zg ?_
              refine zM (zB false) ?_
              refine zN ?_
              refine AWp.ret ?_
              exact ⟨.inl rfl, _, ResOf.one 2 (zB false) rfl rfl, ⟨⟨false, rfl, fun h => by cases h⟩, rfl⟩⟩
            · skip
              have h5' : ¬ (((((l.getD i s0).evs.getD k e0).id).length) > 80) := (by have hh := of_decide_eq_false h5; omega)
              clear h5
              refine AWp.skip ?_
              refine AWp.region ?_
              refine zM (zI (k : Int)) ?_
              refine zr (zw ((k : Int) + 1) ((k + 1 : Nat) : Int)) ?_
              refine zM (zI ((k + 1 : Nat) : Int)) ?_
              refine zN ?_
              exact ⟨_, by omega, k + 1, rfl, rfl, by omega, few_next hg (by omega)⟩
          · skip
            have h4' : ¬ (k < ((l.getD i s0).evs.length)) := (by have hh := of_decide_eq_false h4; omega)
            clear h4
            refine AWp.exit ?_
            refine AWp.region ?_
            refine zM (zI (i : Int)) ?_
            refine zr (zw ((i : Int) + 1) ((i + 1 : Nat) : Int)) ?_
            refine zM (zI ((i + 1 : Nat) : Int)) ?_
            refine zN ?_
            exact ⟨_, by omega, i + 1, rfl, rfl, by omega, few_step hf (by omega) (fun q h => hg q (by omega))⟩
    · skip
      have h2' : ¬ (i < l.length ∧ i < 60) := (of_decide_eq_false (hz1.symm.trans h2))
      clear h2
      refine AWp.exit ?_
      refine zg ?_
      refine zM (.list false 57 (l.map encS)) ?_
      refine zr (zL (l.map encS) l.length Tryd.underlying48 (by simp)) ?_
      refine zr (zi (decide ((l.length : Int) ≤ 40))) ?_
      refine zM (zB (decide ((l.length : Int) ≤ 40))) ?_
      refine zN ?_
      refine AWp.ret ?_
      exact ⟨.inl rfl, _, ResOf.one 2 (zB (decide ((l.length : Int) ≤ 40))) rfl rfl, ⟨⟨_, rfl, fun h => few_end (of_decide_eq_true h) hf (by omega)⟩, rfl⟩⟩

set_option maxRecDepth 20000 in
theorem sameT_any (ws : List (List UInt8)) (hw : ws.length ≤ 4294967280) (M : Nat → Option (List AV)) : ACall Tryd.prog 30 [.list false 9 (ws.map AV.str), .list false 9 (ws.map AV.str)] M (fun r M' => r = zB true ∧ M = M') := by
  refine ACall.of Tryd.func30 rfl (n := 26) rfl rfl rfl ?_
  refine zg ?_
  refine zM (zB false) ?_
  refine zN ?_
  refine AWp.seq ?_
  refine zg ?_
  refine zM (.list false 9 (ws.map AV.str)) ?_
  refine zr (zL (ws.map AV.str) ws.length Tryd.underlying23 (by simp)) ?_
  refine zM (.list false 9 (ws.map AV.str)) ?_
  refine zr (zL (ws.map AV.str) ws.length Tryd.underlying23 (by simp)) ?_
  refine zr (zi ((ws.length : Int) != (ws.length : Int))) ?_
  refine zN ?_
  refine zC (b := (ws.length : Int) != (ws.length : Int)) rfl (fun h1 => ?_) (fun h1 => ?_)
  · skip
    have h1' : ws.length ≠ ws.length := (by have hh := bne_iff_ne.1 h1; omega)
    clear h1
    exfalso; first | omega | exact absurd rfl (by assumption)
  · skip
    have h1' : ¬ (ws.length ≠ ws.length) := (by have hh := bne_eq_false_iff_eq.1 h1; omega)
    clear h1
    refine AWp.skip ?_
    refine AWp.seq ?_
    refine zg ?_
    refine zM (zI 0) ?_
    refine zN ?_
    refine AWp.block ?_
    refine AWp.loopE [0, 1, 5] [] (fun m s => ∃ (i : Nat), m = ws.length - i ∧ s = ⟨[(0, .list false 9 (ws.map AV.str)), (1, .list false 9 (ws.map AV.str)), (5, zI (i : Int))], [], M⟩ ∧ (i ≤ ws.length)) ?_ ?_
    · exact ⟨_, 0, rfl, rfl, Nat.zero_le _⟩
    · rintro _ _ ⟨i, rfl, rfl, hi⟩
      refine AWp.seq ?_
      refine zg ?_
      refine zM (zI (i : Int)) ?_
      refine zM (.list false 9 (ws.map AV.str)) ?_
      refine zr (zL (ws.map AV.str) ws.length Tryd.underlying23 (by simp)) ?_
      refine zr (zi (decide ((i : Int) < (ws.length : Int)))) ?_
      refine zN ?_
      refine zC (b := decide ((i : Int) < (ws.length : Int))) rfl (fun h2 => ?_) (fun h2 => ?_)
      · skip
        have h2' : i < ws.length := (by have hh := of_decide_eq_true h2; omega)
        clear h2
        refine AWp.skip ?_
        refine AWp.seq ?_
        refine AWp.block ?_
        refine AWp.seq (AWp.anyR [0, 1, 5, 14, 25] [] (⟨[(0, .list false 9 (ws.map AV.str)), (1, .list false 9 (ws.map AV.str)), (5, zI (i : Int)), (14, zB (decide ((i : Int) < (ws.length : Int)))), (25, zB (!((ws.getD i []) == (ws.getD i []))))], [], M⟩) (by kernel_rfl) ?_ ?_)
        · skip
          skip
          refine zkm 0 (.list false 9 (ws.map AV.str)) ?_
          refine zkm 1 (zI (i : Int)) ?_
          refine zk 2 rfl (PReader.elemAddr (m := i) rfl Tryd.underlying23 sizeOf_9 rfl rfl rfl (e := .str (ws.getD i [])) (strs_at (by first | omega | (show _ < 0; omega)))) ?_
          refine zkm 4 (.list false 9 (ws.map AV.str)) ?_
          refine zkm 5 (zI (i : Int)) ?_
          refine zk 6 rfl (PReader.elemAddr (m := i) rfl Tryd.underlying23 sizeOf_9 rfl rfl rfl (e := .str (ws.getD i [])) (strs_at (by first | omega | (show _ < 0; omega)))) ?_
          refine zq [3, 7] ⟨⟨_, rfl, ?_⟩, ⟨_, rfl, ?_⟩, trivial⟩
          · skip
            refine zr (zlE (.str (ws.getD i [])) Tryd.underlying9 sizeOf_9) ?_
            refine zN ?_
            refine zq [7] ⟨⟨_, rfl, ?_⟩, trivial⟩
            · skip
              refine zr (zlE (.str (ws.getD i [])) Tryd.underlying9 sizeOf_9) ?_
              refine zN ?_
              refine zk 8 rfl (PReader.strs rfl rfl rfl (r := !((ws.getD i []) == (ws.getD i []))) rfl) ?_
              exact SAny.done (by kernel_rfl) rfl
          · skip
            refine zr (zlE (.str (ws.getD i [])) Tryd.underlying9 sizeOf_9) ?_
            refine zN ?_
            refine zq [3] ⟨⟨_, rfl, ?_⟩, trivial⟩
            · skip
              refine zr (zlE (.str (ws.getD i [])) Tryd.underlying9 sizeOf_9) ?_
              refine zN ?_
              refine zk 8 rfl (PReader.strs rfl rfl rfl (r := !((ws.getD i []) == (ws.getD i []))) rfl) ?_
              exact SAny.done (by kernel_rfl) rfl
        refine zC (b := !((ws.getD i []) == (ws.getD i []))) rfl (fun h3 => ?_) (fun h3 => ?_)
        · skip
          have h3' : ¬ ((ws.getD i []) = (ws.getD i [])) := (beq_eq_false_iff_ne.1 (bnot_t h3))
          clear h3
          exfalso; first | omega | exact absurd rfl (by assumption)
        · skip
          have h3' : (ws.getD i []) = (ws.getD i []) := (eq_of_beq (bnot_f h3))
          clear h3
          refine AWp.skip ?_
          refine AWp.region ?_
          refine zM (zI (i : Int)) ?_
          refine zr (zw ((i : Int) + 1) ((i + 1 : Nat) : Int)) ?_
          refine zM (zI ((i + 1 : Nat) : Int)) ?_
          refine zN ?_
          exact ⟨_, by omega, i + 1, rfl, rfl, by omega⟩
      · skip
        have h2' : ¬ (i < ws.length) := (by have hh := of_decide_eq_false h2; omega)
        clear h2
        refine AWp.exit ?_
        refine zg ?_
        refine zM (zB true) ?_
        refine zN ?_
        refine AWp.ret ?_
        exact ⟨.inl rfl, _, ResOf.one 4 (zB true) rfl rfl, ⟨rfl, rfl⟩⟩

set_option maxRecDepth 20000 in
theorem sameE_any (es : List Ev) (hw : es.length ≤ 4294967280) (M : Nat → Option (List AV)) : ACall Tryd.prog 31 [.list false 34 (es.map encE), .list false 34 (es.map encE)] M (fun r M' => r = zB true ∧ M = M') := by
  refine ACall.of Tryd.func31 rfl (n := 26) rfl rfl rfl ?_
  refine zg ?_
  refine zM (zB false) ?_
  refine zN ?_
  refine AWp.seq ?_
  refine zg ?_
  refine zM (.list false 34 (es.map encE)) ?_
  refine zr (zL (es.map encE) es.length Tryd.underlying51 (by simp)) ?_
  refine zM (.list false 34 (es.map encE)) ?_
  refine zr (zL (es.map encE) es.length Tryd.underlying51 (by simp)) ?_
  refine zr (zi ((es.length : Int) != (es.length : Int))) ?_
  refine zN ?_
  refine zC (b := (es.length : Int) != (es.length : Int)) rfl (fun h1 => ?_) (fun h1 => ?_)
  · skip
    have h1' : es.length ≠ es.length := (by have hh := bne_iff_ne.1 h1; omega)
    clear h1
    exfalso; omega
  · skip
    have h1' : ¬ (es.length ≠ es.length) := (by have hh := bne_eq_false_iff_eq.1 h1; omega)
    clear h1
    refine AWp.skip ?_
    refine AWp.seq ?_
    refine zg ?_
    refine zM (zI 0) ?_
    refine zN ?_
    refine AWp.block ?_
    refine AWp.loopE [0, 1, 5] [] (fun m s => ∃ (i : Nat), m = es.length - i ∧ s = ⟨[(0, .list false 34 (es.map encE)), (1, .list false 34 (es.map encE)), (5, zI (i : Int))], [], M⟩ ∧ (i ≤ es.length)) ?_ ?_
    · exact ⟨_, 0, rfl, rfl, Nat.zero_le _⟩
    · rintro _ _ ⟨i, rfl, rfl, hi⟩
      refine AWp.seq ?_
      refine zg ?_
      refine zM (zI (i : Int)) ?_
      refine zM (.list false 34 (es.map encE)) ?_
      refine zr (zL (es.map encE) es.length Tryd.underlying51 (by simp)) ?_
      refine zr (zi (decide ((i : Int) < (es.length : Int)))) ?_
      refine zN ?_
      refine zC (b := decide ((i : Int) < (es.length : Int))) rfl (fun h2 => ?_) (fun h2 => ?_)
      · skip
        have h2' : i < es.length := (by have hh := of_decide_eq_true h2; omega)
        clear h2
        refine AWp.skip ?_
        refine AWp.seq ?_
        refine AWp.block ?_
        refine AWp.seq (AWp.anyR [0, 1, 5, 14, 25] [] (⟨[(0, .list false 34 (es.map encE)), (1, .list false 34 (es.map encE)), (5, zI (i : Int)), (14, zB (decide ((i : Int) < (es.length : Int)))), (25, zB false)], [], M⟩) (by kernel_rfl) ?_ ?_)
        · skip
          skip
          refine SAny.share 1 #[true, true, true, true, true, true, true, true, false] (⟨[(0, .list false 34 (es.map encE)), (1, .list false 34 (es.map encE)), (5, zI (i : Int)), (11, zI (i : Int)), (12, .list false 34 (es.map encE)), (13, zI (es.length : Int)), (14, zB (decide ((i : Int) < (es.length : Int)))), (17, .list false 34 (es.map encE)), (18, zI (i : Int)), (19, .eptr (encE (es.getD i e0)) 0), (21, .list false 34 (es.map encE)), (22, zI (i : Int)), (23, .eptr (encE (es.getD i e0)) 0), (24, encE (es.getD i e0)), (20, encE (es.getD i e0))], [], M⟩) ?_ (fun sh0 => ?_)
          · skip
            refine zq [8] ⟨⟨_, rfl, ?_⟩, trivial⟩
            · skip
              refine zr (Reader.eqAgg (us := [(.int .i64 ((es.getD i e0).kind)), .string ⟨((es.getD i e0).id).toArray⟩, (.int .i64 ((es.getD i e0).sig)), (.int .i64 ((es.getD i e0).n))]) (vs := [(.int .i64 ((es.getD i e0).kind)), .string ⟨((es.getD i e0).id).toArray⟩, (.int .i64 ((es.getD i e0).sig)), (.int .i64 ((es.getD i e0).n))]) (b := ((((es.getD i e0).kind) == ((es.getD i e0).kind)) && ((((es.getD i e0).id) == ((es.getD i e0).id)) && ((((es.getD i e0).sig) == ((es.getD i e0).sig)) && ((((es.getD i e0).n) == ((es.getD i e0).n)) && true))))) (r := false) 9 rfl rfl rfl ⟨_, rfl⟩ ⟨_, rfl⟩ Tryd.underlying34 rfl eqg_34 (by decide) rfl rfl (eqV_34 ((es.getD i e0).kind) ((es.getD i e0).kind) ((es.getD i e0).id) ((es.getD i e0).id) ((es.getD i e0).sig) ((es.getD i e0).sig) ((es.getD i e0).n) ((es.getD i e0).n)) (.inr ⟨rfl, (by simp)⟩)) ?_
              refine zN ?_
              exact SAny.done (by kernel_rfl) rfl
          refine zkm 0 (.list false 34 (es.map encE)) ?_
          refine zkm 1 (zI (i : Int)) ?_
          refine zk 2 rfl (PReader.elemAddr (m := i) rfl Tryd.underlying51 sizeOf_34 rfl rfl rfl (e := encE (es.getD i e0)) (encE_at (by omega))) ?_
          refine zkm 4 (.list false 34 (es.map encE)) ?_
          refine zkm 5 (zI (i : Int)) ?_
          refine zk 6 rfl (PReader.elemAddr (m := i) rfl Tryd.underlying51 sizeOf_34 rfl rfl rfl (e := encE (es.getD i e0)) (encE_at (by omega))) ?_
          refine zq [3, 7] ⟨⟨_, rfl, ?_⟩, ⟨_, rfl, ?_⟩, trivial⟩
          · skip
            refine zr (zlE (encE (es.getD i e0)) Tryd.underlying34 sizeOf_34) ?_
            refine zN ?_
            refine zq [7] ⟨⟨_, rfl, ?_⟩, trivial⟩
            · skip
              refine zr (zlE (encE (es.getD i e0)) Tryd.underlying34 sizeOf_34) ?_
              refine zN ?_
              exact SAny.same [0, 1, 5, 11, 12, 13, 14, 17, 18, 19, 21, 22, 23, 24, 20] [] sh0 (by kernel_rfl) rfl
          · skip
            refine zr (zlE (encE (es.getD i e0)) Tryd.underlying34 sizeOf_34) ?_
            refine zN ?_
            refine zq [3] ⟨⟨_, rfl, ?_⟩, trivial⟩
            · skip
              refine zr (zlE (encE (es.getD i e0)) Tryd.underlying34 sizeOf_34) ?_
              refine zN ?_
              exact SAny.same [0, 1, 5, 11, 12, 13, 14, 17, 18, 19, 21, 22, 23, 24, 20] [] sh0 (by kernel_rfl) rfl
        refine AWp.cond (b := false) rfl (fun hx => by cases hx) (fun hx => ?_)
        refine AWp.skip ?_
        refine AWp.region ?_
        refine zM (zI (i : Int)) ?_
        refine zr (zw ((i : Int) + 1) ((i + 1 : Nat) : Int)) ?_
        refine zM (zI ((i + 1 : Nat) : Int)) ?_
        refine zN ?_
        exact ⟨_, by omega, i + 1, rfl, rfl, by omega⟩
      · skip
        have h2' : ¬ (i < es.length) := (by have hh := of_decide_eq_false h2; omega)
        clear h2
        refine AWp.exit ?_
        refine zg ?_
        refine zM (zB true) ?_
        refine zN ?_
        refine AWp.ret ?_
        exact ⟨.inl rfl, _, ResOf.one 4 (zB true) rfl rfl, ⟨rfl, rfl⟩⟩

theorem sameT_eq {a b : List (List UInt8)} (h : a = b) (hw : a.length ≤ 4294967280) (M : Nat → Option (List AV)) : ACall Tryd.prog 30 [.list false 9 (a.map AV.str), .list false 9 (b.map AV.str)] M (fun r M' => r = zB true ∧ M = M') := by
  subst h; exact sameT_any a hw M

end Go.Proofs.YtlpihekflkjkfaaDoor
