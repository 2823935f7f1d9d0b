/- AvSV, AvFrz, AvMp2, AvPn, AvSN, RegT, RegX. -/
import Derived.Test.YtdjojfibjbjpdaaGreatDoorM2
import Derived.LoopN
namespace Go.Proofs.YtdjojfibjbjpdaaGreatDoor
section
open Go.RowKit

section
variable {P : Program} {n : Nat} {s0 : St} {ops : Array Oper} {Q : St → Prop} {QE : Exit → St → Prop}
def frees (l : Array Bool) : Nat := l.toList.countP (· == false)
theorem frees_set {l : Array Bool} {i : Nat} (h : l.getD i true = false) : frees (l.setIfInBounds i true) + 1 = frees l := by
  have hi : i < l.size := by
    rcases Nat.lt_or_ge i l.size with h' | h'
    · exact h'
    · simp [Array.getElem?_eq_none h'] at h
  have hv : l[i] = false := by simpa [Array.getElem?_eq_getElem hi] using h
  unfold frees
  have hl : i < l.toList.length := by simpa using hi
  have hv' : l.toList[i] = false := by simpa using hv
  have hpos : 0 < l.toList.countP (· == false) := List.countP_pos_iff.2 ⟨false, by rw [← hv']; exact List.getElem_mem hl, rfl⟩
  rw [Array.toList_setIfInBounds, List.countP_set hl, hv']
  simp only [beq_self_eq_true, if_true, show (true == false) = false from rfl, Bool.false_eq_true, if_false]
  omega
theorem frees_0 {l : Array Bool} (h : frees l = 0) (i : Nat) : l.getD i true = true := by
  rcases Nat.lt_or_ge i l.size with h' | h'
  · have := List.countP_eq_zero.1 h l[i] (by simp)
    simp [h']
    simpa using this
  · simp [Array.getElem?_eq_none h']
/-- By an invariant. -/
theorem AAny.inv (I : Array Bool → St → Prop) (hdone : ∀ listed s, I listed s → Region.ready .any ops listed = [] → Q s)
    (hstep : ∀ listed s i o, I listed s → i ∈ Region.ready .any ops listed → ops[i]? = some o → AOps P n ops [o] s fun s' => I (listed.setIfInBounds i true) s') : ∀ (k : Nat) (listed : Array Bool) (s : St), I listed s → frees listed ≤ k → AAny P n ops Q k listed s
  | 0, listed, s, h, hk => by
    have hr : Region.ready .any ops listed = [] := List.eq_nil_iff_forall_not_mem.2 fun j hj => by
      have h1 := (mem_ready.1 hj).1
      rw [frees_0 (by omega) j] at h1
      cases h1
    exact ⟨hr, hdone _ _ h hr⟩
  | k + 1, listed, s, h, hk => by
    refine ⟨fun hr => hdone _ _ h hr, fun i hi => ?_⟩
    obtain ⟨h1, o, ho, _⟩ := mem_ready.1 hi
    refine ⟨o, ho, fun G a w K hr hfx hK => hstep listed s i o h hi ho G a w K hr hfx fun s' G' a' w' hq => hK s' G' a' w' ?_⟩
    exact AAny.inv I hdone hstep k _ s' hq (by have := frees_set h1; omega)

def depB (ops : Array Oper) (i j : Nat) : Bool := match ops[i]? with | some o => o.after.any fun e => Region.binds .any e && e.on == j | none => false
theorem dep_iff {i j : Nat} {o : Oper} (h : ops[i]? = some o) : depB ops i j = true ↔ ∃ e ∈ o.after, Region.binds .any e = true ∧ e.on = j := by
  unfold depB
  rw [h]
  simp only [Array.any_eq_true', Bool.and_eq_true, beq_iff_eq]
def svB (ops : Array Oper) (ks : List (List Nat)) (rk : List (List (Nat × Option Nat))) : Bool :=
  (List.range ops.size).all fun i => ((rk.getD i []).all fun p => match p.2 with
      | none => (List.range ops.size).all fun w => !((ks.getD w []).contains p.1) || w == i || depB ops w i
      | some j => depB ops i j && (ks.getD j []).contains p.1 && (List.range ops.size).all fun w => !((ks.getD w []).contains p.1) || Nat.ble w j || w == i || depB ops w i) &&
    ((ks.getD i []).all fun t => (List.range ops.size).all fun w => !((ks.getD w []).contains t) || Nat.ble w i || depB ops w i) &&
    (match ops[i]? with | some o => o.after.all fun e => !(Region.binds .any e) || Nat.blt e.on i | none => true)
def frL (ws : List (List (Nat × AV))) (listed : Array Bool) : Nat → List (Nat × AV)
  | 0 => []
  | i + 1 => (if listed.getD i false then ws.getD i [] else []) ++ frL ws listed i
def frA : List (List (Nat × AV)) → List (Nat × AV) → List (Nat × AV)
  | [], acc => acc
  | w :: r, acc => frA r (w ++ acc)
def hasK (l : List (Nat × AV)) (t : Nat) : Bool := l.any (·.1 == t)
theorem look_app (t : Nat) : ∀ (a b : List (Nat × AV)), look .any (a ++ b) t = if hasK a t then look .any a t else look .any b t
  | [], b => rfl
  | (k, v) :: r, b => by
    simp only [List.cons_append, look]
    by_cases h : k = t
    · subst h; simp [hasK]
    · rw [if_neg h, if_neg h, look_app t r b]
      have : hasK ((k, v) :: r) t = hasK r t := by simp [hasK, h]
      rw [this]
theorem frL_none {ws : List (List (Nat × AV))} {listed : Array Bool} {fr : List (Nat × AV)} {t : Nat} : ∀ (m : Nat), (∀ i, i < m → listed.getD i false = true → hasK (ws.getD i []) t = false) → look .any (frL ws listed m ++ fr) t = look .any fr t
  | 0, _ => rfl
  | m + 1, h => by
    have ih := frL_none (fr := fr) m fun i hi => h i (by omega)
    show look .any (((if listed.getD m false then ws.getD m [] else []) ++ frL ws listed m) ++ fr) t = _
    rw [List.append_assoc]
    cases hm : listed.getD m false with
    | false => simpa using ih
    | true => rw [if_pos rfl, look_app, h m (by omega) hm]; simpa using ih
theorem frL_at {ws : List (List (Nat × AV))} {listed : Array Bool} {fr : List (Nat × AV)} {t i : Nat} : ∀ (m : Nat), i < m → listed.getD i false = true → hasK (ws.getD i []) t = true → (∀ j, i < j → j < m → listed.getD j false = true → hasK (ws.getD j []) t = false) → look .any (frL ws listed m ++ fr) t = look .any (ws.getD i []) t
  | m + 1, hi, h1, h2, h3 => by
    show look .any (((if listed.getD m false then ws.getD m [] else []) ++ frL ws listed m) ++ fr) t = _
    rw [List.append_assoc]
    by_cases e : i = m
    · subst e; rw [h1, if_pos rfl, look_app, h2]; rfl
    · have ih := frL_at (fr := fr) m (by omega) h1 h2 fun j a b => h3 j a (by omega)
      cases hm : listed.getD m false with
      | false => simpa using ih
      | true => rw [if_pos rfl, look_app, h3 m (by omega) (by omega) hm]; simpa using ih
theorem frL_skip {ws : List (List (Nat × AV))} {listed : Array Bool} {fr : List (Nat × AV)} {t i : Nat} (hk : hasK (ws.getD i []) t = false) : ∀ (m : Nat), look .any (frL ws (listed.setIfInBounds i true) m ++ fr) t = look .any (frL ws listed m ++ fr) t
  | 0 => rfl
  | m + 1 => by
    have ih := frL_skip (listed := listed) (fr := fr) hk m
    show look .any (((if (listed.setIfInBounds i true).getD m false then ws.getD m [] else []) ++ frL ws (listed.setIfInBounds i true) m) ++ fr) t = look .any (((if listed.getD m false then ws.getD m [] else []) ++ frL ws listed m) ++ fr) t
    rw [List.append_assoc, List.append_assoc, look_app, look_app t _ (frL ws listed m ++ fr), ih]
    by_cases e : i = m
    · subst e
      have h0 : ∀ b : Bool, hasK (if b = true then ws.getD i [] else []) t = false := fun b => by cases b <;> first | exact hk | rfl
      rw [h0, h0]
      simp
    · rw [getD_set_ne false e]
theorem frL_congr {ws ws' : List (List (Nat × AV))} {listed : Array Bool} : ∀ (m : Nat), (∀ j, listed.getD j false = true → ws'.getD j [] = ws.getD j []) → frL ws' listed m = frL ws listed m
  | 0, _ => rfl
  | m + 1, h => by
    show (if listed.getD m false then ws'.getD m [] else []) ++ frL ws' listed m = (if listed.getD m false then ws.getD m [] else []) ++ frL ws listed m
    rw [frL_congr m h]
    cases hm : listed.getD m false with
    | false => rfl
    | true => rw [h m hm]
theorem frA_eq : ∀ (ws : List (List (Nat × AV))) (acc : List (Nat × AV)), frA ws acc = ws.reverse.flatten ++ acc
  | [], acc => rfl
  | w :: r, acc => by rw [frA, frA_eq r]; simp
theorem frL_all {ws : List (List (Nat × AV))} {listed : Array Bool} (h : ∀ i, i < ws.length → listed.getD i false = true) : ∀ m, m ≤ ws.length → frL ws listed m = (ws.take m).reverse.flatten
  | 0, _ => rfl
  | m + 1, hm => by
    show (if listed.getD m false then ws.getD m [] else []) ++ frL ws listed m = _
    have e : ws.getD m [] = ws[m] := by rw [List.getD_eq_getElem?_getD, List.getElem?_eq_getElem (by omega)]; rfl
    rw [frL_all h m (by omega), h m (by omega), if_pos rfl, e, List.take_succ_eq_append_getElem (by omega), List.reverse_append, List.flatten_append]
    simp only [List.reverse_cons, List.reverse_nil, List.nil_append, List.flatten_cons, List.flatten_nil, List.append_nil]
theorem AAny.vals {ι : Type} (ws : ι → List (List (Nat × AV))) (rs : ι → List (List (Nat × Option Nat × AV))) (J : ι → Array Bool → (Nat → Option (List AV)) → Prop) (ks : List (List Nat)) (rk : List (List (Nat × Option Nat)))
    (hlen : ∀ x, (ws x).length = ops.size) (hks : ∀ x i t, hasK ((ws x).getD i []) t = (ks.getD i []).contains t) (hrk : ∀ x i p, p ∈ (rs x).getD i [] → (p.1, p.2.1) ∈ rk.getD i []) (hchk : svB ops ks rk = true)
    (hval : ∀ x i p, p ∈ (rs x).getD i [] → match p.2.1 with | none => look .any s0.fr p.1 = p.2.2 | some j => look .any ((ws x).getD j []) p.1 = p.2.2)
    (hop : ∀ x listed i o fr mem, ops[i]? = some o → listed.getD i true = false → (∀ j, depB ops i j = true → listed.getD j false = true) → (∀ a, listed.getD a false = true → ∀ j, depB ops a j = true → listed.getD j false = true) → J x listed mem → (∀ p ∈ (rs x).getD i [], look .any fr p.1 = p.2.2) →
      AOps P n ops [o] ⟨fr, s0.loc, mem⟩ fun s' => ∃ y mem', s' = ⟨(ws y).getD i [] ++ fr, s0.loc, mem'⟩ ∧ J y (listed.setIfInBounds i true) mem' ∧ ∀ j, listed.getD j false = true → (ws y).getD j [] = (ws x).getD j [])
    (x0 : ι) (h0 : J x0 (Array.replicate ops.size false) s0.mem)
    (hQ : ∀ x s listed, s.loc = s0.loc → (∀ i, i < ops.size → listed.getD i false = true) → J x listed s.mem → (∀ t, s.get t = look .any (frA (ws x) s0.fr) t) → Q s) : AAny P n ops Q ops.size (Array.replicate ops.size false) s0 := by
  have hC : ∀ i, i < ops.size → _ := fun i hi => List.all_eq_true.1 hchk i (List.mem_range.2 hi)
  have hlt : ∀ i o, ops[i]? = some o → ∀ e ∈ o.after, Region.binds .any e = true → e.on < i := by
    intro i o ho e he hb
    have h1 := hC i (Array.getElem?_eq_some_iff.1 ho).1
    simp only [Bool.and_eq_true, ho] at h1
    have h2 := Array.all_eq_true_iff_forall_mem.1 h1.2 e he
    rw [hb] at h2
    simpa using h2
  have hwr : ∀ i t w, i < ops.size → (ks.getD i []).contains t = true → w < ops.size → (ks.getD w []).contains t = true → w ≤ i ∨ depB ops w i = true := by
    intro i t w hi ht hw hwt
    have h1 := hC i hi
    simp only [Bool.and_eq_true] at h1
    have h2 := List.all_eq_true.1 h1.1.2 t (by simpa using ht)
    have h3 := List.all_eq_true.1 h2 w (List.mem_range.2 hw)
    rw [hwt] at h3
    simpa using h3
  refine AAny.inv (fun listed s => ∃ x, listed.size = ops.size ∧ s.loc = s0.loc ∧ J x listed s.mem ∧ (∀ a, listed.getD a false = true → ∀ j, depB ops a j = true → listed.getD j false = true) ∧ ∀ t, s.get t = look .any (frL (ws x) listed ops.size ++ s0.fr) t) ?_ ?_ _ _ _ ⟨x0, by simp, rfl, h0, fun a ha => ?_, fun t => ?_⟩ ?_
  · rintro listed s ⟨x, hsz, hloc, hJ, hcl, hget⟩ hr
    have hall : ∀ i, i < ops.size → listed.getD i false = true := by
      intro i
      induction i using Nat.strongRecOn with
      | _ i ih =>
        intro hi
        cases hv : listed.getD i false with
        | true => rfl
        | false =>
          exfalso
          have : i ∈ Region.ready .any ops listed := by
            refine mem_ready.2 ⟨by have h1 := hv; simp [hsz, hi] at h1 ⊢; exact h1, ops[i], Array.getElem?_eq_getElem hi, fun e he hb => ?_⟩
            have := hlt i _ (Array.getElem?_eq_getElem hi) e he hb
            exact ih e.on this (by omega)
          rw [hr] at this; cases this
    refine hQ x s listed hloc hall hJ fun t => ?_
    rw [hget t, frL_all (fun i hi => hall i (by rw [← hlen x]; exact hi)) ops.size (by rw [hlen x]; exact Nat.le_refl _), ← hlen x, List.take_length, frA_eq]
  · rintro listed s i o ⟨x, hsz, hloc, hJ, hcl, hget⟩ hi ho
    obtain ⟨h1, o', ho', hall⟩ := mem_ready.1 hi
    rw [ho] at ho'
    cases ho'
    have hin := (Array.getElem?_eq_some_iff.1 ho).1
    have hdep : ∀ j, depB ops i j = true → listed.getD j false = true := fun j hj => by
      obtain ⟨e, he, hb, rfl⟩ := (dep_iff ho).1 hj
      exact hall e he hb
    have hfi : listed.getD i false = false := by have h2 := h1; simp [hsz, hin] at h2 ⊢; exact h2
    have hnot : ∀ w, depB ops w i = true → listed.getD w false = false := fun w hw => by
      cases hv : listed.getD w false with
      | false => rfl
      | true => rw [hcl w hv i hw] at hfi; cases hfi
    have hltn : ∀ j, listed.getD j false = true → j < ops.size := fun j hj => by
      rcases Nat.lt_or_ge j ops.size with h | h
      · exact h
      · rw [← hsz] at h; simp [Array.getElem?_eq_none h] at hj
    obtain ⟨fr, loc, mem⟩ := s
    have hloc' : loc = s0.loc := hloc
    subst hloc'
    have hread : ∀ p ∈ (rs x).getD i [], look .any fr p.1 = p.2.2 := by
      intro p hp
      have e1 : look .any fr p.1 = look .any (frL (ws x) listed ops.size ++ s0.fr) p.1 := hget p.1
      have hc := hC i hin
      simp only [Bool.and_eq_true] at hc
      have hc1 := List.all_eq_true.1 hc.1.1 _ (hrk x i p hp)
      have hv := hval x i p hp
      obtain ⟨t, src, v⟩ := p
      rw [e1]
      cases src with
      | none =>
        simp only at hc1 hv
        rw [frL_none]
        · exact hv
        · intro w hw hlw
          rw [hks]
          have h3 := List.all_eq_true.1 hc1 w (List.mem_range.2 hw)
          cases hk : (ks.getD w []).contains t with
          | false => rfl
          | true =>
            rw [hk] at h3
            simp only [Bool.not_true, Bool.false_or, Bool.or_eq_true, beq_iff_eq] at h3
            rcases h3 with rfl | h3
            · rw [hfi] at hlw; cases hlw
            · rw [hnot w h3] at hlw; cases hlw
      | some j =>
        simp only [Bool.and_eq_true] at hc1 hv
        obtain ⟨⟨a1, a2⟩, a3⟩ := hc1
        have hj := hdep j a1
        rw [frL_at ops.size (hltn j hj) hj (by rw [hks]; exact a2)]
        · exact hv
        · intro w hw1 hw2 hlw
          rw [hks]
          have h3 := List.all_eq_true.1 a3 w (List.mem_range.2 hw2)
          cases hk : (ks.getD w []).contains t with
          | false => rfl
          | true =>
            rw [hk] at h3
            simp only [Bool.not_true, Bool.false_or, Bool.or_eq_true, beq_iff_eq, Nat.ble_eq] at h3
            rcases h3 with (h3 | rfl) | h3
            · omega
            · rw [hfi] at hlw; cases hlw
            · rw [hnot w h3] at hlw; cases hlw
    refine AOps.mono (hop x listed i o fr mem ho h1 hdep hcl hJ hread) ?_
    rintro s' ⟨y, mem', rfl, hJ', hag⟩
    refine ⟨y, by simpa using hsz, rfl, hJ', fun a ha j hj => ?_, fun t => ?_⟩
    · by_cases e : i = a
      · subst e; exact getD_set_true (hdep j hj)
      · rw [getD_set_ne false e] at ha; exact getD_set_true (hcl a ha j hj)
    · show look .any ((ws y).getD i [] ++ fr) t = _
      have e1 : look .any fr t = look .any (frL (ws x) listed ops.size ++ s0.fr) t := hget t
      rw [look_app]
      cases hk : hasK ((ws y).getD i []) t with
      | true =>
        rw [if_pos rfl, frL_at ops.size hin (by simp [hsz, hin]) hk]
        intro w hw1 hw2 hlw
        rw [getD_set_ne false (by omega)] at hlw
        rw [hks]
        cases hk2 : (ks.getD w []).contains t with
        | false => rfl
        | true =>
          rw [hks] at hk
          rcases hwr i t w hin hk hw2 hk2 with h | h
          · omega
          · rw [hnot w h] at hlw; cases hlw
      | false =>
        rw [frL_skip hk, e1, frL_congr ops.size hag]
        simp
  · have hr : (Array.replicate ops.size false).getD a false = false := by rw [Array.getD_eq_getD_getElem?, Array.getElem?_replicate]; split <;> rfl
    rw [hr] at ha; cases ha
  · show look .any s0.fr t = _
    rw [frL_none]
    intro i _ hi
    have hr : (Array.replicate ops.size false).getD i false = false := by rw [Array.getD_eq_getD_getElem?, Array.getElem?_replicate]; split <;> rfl
    rw [hr] at hi; cases hi
  · unfold frees
    exact Nat.le_trans List.countP_le_length (by simp)

/-! The plain case: nothing but slots changes. -/
def RdR (fr : List (Nat × AV)) : List (Nat × Option Nat × AV) → Prop
  | [] => True
  | p :: r => look .any fr p.1 = p.2.2 ∧ RdR fr r
theorem RdR.of {fr : List (Nat × AV)} : ∀ {r : List (Nat × Option Nat × AV)}, (∀ p ∈ r, look .any fr p.1 = p.2.2) → RdR fr r
  | [], _ => trivial
  | p :: _r, h => ⟨h p (List.mem_cons_self ..), RdR.of fun q hq => h q (List.mem_cons_of_mem _ hq)⟩
def ValR (fr : List (Nat × AV)) (ws : List (List (Nat × AV))) : List (Nat × Option Nat × AV) → Prop
  | [] => True
  | p :: r => (match p.2.1 with | none => look .any fr p.1 = p.2.2 | some j => look .any (ws.getD j []) p.1 = p.2.2) ∧ ValR fr ws r
theorem ValR.of {fr : List (Nat × AV)} {ws : List (List (Nat × AV))} : ∀ {r : List (Nat × Option Nat × AV)}, ValR fr ws r → ∀ p ∈ r, match p.2.1 with | none => look .any fr p.1 = p.2.2 | some j => look .any (ws.getD j []) p.1 = p.2.2
  | q :: r, h, p, hp => by
    rcases List.mem_cons.1 hp with rfl | hp
    · exact h.1
    · exact ValR.of h.2 p hp
theorem vr0 {fr : List (Nat × AV)} {ws : List (List (Nat × AV))} : ValR fr ws [] := trivial
theorem vrN {fr : List (Nat × AV)} {ws : List (List (Nat × AV))} {t : Nat} {v : AV} {r : List (Nat × Option Nat × AV)} (h : look .any fr t = v) (h' : ValR fr ws r) : ValR fr ws ((t, none, v) :: r) := ⟨h, h'⟩
theorem vrS {fr : List (Nat × AV)} {ws : List (List (Nat × AV))} {t j : Nat} {v : AV} {r : List (Nat × Option Nat × AV)} (h : look .any (ws.getD j []) t = v) (h' : ValR fr ws r) : ValR fr ws ((t, some j, v) :: r) := ⟨h, h'⟩
def ValL (fr : List (Nat × AV)) (ws : List (List (Nat × AV))) : List (List (Nat × Option Nat × AV)) → Prop
  | [] => True
  | r :: rs => ValR fr ws r ∧ ValL fr ws rs
theorem vl0 {fr : List (Nat × AV)} {ws : List (List (Nat × AV))} : ValL fr ws [] := trivial
theorem vl1 {fr : List (Nat × AV)} {ws : List (List (Nat × AV))} {r : List (Nat × Option Nat × AV)} {rs : List (List (Nat × Option Nat × AV))} (h : ValR fr ws r) (h' : ValL fr ws rs) : ValL fr ws (r :: rs) := ⟨h, h'⟩
theorem ValL.at {fr : List (Nat × AV)} {ws : List (List (Nat × AV))} : ∀ {rs : List (List (Nat × Option Nat × AV))} (i : Nat), ValL fr ws rs → ValR fr ws (rs.getD i [])
  | [], i, _ => by simp; exact trivial
  | r :: rs, 0, h => h.1
  | r :: rs, i + 1, h => by simpa using ValL.at i h.2
theorem keys_has (w : List (Nat × AV)) (t : Nat) : hasK w t = (w.map Prod.fst).contains t := by
  induction w with
  | nil => rfl
  | cons a r ih => simp only [hasK, List.any_cons, List.map_cons, List.contains_cons] at ih ⊢; rw [ih]; congr 1; exact Bool.beq_comm ..
theorem getD_map' {α β : Type} (f : α → β) (l : List α) (i : Nat) (d : α) : (l.map f).getD i (f d) = f (l.getD i d) := by
  rw [List.getD_eq_getElem?_getD, List.getD_eq_getElem?_getD, List.getElem?_map]
  cases l[i]? <;> rfl
theorem St.keep_eq {s : St} {fr : List (Nat × AV)} {loc : List (Nat × List AV)} {mem : Nat → Option (List AV)} (ls ks : List Nat) (hl : s.loc = loc) (hm : s.mem = mem) (h : ∀ t, s.get t = look .any fr t) : s.keep ls ks = (⟨fr, loc, mem⟩ : St).keep ls ks := by
  subst hl; subst hm
  unfold St.keep
  have : (fun i => (i, s.get i)) = fun i => (i, (⟨fr, s.loc, s.mem⟩ : St).get i) := funext fun i => by rw [h i]; rfl
  rw [this]
end
end
section
open Go.RowKit

def frzV (k : Nat) (cells : List AV) : AV → AV
  | .lptr k' off => if k' = k then .eptr (.agg cells) off else .lptr k' off
  | v => v
def frzL (k : Nat) (l : List (Nat × List AV)) : List (Nat × List AV) := l.filter fun p => p.1 != k
theorem look_frz (k : Nat) (cells : List AV) : ∀ (fr : List (Nat × AV)) (i : Nat), look .any (fr.map fun p => (p.1, frzV k cells p.2)) i = frzV k cells (look .any fr i)
  | [], i => rfl
  | (j, v) :: r, i => by
    simp only [List.map_cons, look]
    split
    · rfl
    · exact look_frz k cells r i
theorem lookL_frz (k : Nat) : ∀ (l : List (Nat × List AV)) (i : Nat) (c : List AV), lookL (frzL k l) i = some c → i ≠ k ∧ lookL l i = some c
  | [], i, c, h => by cases h
  | (j, v) :: r, i, c, h => by
    unfold frzL at h
    rw [List.filter_cons] at h
    split at h
    · rename_i hj
      simp only [lookL] at h ⊢
      split at h
      · rename_i e
        subst e
        rw [if_pos rfl]
        exact ⟨by simpa using hj, h⟩
      · rename_i e
        rw [if_neg e]
        exact lookL_frz k r i c h
    · rename_i hj
      obtain ⟨h1, h2⟩ := lookL_frz k r i c h
      simp only [lookL]
      rw [if_neg (fun e => by subst e; exact hj (by simpa using h1))]
      exact ⟨h1, h2⟩
section
variable {P : Program} {n : Nat} {s : St} {ops : Array Oper} {o : Oper} {l : List Oper} {Q : St → Prop} {QE : Exit → St → Prop} {d : Nat} {t ta E : TypeId} {x : Operand}
theorem RelSt.freeze {G : Gh} {a : Act} {w : World} {k : Nat} {cells : List AV} (hr : RelSt P G n s a w) (hc : lookL s.loc k = some cells) (hfl : cells.all AV.flat = true) :
    ∃ G', RelSt P G' n ⟨s.fr.map fun p => (p.1, frzV k cells p.2), frzL k s.loc, s.mem⟩ a w ∧ Keep G w G' w := by
  obtain ⟨arr, T, hh, hsz, ho, ht, hsc, hrr⟩ := hr.loc k cells hc
  have hlt := (Array.getElem?_eq_some_iff.1 hh).1
  let G' : Gh := { G with owner := fun b => if b = G.lb k then none else G.owner b, tip := fun b => if b = G.lb k then cells.length else G.tip b }
  have st : Stab G w G' w := ⟨fun b => by
    show G.tip b ≤ if b = G.lb k then cells.length else G.tip b
    split
    · rename_i e; rw [e, ht]; exact Nat.zero_le _
    · exact Nat.le_refl _, fun _ _ _ => rfl, fun _ _ h => h⟩
  have hmv : ∀ (q : Pos) (b : Nat), q ≠ .lb k → G.owner b = some q → G'.owner b = some q ∧ w.heap[b]? = w.heap[b]? ∧ G'.tip b = G.tip b := by
    intro q b hq hb
    have hne : b ≠ G.lb k := fun e => by subst e; rw [ho] at hb; exact hq (Option.some.inj hb).symm
    exact ⟨by show (if b = G.lb k then none else G.owner b) = _; rw [if_neg hne]; exact hb, rfl, by show (if b = G.lb k then cells.length else G.tip b) = _; rw [if_neg hne]⟩
  have hfar : ∀ b, w.heap.size ≤ b → G'.tip b = 0 ∧ G'.owner b = none := fun b hb => by
    have hne : b ≠ G.lb k := by omega
    exact ⟨by show (if b = G.lb k then cells.length else G.tip b) = _; rw [if_neg hne]; exact (hr.mem.far b hb).1, by show (if b = G.lb k then none else G.owner b) = _; rw [if_neg hne]; exact (hr.mem.far b hb).2⟩
  refine ⟨G', ⟨hr.size, hr.defers, fun i => ?_, fun k1 c1 h1 => ?_, ⟨fun id c1 h1 => ?_, hfar, hr.mem.fin⟩⟩, ⟨rfl, rfl, rfl, Nat.le_refl _, fun b hb hn => ?_, st⟩⟩
  · show RelS P G' w (.slot i) (look .any (s.fr.map fun p => (p.1, frzV k cells p.2)) i) _
    rw [look_frz]
    have h0 : RelS P G' w (.slot i) (look .any s.fr i) (a.tmps.getD i undef) := (hr.slot i).move st (Nat.le_refl _) (fun _ _ _ => rfl) (fun c b _ h2 => hmv _ b (by intro h; cases h) h2)
    generalize look .any s.fr i = v at h0
    cases v with
    | lptr k' off =>
      simp only [frzV]
      split
      · rename_i e
        subst e
        have e0 : a.tmps.getD i undef = .pointer (some ⟨G.lb k', off, none⟩) := h0
        refine ⟨G.lb k', 0, fun j => arr.getD j undef, by rw [e0, Nat.zero_add], ?_, fun j c hj => ?_⟩
        · show 0 + cells.length ≤ if G.lb k' = G.lb k' then cells.length else G.tip _
          rw [if_pos rfl]; omega
        · have hj' : cells[j]? = some c := hj
          have hjl := (List.getElem?_eq_some_iff.1 hj').1
          have e : arr[j]? = some (arr.getD j undef) := by rw [Array.getD_eq_getD_getElem?, Array.getElem?_eq_getElem (by omega)]; rfl
          refine ⟨by simp only [World.cell?, hh, Option.isSome_none, Bool.false_eq_true, if_false, Nat.zero_add]; exact e, ?_⟩
          have h1 := (hrr j c _ hj' e).un (hsc c (List.mem_of_getElem? hj'))
          have hcf : c.flat = true := List.all_eq_true.1 hfl c (List.mem_of_getElem? hj')
          have : c.un = c := by
            cases c with
            | list o E xs => cases o with
              | true => cases hcf
              | false => rfl
            | tuple cs => cases hcf
            | pin x v => cases hcf
            | _ => rfl
          rw [this] at h1
          exact h1.stab st
      · exact h0
    | _ => exact h0
  · obtain ⟨hne, hl⟩ := lookL_frz k s.loc k1 c1 h1
    have h0 := hr.loc k1 c1 hl
    have hne' : Pos.lb k1 ≠ Pos.lb k := by intro h; injection h with h; exact hne h
    obtain ⟨a1, a2, a3⟩ := hmv _ _ hne' h0.own
    exact h0.move st (Nat.le_refl _) rfl (a1.trans h0.own.symm) a3 (fun c b _ h2 => hmv _ b (by intro h; cases h) h2)
  · obtain ⟨b, hb, hh1⟩ := hr.mem.obj id c1 h1
    exact ⟨b, hb, hh1.move st (Nat.le_refl _) (fun _ hw => by
      obtain ⟨a1, a2, a3⟩ := hmv _ _ (by intro h; cases h) hw
      exact ⟨rfl, a1.trans hw.symm, a3⟩) (fun c b _ h2 => hmv _ b (by intro h; cases h) h2)⟩
  · have hne : b ≠ G.lb k := fun e => by subst e; rw [ho] at hn; cases hn
    exact ⟨by show (if b = G.lb k then none else G.owner b) = _; rw [if_neg hne]; exact hn, rfl, by show (if b = G.lb k then cells.length else G.tip b) = _; rw [if_neg hne]⟩
theorem one_cells {xs : List AV} (h : (xs.all fun c => match c with | .agg _ => false | _ => true) = true) : ∀ c ∈ xs, c.cells = [c] := fun c hc => by
  have := List.all_eq_true.1 h c hc
  cases c <;> first | rfl | cases this
/-- All of an array, as a list. -/
theorem Reader.sliceE {e : AV} {kk m : Nat} {xs : List AV} (ho : o.op = .slice t x none none none) (hu : P.underlying t = some (.array m E)) (hs : SizeOf P E 1) (hx : s.eval x = .eptr e kk)
    (hm : m ≤ maxLen) (hxs : (e.cells.drop kk).take m = xs) (hl : xs.length = m) (hone : xs.all (fun c => c.scalar && c.flat) = true) (hcc : ∀ c ∈ xs, c.cells = [c]) : Reader P n s o d (.list false E xs) := by
  intro G a w h
  obtain ⟨p, hp⟩ := h.ev x (fun v cs e1 e2 => by subst e1; subst e2; simp [St.eval, ofConst] at hx)
  rw [hx] at hp
  obtain ⟨b, oo, us, hav, h1, h2⟩ := hp
  have hfl : xs.flatMap AV.cells = xs := by
    clear hxs hl hone
    induction xs with
    | nil => rfl
    | cons a r ih => rw [List.flatMap_cons, hcc a (List.mem_cons_self ..), ih (fun c hc => hcc c (List.mem_cons_of_mem _ hc))]; rfl
  have hk : ∀ j, j < m → e.cells[kk + j]? = xs[j]? := fun j hj => by
    rw [← hxs, List.getElem?_take_of_lt hj, List.getElem?_drop]
  have hrel : RelV P G w (.list false E xs) (.slice (some ⟨b, oo + kk, none⟩) xs.length m) := by
    refine .row false E xs b (oo + kk) m 1 (fun j => us (kk + j)) hs (fun c hc => by rw [hcc c hc]; rfl) (fun c hc c' hc' => ?_) (by omega) hm (fun h0 => ?_) (fun j hj => ?_) (fun j c hj => ?_)
    · rw [hcc c hc] at hc'
      have := List.all_eq_true.1 hone c hc
      simp only [List.mem_singleton] at hc'
      subst hc'
      simp only [Bool.and_eq_true] at this
      exact this.1
    · have hj : kk + (m - 1) < e.cells.length := by
        have e1 : xs[m - 1]? = some (xs[m - 1]'(by omega)) := List.getElem?_eq_getElem (by omega)
        rw [← hk (m - 1) (by omega)] at e1
        exact (List.getElem?_eq_some_iff.1 e1).1
      omega
    · have e1 : xs[j]? = some (xs[j]'(by omega)) := List.getElem?_eq_getElem (by omega)
      rw [← hk j (by omega)] at e1
      rw [Nat.add_assoc]
      exact (h2 (kk + j) _ e1).1
    · rw [hfl] at hj
      have hjl := (List.getElem?_eq_some_iff.1 hj).1
      rw [← hk j (by omega)] at hj
      exact (h2 (kk + j) c hj).2
  refine ⟨_, hrel, fun w' _ => ?_⟩
  simp [execOp, ho, Instr.sliceAt, Instr.sureAddr, run_underlying hu, hav, Instr.sliceBounds, run_size hs, hl, add_at, Result.andThen]
end
end
section
open Go.RowKit

section
variable {P : Program} {n : Nat} {s : St} {ops : Array Oper} {o : Oper} {rest : List Oper} {Q : St → Prop} {QE : Exit → St → Prop} {d : Nat} {t kt et E : TypeId} {x y z : Operand} {S : List (List UInt8 × AV)}
end
section
variable {P : Program} {n : Nat} {s : St} {a : Act} {w : World} {G : Gh} {E : TypeId}
end
section
variable {P : Program} {n : Nat} {s : St} {ops : Array Oper} {l : List Oper} {Q : St → Prop}
end
/-! A map literal in a region that draws its order. -/
section
variable {P : Program} {n : Nat} {s0 : St} {ops : Array Oper} {QE : Exit → St → Prop}
/-- Each operation of such a region: the map is made (at its place), an entry is laid in, or a slot gets its value. -/
def HopM (P : Program) (n : Nat) (ops : Array Oper) (s0 : St) (m0 : Nat) (ws : Nat → List (List (Nat × AV))) (rs : Nat → List (List (Nat × Option Nat × AV))) (ins : List (Nat × List UInt8 × AV)) (i : Nat) (o : Oper) : Prop :=
  (i = m0 ∧ ∀ fr, AOps P n ops [o] ⟨fr, s0.loc, s0.mem⟩ fun s' => ∃ id, s0.mem id = none ∧ s' = ⟨(ws id).getD i [] ++ fr, s0.loc, setM s0.mem id (mapA [])⟩) ∨
  (∃ e, (i, e) ∈ ins ∧ depB ops i m0 = true ∧ ∀ id S fr, s0.mem id = none → findS e.1 S 0 = none → RdR fr ((rs id).getD i []) → AOps P n ops [o] ⟨fr, s0.loc, setM s0.mem id (mapA S)⟩ fun s' => s' = ⟨(ws id).getD i [] ++ fr, s0.loc, setM s0.mem id (mapA (S ++ [e]))⟩) ∨
  (i ≠ m0 ∧ (∀ p ∈ ins, p.1 ≠ i) ∧ ∀ id fr mem, RdR fr ((rs id).getD i []) → AOps P n ops [o] ⟨fr, s0.loc, mem⟩ fun s' => s' = ⟨(ws id).getD i [] ++ fr, s0.loc, mem⟩)
end
section
variable {P : Program} {n : Nat} {s0 : St} {ops : Array Oper} {m0 : Nat} {ws : Nat → List (List (Nat × AV))} {rs : Nat → List (List (Nat × Option Nat × AV))} {ins : List (Nat × List UInt8 × AV)}
def HopMs (P : Program) (n : Nat) (ops : Array Oper) (s0 : St) (m0 : Nat) (ws : Nat → List (List (Nat × AV))) (rs : Nat → List (List (Nat × Option Nat × AV))) (ins : List (Nat × List UInt8 × AV)) : Nat → List Oper → Prop
  | _, [] => True
  | i, o :: os => HopM P n ops s0 m0 ws rs ins i o ∧ HopMs P n ops s0 m0 ws rs ins (i + 1) os
theorem hm0 {i : Nat} : HopMs P n ops s0 m0 ws rs ins i [] := trivial
end
end
section
open Go.RowKit

section
variable {P : Program} {n : Nat} {s : St} {a : Act} {w : World} {G : Gh} {E : TypeId}
end
section
variable {P : Program} {n : Nat} {s : St} {ops : Array Oper} {l : List Oper} {Q : St → Prop} {E : TypeId}
end
end
section
open Go.RowKit

section
variable {P : Program} {n : Nat} {s : St} {w0 : World} {c : Code} {QE : Exit → St → Prop}
end

section
variable {P : Program} {G : Gh} {w w' : World}
end
section
variable {P : Program} {n : Nat} {s : St} {w0 : World} {Q : Exit → St → Prop}
end
section
variable {P : Program} {n : Nat} {s : St} {o : Oper} {d : Nat} {t E : TypeId} {x y : Operand}
/-- An element of an array by value: a struct. -/
theorem Reader.indexV {cs : List AV} {m len size : Nat} {k : IntKind} {i : Int} {v : AV} {D : TypeDesc} (ho : o.op = .index t x y) (hu : P.underlying t = some (.array len E)) (hue : P.underlying E = some D) (hs : SizeOf P E size) (hx : s.eval x = .agg cs) (hxc : ∃ r, x = .tmp r) (hy : s.eval y = .lit (.int k i)) (hi : i = m) (hm : m < len)
    (hv : partOf (TypeDesc.agg D) size cs (m * size) = some v) (hf : v.flat = true) : Reader P n s o d v := by
  intro G a w h
  obtain ⟨r, rfl⟩ := hxc
  have hp := h.slot r
  rw [show s.get r = .agg cs from hx] at hp
  generalize hav : a.tmps.getD r undef = va at hp
  have hp' : RelV P G w (.agg cs) va := hp
  cases hp' with
  | agg _ vs hl hr =>
    obtain ⟨u, hu1, hu2⟩ := run_part (P := P) hue hs hl hr hv
    refine ⟨u, hu1.toS hf, fun w' _ => ?_⟩
    have ev : a.eval (.tmp r) = .agg vs.toArray := hav
    subst hi
    simp [execOp, ho, Instr.index, asIntOf, ev, h.evLit hy, run_underlying hu, run_size hs, hm, hu2 w', Result.andThen]
/-- An array, built. -/
theorem Reader.buildA {ps : Array (Nat × Operand)} {xs : List (Nat × AV)} {zs : Array Value} {Es : List TypeId} {cs : List AV} {m size : Nat} (ho : o.op = .build t ps) (hu : P.underlying t = some (.array m E)) (hs : SizeOf P E size) (hp : Parts s ps xs)
    (hz : (P.info? t).map (·.zero) = some (some (.agg zs))) (hz1 : zs.toList.all (fun c => c.oneCell') = true)
    (hf : fillA (fun i => some (i * size, size)) (zcells zs.toList Es) xs = some cs) : Reader P n s o d (.agg cs) := by
  intro G a w hr
  obtain ⟨h1, h2⟩ := hp.rel hr
  obtain ⟨arr, hfill, hrel⟩ := fill_rel (P := P) (G := G) (w := w) (fun i => some (i * size, size)) xs _ (zcells zs.toList Es) zs cs h1 h2 (zcells_rel _ _ (List.all_eq_true.1 hz1)) hf
  refine ⟨.agg arr, ?_, fun w' _ => ?_⟩
  · have := RelV.agg cs arr.toList hrel.1 hrel.2
    simp only [Array.toArray_toList] at this
    exact this
  · cases hi : P.info? t with
    | none => simp [hi] at hz
    | some i =>
      simp only [hi, Option.map_some, Option.some.injEq] at hz
      have hfill' : Instr.fill (fun i : Nat => some (i * size, size)) zs (Array.map (fun x => (x.1, a.eval x.2)) ps).toList = some arr := hfill
      rw [Array.toList_map] at hfill'
      simp [execOp, ho, Instr.build, zeroValue, typeInfo, hi, hz, run_underlying hu, run_size hs, Value.cells, hfill', Result.andThen]
end
end
section
open Go.RowKit
end
section
open Go.RowKit
end
end Go.Proofs.YtdjojfibjbjpdaaGreatDoor
