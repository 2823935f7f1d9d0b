/- ScR1, ScR2, LexP3, LexM, ScR3, ScW1, ScR4, LexM2, ScW2, ScW3, ScB1, ScB2, ScO. -/
import Derived.Test.YtgphopeclplahaaGreatDoorM7
import Derived.Lib.AtoiAllCases
import Derived.Test.YtgphopeclplahaaGreatDoorM5
namespace Go.Proofs.YtgphopeclplahaaGreatDoor
section
open Go.RowKit

/-! What a text is. -/
def wordB (s : List UInt8) : Bool := (g_script_Word s).getD false
theorem wordB_ok {s : List UInt8} (h : s.length ≤ lim) : g_script_Word s = some (wordB s) ∧ g_ref26_Word s = some (wordB s) := by
  obtain ⟨b, h1, h2⟩ := word_ok h
  unfold wordB
  rw [h1, h2]; exact ⟨rfl, rfl⟩
def qnV (s : List UInt8) : Option Int := (quantV s).map fun n => (n : Int)
def amV (s : List UInt8) : Option Nat := match g_script_Amount s with
  | some (y, true) => some y
  | _ => none
def oneV (y n s : List UInt8) : Option Bool := if s = y then some true else if s = n then some false else none
def wdV (s : List UInt8) : Option (List UInt8) := if wordB s then some s else none

/-! Readers of a line's texts. -/
def fieldR {α : Type} (f : List UInt8 → Option α) : List (List UInt8) → Option (α × List (List UInt8))
  | [] => none
  | t :: r => (f t).map fun a => (a, r)
def threeR {α : Type} (f : List UInt8 → Option α) (ts : List (List UInt8)) : Option (V3 α × List (List UInt8)) :=
  (fieldR f ts).bind fun p => (fieldR f p.2).bind fun q => (fieldR f q.2).bind fun r => some (⟨p.1, q.1, r.1⟩, r.2)
def BB : Nat := 70000
def OKL (l : List SField) : Prop := l.length ≤ BB ∧ ∀ f ∈ l, f.text.length ≤ BB
def txs (l : List SField) : List (List UInt8) := l.map (·.text)
def After {α : Type} (a : α) (x' : Sline) : Option (α × List (List UInt8)) → Prop
  | some (b, ts) => x'.bad = false ∧ txs x'.l = ts ∧ a = b
  | none => x'.bad = true
def Sim {α : Type} (g : Sline → Option (α × Sline)) (R : List (List UInt8) → Option (α × List (List UInt8))) : Prop :=
  ∀ x, OKL x.l → ∃ a x', g x = some (a, x') ∧ OKL x'.l ∧ x'.l.length ≤ x.l.length ∧ (x.bad = true → x'.bad = true) ∧
    (x.bad = false → After a x' (R (txs x.l)))
theorem Sim.bind {α β : Type} {g1 : Sline → Option (α × Sline)} {R1 : List (List UInt8) → Option (α × List (List UInt8))} {g2 : α → Sline → Option (β × Sline)} {R2 : α → List (List UInt8) → Option (β × List (List UInt8))}
    (h1 : Sim g1 R1) (h2 : ∀ a, Sim (g2 a) (R2 a)) : Sim (fun x => bO (g1 x) fun v => g2 v.1 v.2) (fun ts => (R1 ts).bind fun p => R2 p.1 p.2) := by
  intro x hx
  obtain ⟨a, x1, e1, o1, l1, b1, c1⟩ := h1 x hx
  obtain ⟨b, x2, e2, o2, l2, b2, c2⟩ := h2 a x1 o1
  refine ⟨b, x2, ?_, o2, by omega, fun h => b2 (b1 h), fun h => ?_⟩
  · show bO (g1 x) _ = _
    rw [e1]; exact e2
  · have c1 := c1 h
    show After b x2 ((R1 (txs x.l)).bind (fun p => R2 p.1 p.2))
    cases hr : R1 (txs x.l) with
    | none => rw [hr] at c1; exact b2 c1
    | some p =>
      rw [hr] at c1
      obtain ⟨p1, p2⟩ := p
      obtain ⟨d1, d2, d3⟩ := c1
      subst d3
      have c2 := c2 d1
      rw [d2] at c2
      exact c2
theorem Sim.pure {α : Type} (a : α) : Sim (fun x => some (a, x)) (fun ts => some (a, ts)) := by
  intro x hx
  exact ⟨a, x, rfl, hx, Nat.le_refl _, id, fun h => ⟨h, rfl, rfl⟩⟩
theorem Sim.congr {α : Type} {g g' : Sline → Option (α × Sline)} {R R' : List (List UInt8) → Option (α × List (List UInt8))} (h : Sim g R) (hg : ∀ x, g' x = g x) (hR : ∀ ts, R' ts = R ts) : Sim g' R' := by
  intro x hx
  obtain ⟨a, x', h1, h2, h3, h4, h5⟩ := h x hx
  exact ⟨a, x', by rw [hg]; exact h1, h2, h3, h4, fun hb => by rw [hR]; exact h5 hb⟩
def fieldG {α : Type} (k : List UInt8 → Bool → Option (α × Bool)) (x : Sline) : Option (α × Sline) :=
  bO (g_script_line_text x) fun v => bO (k v.1 v.2.bad) fun w => some (w.1, ⟨v.2.l, w.2⟩)
theorem Sim.field {α : Type} {k : List UInt8 → Bool → Option (α × Bool)} {f : List UInt8 → Option α} (hb : ∀ s, s.length ≤ BB → ∃ a, k s true = some (a, true))
    (hg : ∀ s, s.length ≤ BB → ∃ a, k s false = some (a, (f s).isNone) ∧ ∀ b, f s = some b → a = b) : Sim (fieldG k) (fieldR f) := by
  intro x hx
  obtain ⟨l, b⟩ := x
  cases l with
  | nil =>
    obtain ⟨a, ha⟩ := hb [] (by simp)
    refine ⟨a, ⟨[], true⟩, ?_, hx, Nat.le_refl _, fun _ => rfl, fun _ => rfl⟩
    have e : fieldG k ⟨[], b⟩ = bO (k [] true) fun w => some (w.1, ⟨[], w.2⟩) := rfl
    rw [e, ha]; rfl
  | cons fd r =>
    have hl : (fd :: r).length = r.length + 1 := rfl
    have hxl := hx.1
    have ht : g_script_line_text ⟨fd :: r, b⟩ = some (fd.text, ⟨r, b⟩) := by
      unfold g_script_line_text
      rw [show (((fd :: r).length : Int) == 0) = false from beq_eq_false_iff_ne.2 (by omega)]
      simp only [cond_false]
      rw [show idx (fd :: r) 0 = some fd from rfl]
      simp only [bO_some]
      have : slO (fd :: r) 1 ((fd :: r).length : Int) = some r := by
        unfold slO
        rw [if_pos ⟨by omega, by omega, by omega⟩, Int.toNat_natCast, List.take_length]; rfl
      rw [this]; rfl
    have hs : fd.text.length ≤ BB := hx.2 fd (List.mem_cons_self ..)
    have hr : OKL r := ⟨by have := hx.1; rw [hl] at this; unfold BB at *; omega, fun f hf => hx.2 f (List.mem_cons_of_mem _ hf)⟩
    unfold fieldG
    rw [ht]
    simp only [bO_some]
    cases b with
    | true =>
      obtain ⟨a, ha⟩ := hb fd.text hs
      rw [ha]
      exact ⟨a, ⟨r, true⟩, rfl, hr, Nat.le_succ _, fun _ => rfl, fun h => by cases h⟩
    | false =>
      obtain ⟨a, ha, hf⟩ := hg fd.text hs
      rw [ha]
      refine ⟨a, ⟨r, (f fd.text).isNone⟩, rfl, hr, Nat.le_succ _, (fun h => by cases h), fun _ => ?_⟩
      show After a _ ((f fd.text).map (fun a => (a, txs r)))
      cases h : f fd.text with
      | none => rfl
      | some c => exact ⟨rfl, rfl, hf c h⟩

theorem word_sim : Sim g_script_line_word (fieldR wdV) := by
  refine (Sim.field (k := fun s b => bO (bif b then some default else (g_script_Word s)) fun v => some (s, b || (!v))) (fun s _ => ⟨s, rfl⟩) (fun s hs => ?_)).congr (fun x => ?_) (fun _ => rfl)
  · refine ⟨s, ?_, fun b hb => ?_⟩
    · rw [cond_false, (wordB_ok (by unfold BB at hs; unfold lim; omega)).1]
      unfold wdV
      cases wordB s <;> rfl
    · unfold wdV at hb
      split at hb
      · cases hb; rfl
      · cases hb
  · unfold g_script_line_word fieldG
    cases g_script_line_text x with
    | none => rfl
    | some v =>
      simp only [bO_some]
      cases (bif v.2.bad then some default else g_script_Word v.1) <;> rfl
theorem quant_sim : Sim g_script_line_quantity (fieldR qnV) := by
  refine (Sim.field (k := fun s b => bO (g_quant_Read s) fun v => some (v.1, b || (v.2 != 0))) (fun s hs => ?_) (fun s hs => ?_)).congr (fun x => ?_) (fun _ => rfl)
  · rw [read_ok (by unfold BB at hs; unfold lim; omega)]
    exact ⟨(qv s : Int), rfl⟩
  · rw [read_ok (by unfold BB at hs; unfold lim; omega)]
    simp only [bO_some, Bool.false_or]
    refine ⟨(qv s : Int), ?_, ?_⟩
    · unfold qnV qe
      cases h : quantV s <;> rfl
    · unfold qnV qv
      cases h : quantV s with
      | none => intro b hb; cases hb
      | some n => intro b hb; cases hb; rfl
  · unfold g_script_line_quantity fieldG
    cases g_script_line_text x with
    | none => rfl
    | some v =>
      simp only [bO_some]
      cases g_quant_Read v.1 <;> rfl
theorem one_sim (y n : List UInt8) : Sim (fun x => g_script_line_one x y n) (fieldR (oneV y n)) := by
  refine (Sim.field (k := fun s b => some (s == y, b || ((!(s == y)) && (!(s == n))))) (fun s hs => ⟨_, rfl⟩) (fun s hs => ?_)).congr (fun x => ?_) (fun _ => rfl)
  · refine ⟨s == y, ?_, ?_⟩
    · unfold oneV
      by_cases h1 : s = y
      · subst h1; simp
      · by_cases h2 : s = n
        · subst h2; simp [h1]
        · simp [h1, h2]
    · unfold oneV
      by_cases h1 : s = y
      · subst h1; simp
      · by_cases h2 : s = n
        · subst h2; simp [h1]
        · simp [h1, h2]
  · unfold g_script_line_one fieldG
    cases g_script_line_text x <;> rfl
theorem atoi_total {s : List UInt8} (hs : s.length ≤ BB) : ∃ z b, atoiO s = some (z, b) ∧ (b = true → Lib.atoiAll s = .ok z) ∧ (b = false → ∀ z, Lib.atoiAll s ≠ .ok z) := by
  unfold atoiO
  rw [if_pos (by unfold BB at hs; omega)]
  cases h : Lib.atoiAll s with
  | ok z => exact ⟨z, true, rfl, fun _ => rfl, fun h => by cases h⟩
  | «syntax» => exact ⟨_, false, rfl, fun h => (by cases h), fun _ z h => by cases h⟩
  | range => exact ⟨_, false, rfl, fun h => (by cases h), fun _ z h => by cases h⟩
theorem whole_sim : Sim g_script_line_whole (fieldR whV) := by
  refine (Sim.field (k := fun s b => bO (atoiO s) fun v2 => bO (bif (b || (!v2.2)) then some default else (itoaO v2.1)) fun v3 => bO (bif ((b || (!v2.2)) || (!(v3 == s))) then some default else (g_script_in v2.1)) fun v4 => some (v2.1, ((b || (!v2.2)) || (!(v3 == s))) || (!v4))) (fun s hs => ?_) (fun s hs => ?_)).congr (fun x => ?_) (fun _ => rfl)
  · obtain ⟨z, b, h1, _, _⟩ := atoi_total hs
    rw [h1]
    exact ⟨z, rfl⟩
  · obtain ⟨z, b, h1, h2, h3⟩ := atoi_total hs
    rw [h1]
    simp only [bO_some, Bool.false_or]
    refine ⟨z, ?_, ?_⟩
    · unfold whV
      cases b with
      | false =>
        have := h3 rfl
        cases h : Lib.atoiAll s with
        | ok z' => exact absurd h (this z')
        | «syntax» => rfl
        | range => rfl
      | true =>
        have h2 := h2 rfl
        have hb := Lib.atoiAll_bounds h2
        rw [h2]
        simp only [Bool.not_true, cond_false, Bool.false_or]
        rw [show itoaO z = some (Lib.itoa z) from if_pos hb]
        simp only [bO_some]
        by_cases he : Lib.itoa z = s
        · rw [he]
          simp only [beq_self_eq_true, Bool.not_true, cond_false, Bool.false_or, true_and]
          unfold g_script_in
          simp only [bO_some]
          by_cases hr : -1099511627776 ≤ z ∧ z ≤ 1099511627776
          · rw [if_pos hr, dec_t (show z ≥ -1099511627776 from hr.1), dec_t hr.2]; rfl
          · rw [if_neg hr]
            by_cases h0 : z ≥ -1099511627776
            · rw [dec_t h0, dec_f (fun h => hr ⟨h0, h⟩)]; rfl
            · rw [dec_f h0]; rfl
        · rw [show (Lib.itoa z == s) = false from beq_eq_false_iff_ne.2 he, if_neg (fun h => he h.1)]; rfl
    · intro n hn
      rw [whV] at hn
      split at hn
      · rename_i m hm
        split at hn
        · cases hn
          cases b with
          | true => have := h2 rfl; rw [hm] at this; cases this; rfl
          | false => exact absurd hm (h3 rfl _)
        · cases hn
      · cases hn
  · unfold g_script_line_whole fieldG
    cases g_script_line_text x with
    | none => rfl
    | some v =>
      simp only [bO_some]
      cases atoiO v.1 with
      | none => rfl
      | some w =>
        simp only [bO_some]
        cases (bif (v.2.bad || !w.2) then some default else itoaO w.1) with
        | none => rfl
        | some u =>
          simp only [bO_some]
          cases (bif ((v.2.bad || !w.2) || !(u == v.1)) then some default else g_script_in w.1) <;> rfl
/-- An amount of a line. -/
def am1 : Sline → Option (Nat × Sline) := fieldG fun s b => bO (g_script_Amount s) fun w => some (w.1, b || !w.2)
theorem am1_sim : Sim am1 (fieldR amV) := by
  refine Sim.field (fun s hs => ?_) (fun s hs => ?_)
  · obtain ⟨y, b, h1, _⟩ := amount_some (s := s) (by unfold BB at hs; unfold lim; omega)
    rw [h1]; exact ⟨y, rfl⟩
  · obtain ⟨y, b, h1, _⟩ := amount_some (s := s) (by unfold BB at hs; unfold lim; omega)
    unfold amV
    rw [h1]
    refine ⟨y, ?_, ?_⟩
    · cases b <;> rfl
    · cases b with
      | true => intro z hz; cases hz; rfl
      | false => intro z hz; cases hz
theorem amounts_eq (x : Sline) : g_script_line_amounts x = bO (am1 x) fun p => bO (am1 p.2) fun q => bO (am1 q.2) fun r => some (⟨p.1, q.1, r.1⟩, r.2) := by
  unfold g_script_line_amounts am1 fieldG g_script_line_amounts_k1
  cases g_script_line_text x with
  | none => rfl
  | some v =>
    simp only [bO_some]
    cases g_script_Amount v.1 with
    | none => rfl
    | some w =>
      simp only [bO_some]
      cases g_script_line_text ⟨v.2.l, v.2.bad || !w.2⟩ with
      | none => rfl
      | some v8 =>
        simp only [bO_some]
        cases g_script_Amount v8.1 with
        | none => rfl
        | some w9 =>
          simp only [bO_some]
          cases g_script_line_text ⟨v8.2.l, v8.2.bad || !w9.2⟩ with
          | none => rfl
          | some v10 =>
            simp only [bO_some]
            cases g_script_Amount v10.1 <;> rfl
theorem three_sim {α : Type} {g : Sline → Option (α × Sline)} {f : List UInt8 → Option α} (h : Sim g (fieldR f)) : Sim (fun x => bO (g x) fun p => bO (g p.2) fun q => bO (g q.2) fun r => some ((⟨p.1, q.1, r.1⟩ : V3 α), r.2)) (threeR f) :=
  (h.bind fun a => h.bind fun b => h.bind fun c => Sim.pure (⟨a, b, c⟩ : V3 α)).congr (fun _ => rfl) (fun _ => rfl)
theorem amounts_sim : Sim g_script_line_amounts (threeR amV) := (three_sim am1_sim).congr amounts_eq (fun _ => rfl)
theorem quants_sim : Sim g_script_line_quantities (threeR qnV) := (three_sim quant_sim).congr (fun _ => rfl) (fun _ => rfl)
def critW : List UInt8 := [99, 114, 105, 116, 105, 99, 97, 108]
def plainW : List UInt8 := [112, 108, 97, 105, 110]
def podR (ts : List (List UInt8)) : Option (SPod × List (List UInt8)) :=
  (fieldR wdV ts).bind fun a => (fieldR wdV a.2).bind fun b => (fieldR qnV b.2).bind fun c => (fieldR whV c.2).bind fun d => (fieldR (oneV critW plainW) d.2).bind fun e => (threeR qnV e.2).bind fun f =>
    if f.2 = [] then some (⟨a.1, d.1, e.1, f.1, ⟨0, 0, 0⟩, b.1, c.1⟩, []) else (threeR qnV f.2).bind fun g => some (⟨a.1, d.1, e.1, f.1, g.1, b.1, c.1⟩, g.2)
/-- Where there may be more. -/
theorem Sim.more {α : Type} {g : Sline → Option (α × Sline)} {R : List (List UInt8) → Option (α × List (List UInt8))} (a : α) (h : Sim g R) : Sim (fun x => bO (g_script_line_more x) fun v => bif v then g x else some (a, x)) (fun ts => if ts = [] then some (a, []) else R ts) := by
  intro x hx
  obtain ⟨l, b⟩ := x
  show ∃ a' x', (bif ((!b) && decide ((l.length : Int) > 0)) then g ⟨l, b⟩ else some (a, ⟨l, b⟩)) = _ ∧ _
  cases b with
  | true => exact ⟨a, _, rfl, hx, Nat.le_refl _, id, fun h => by cases h⟩
  | false =>
    cases l with
    | nil => exact ⟨a, _, rfl, hx, Nat.le_refl _, id, fun _ => ⟨rfl, rfl, rfl⟩⟩
    | cons f r =>
      obtain ⟨a', x', h1, h2, h3, h4, h5⟩ := h ⟨f :: r, false⟩ hx
      rw [dec_t (show ((f :: r).length : Int) > 0 by simp only [List.length_cons]; omega)]
      refine ⟨a', x', h1, h2, h3, h4, fun h => ?_⟩
      have e : (fun ts => if ts = [] then some (a, []) else R ts) (txs (f :: r)) = R (txs (f :: r)) := if_neg (by simp [txs])
      have h5 := h5 h
      rw [← e] at h5
      exact h5
theorem pod_sim : Sim g_script_line_pod podR :=
  (word_sim.bind fun a => word_sim.bind fun b => quant_sim.bind fun c => whole_sim.bind fun d => (one_sim critW plainW).bind fun e => quants_sim.bind fun f =>
    Sim.more (⟨a, d, e, f, ⟨0, 0, 0⟩, b, c⟩ : SPod) (quants_sim.bind fun g => Sim.pure (⟨a, d, e, f, g, b, c⟩ : SPod))).congr (fun _ => rfl) (fun _ => rfl)
/-! Lists of things, to a line's end. -/
def AfterL {α : Type} (us acc : List α) (x' : Sline) : Option (List α) → Prop
  | some u => x'.bad = false ∧ x'.l = [] ∧ us = acc ++ u
  | none => x'.bad = true
theorem many_ok {α β : Type} {g : Sline → Option (α × Sline)} {R1 : List (List UInt8) → Option (α × List (List UInt8))} (h : Sim g R1) (hd : ∀ ts p, R1 ts = some p → p.2.length < ts.length) {S : List (List UInt8) → Option (List α)} (s0 : S [] = some [])
    (s1 : ∀ t r, S (t :: r) = (R1 (t :: r)).bind fun p => (S p.2).map (p.1 :: ·)) {k : List SField → Bool → List α → Option β} {L : Nat → List SField → Bool → List α → Option β}
    (hL : ∀ m l b acc, L (m + 1) l b acc = bO (g_script_line_more ⟨l, b⟩) fun v => bif v then bO (g ⟨l, b⟩) fun p => bO (appO acc [p.1]) fun q => L m p.2.l p.2.bad q else k l b acc) :
    ∀ (m : Nat) (x : Sline) (acc : List α), OKL x.l → 0 < m → (x.bad = false → x.l.length < m) → (x.bad = false → acc.length + x.l.length ≤ BB) →
      ∃ (us : List α) (x' : Sline), L m x.l x.bad acc = k x'.l x'.bad us ∧ (x.bad = true → x'.bad = true) ∧ (x.bad = false → AfterL us acc x' (S (txs x.l)))
  | 0, _, _, _, h0, _, _ => by omega
  | m + 1, ⟨l, b⟩, acc, ho, _, hm, ha => by
    rw [hL]
    show ∃ (us : List α) (x' : Sline), (bif ((!b) && decide ((l.length : Int) > 0)) then _ else _) = _ ∧ _
    cases b with
    | true => exact ⟨acc, ⟨l, true⟩, rfl, id, fun h => by cases h⟩
    | false =>
      cases l with
      | nil =>
        refine ⟨acc, ⟨[], false⟩, rfl, id, fun _ => ?_⟩
        show AfterL _ _ _ (S [])
        rw [s0]
        exact ⟨rfl, rfl, (List.append_nil _).symm⟩
      | cons f r =>
        rw [dec_t (show ((f :: r).length : Int) > 0 by simp only [List.length_cons]; omega)]
        obtain ⟨a, x1, e1, o1, l1, b1, c1⟩ := h ⟨f :: r, false⟩ ho
        have c1 := c1 rfl
        have ha' : acc.length + (r.length + 1) ≤ BB := ha rfl
        have hm' : r.length + 1 < m + 1 := hm rfl
        simp only [Bool.not_false, Bool.and_self, cond_true]
        rw [e1]
        simp only [bO_some]
        rw [appO_eq (show acc.length + [a].length ≤ lim by unfold lim; unfold BB at ha'; rw [List.length_singleton]; omega)]
        simp only [bO_some]
        have hs1 := s1 f.text (txs r)
        have ht : txs (f :: r) = f.text :: txs r := rfl
        have hlt : ∀ p, R1 (txs (f :: r)) = some p → txs x1.l = p.2 → x1.l.length < r.length + 1 := by
          intro p hp e
          have h9 := hd _ _ hp
          rw [← e] at h9
          simpa [txs] using h9
        have hb : x1.bad = false → x1.l.length < r.length + 1 := by
          intro hb
          cases hr : R1 (txs (f :: r)) with
          | none => rw [hr] at c1; have : x1.bad = true := c1; rw [hb] at this; cases this
          | some p =>
            rw [hr] at c1
            exact hlt p hr c1.2.1
        have l1' : x1.l.length ≤ r.length + 1 := l1
        obtain ⟨us, x', e2, b2, c2⟩ := many_ok h hd s0 s1 hL m x1 (acc ++ [a]) o1 (by omega) (fun h => by have := hb h; omega) (fun hx => by
          rw [List.length_append, List.length_singleton]
          have := hb hx; omega)
        refine ⟨us, x', e2, (fun h => by cases h), fun _ => ?_⟩
        show AfterL _ _ _ (S (txs (f :: r)))
        rw [ht, hs1, ← ht]
        cases hr : R1 (txs (f :: r)) with
        | none => rw [hr] at c1; exact b2 c1
        | some p =>
          rw [hr] at c1
          obtain ⟨d1, d2, d3⟩ := c1
          have c2 := c2 d1
          rw [d2] at c2
          show AfterL _ _ _ ((S p.2).map (p.1 :: ·))
          cases hS : S p.2 with
          | none => rw [hS] at c2; exact c2
          | some u =>
            rw [hS] at c2
            exact ⟨c2.1, c2.2.1, by rw [c2.2.2, d3]; simp⟩
def allV {α : Type} (f : List UInt8 → Option α) : List (List UInt8) → Option (List α)
  | [] => some []
  | t :: r => (f t).bind fun a => (allV f r).map (a :: ·)
def usesR : List (List UInt8) → Option (List SUsage)
  | [] => some []
  | w :: a :: b :: c :: r => (wdV w).bind fun w => (amV a).bind fun a => (amV b).bind fun b => (amV c).bind fun c => (usesR r).map (⟨w, a, b, c⟩ :: ·)
  | _ => none
theorem fieldR_dec {α : Type} {f : List UInt8 → Option α} (ts : List (List UInt8)) (p : α × List (List UInt8)) (h : fieldR f ts = some p) : p.2.length < ts.length := by
  cases ts with
  | nil => cases h
  | cons t r =>
    have h : (f t).map (fun a => (a, r)) = some p := h
    cases hf : f t with
    | none => rw [hf] at h; cases h
    | some a => rw [hf] at h; cases h; simp
def useR (ts : List (List UInt8)) : Option (SUsage × List (List UInt8)) := (fieldR wdV ts).bind fun p => (threeR amV p.2).bind fun q => some (⟨p.1, q.1⟩, q.2)
theorem useR_eq (ts : List (List UInt8)) : useR ts = match ts with
    | w :: a :: b :: c :: r => (wdV w).bind fun w => (amV a).bind fun a => (amV b).bind fun b => (amV c).bind fun c => some (⟨w, a, b, c⟩, r)
    | _ => none := by
  unfold useR threeR
  cases ts with
  | nil => rfl
  | cons w r =>
    cases r with
    | nil => cases h : wdV w <;> simp [fieldR, h]
    | cons a r =>
      cases r with
      | nil => cases h : wdV w <;> cases h2 : amV a <;> simp [fieldR, h, h2]
      | cons b r =>
        cases r with
        | nil => cases h : wdV w <;> cases h2 : amV a <;> cases h3 : amV b <;> simp [fieldR, h, h2, h3]
        | cons c r => cases h : wdV w <;> cases h2 : amV a <;> cases h3 : amV b <;> cases h4 : amV c <;> simp [fieldR, h, h2, h3, h4]
theorem use_sim : Sim (fun x => bO (g_script_line_word x) fun v => bO (g_script_line_amounts v.2) fun w => some ((⟨v.1, w.1⟩ : SUsage), w.2)) useR :=
  (word_sim.bind fun a => amounts_sim.bind fun b => Sim.pure (⟨a, b⟩ : SUsage)).congr (fun _ => rfl) (fun _ => rfl)
theorem useR_dec (ts : List (List UInt8)) (p : SUsage × List (List UInt8)) (h : useR ts = some p) : p.2.length < ts.length := by
  rw [useR_eq] at h
  split at h
  · rename_i w a b c r
    cases h1 : wdV w <;> cases h2 : amV a <;> cases h3 : amV b <;> cases h4 : amV c <;> rw [h1, h2, h3, h4] at h <;> simp at h
    subst h
    simp; omega
  · cases h
theorem usesR_step (t : List UInt8) (r : List (List UInt8)) : usesR (t :: r) = (useR (t :: r)).bind fun p => (usesR p.2).map (p.1 :: ·) := by
  rw [useR_eq]
  cases r with
  | nil => rfl
  | cons a r =>
    cases r with
    | nil => rfl
    | cons b r =>
      cases r with
      | nil => rfl
      | cons c r =>
        rw [usesR]
        show _ = Option.bind ((wdV t).bind fun w => (amV a).bind fun a => (amV b).bind fun b => (amV c).bind fun c => some ((⟨w, a, b, c⟩ : SUsage), r)) fun p => (usesR p.2).map (p.1 :: ·)
        cases h : wdV t <;> cases h2 : amV a <;> cases h3 : amV b <;> cases h4 : amV c <;> rfl
/-! A line's act. -/
def pod0 : SPod := ⟨[], 0, false, ⟨0, 0, 0⟩, ⟨0, 0, 0⟩, [], 0⟩
def raw0 : SRaw := ⟨0, ⟨0, 0, 0⟩, []⟩
def aAdmit (p : SPod) : SAct := ⟨1, p, [], raw0, [], 0, []⟩
def aDelete (s : List UInt8) : SAct := ⟨2, pod0, s, raw0, [], 0, []⟩
def aTick : SAct := ⟨3, pod0, [], raw0, [], 0, []⟩
def aSample (r : SRaw) : SAct := ⟨4, pod0, [], r, [], 0, []⟩
def aFeed (w : List Bool) : SAct := ⟨5, pod0, [], raw0, w, 0, []⟩
def aCrash (n : Int) (k : List Int) : SAct := ⟨6, pod0, [], raw0, [], n, k⟩
def admitW : List UInt8 := [97, 100, 109, 105, 116]
def deleteW : List UInt8 := [100, 101, 108, 101, 116, 101]
def tickW : List UInt8 := [116, 105, 99, 107]
def sampleW : List UInt8 := [115, 97, 109, 112, 108, 101]
def feedW : List UInt8 := [102, 101, 101, 100]
def crashW : List UInt8 := [99, 114, 97, 115, 104]
def okW : List UInt8 := [111, 107]
def badW : List UInt8 := [98, 97, 100]
def rawV : List (List UInt8) → Option SRaw
  | n :: a :: b :: c :: us => (whV n).bind fun n => (amV a).bind fun a => (amV b).bind fun b => (amV c).bind fun c => (usesR us).map fun u => ⟨n, ⟨a, b, c⟩, u⟩
  | _ => none
def admV (ts : List (List UInt8)) : Option SAct := match podR ts with
  | some (p, []) => some (aAdmit p)
  | _ => none
def delV : List (List UInt8) → Option SAct
  | [w] => (wdV w).map aDelete
  | _ => none
def craV : List (List UInt8) → Option SAct
  | n :: ks => (whV n).bind fun n => (allV whV ks).map (aCrash n)
  | [] => none
def lineW (t : List UInt8) (ts : List (List UInt8)) : Option SAct :=
  if t = admitW then admV ts else if t = deleteW then delV ts else if t = tickW then (if ts = [] then some aTick else none)
  else if t = sampleW then (rawV ts).map aSample else if t = feedW then (allV (oneV okW badW) ts).map aFeed else if t = crashW then craV ts else none
def lineV : List (List UInt8) → Option SAct
  | [] => none
  | t :: ts => lineW t ts
/-- How a reader ends, of a line. -/
theorem sim_at {α : Type} {g : Sline → Option (α × Sline)} {R : List (List UInt8) → Option (α × List (List UInt8))} (h : Sim g R) (l : List SField) (ho : OKL l) : ∃ (a : α) (x' : Sline), g ⟨l, false⟩ = some (a, x') ∧ OKL x'.l ∧ (x'.bad = false → x'.l.length ≤ l.length) ∧ After a x' (R (txs l)) := by
  obtain ⟨a, x', h1, h2, h3, _, h5⟩ := h ⟨l, false⟩ ho
  exact ⟨a, x', h1, h2, fun _ => h3, h5 rfl⟩
theorem txs_nil {l : List SField} (h : txs l = []) : l = [] := by cases l with | nil => rfl | cons => cases h
def EndsAs (a : SAct) (x : Sline) : Option SAct → Prop
  | some b => x.bad = false ∧ x.l = [] ∧ a = b
  | none => x.bad = true ∨ x.l ≠ []
theorem ends_txs {a b : SAct} {x : Sline} {ts : List (List UInt8)} (h1 : x.bad = false) (h2 : txs x.l = ts) (h3 : a = b) : EndsAs a x (if ts = [] then some b else none) := by
  cases ts with
  | nil => exact ⟨h1, txs_nil h2, h3⟩
  | cons t r => right; intro e; rw [e] at h2; cases h2
theorem act_ok (f : SField) (l : List SField) (ho : OKL (f :: l)) : ∃ a x', g_script_line_act ⟨f :: l, false⟩ = some (a, x') ∧ EndsAs a x' (lineV (txs (f :: l))) := by
  have hl : (f :: l).length = l.length + 1 := rfl
  have ho1 : l.length + 1 ≤ BB := ho.1
  have hol : OKL l := ⟨by omega, fun x hx => ho.2 x (List.mem_cons_of_mem _ hx)⟩
  have ht : g_script_line_text ⟨f :: l, false⟩ = some (f.text, ⟨l, false⟩) := by
    unfold g_script_line_text
    rw [show (((f :: l).length : Int) == 0) = false from beq_eq_false_iff_ne.2 (by omega)]
    simp only [cond_false]
    rw [show idx (f :: l) 0 = some f from rfl]
    simp only [bO_some]
    have : slO (f :: l) 1 ((f :: l).length : Int) = some l := by
      unfold slO
      rw [if_pos ⟨by omega, by omega, by omega⟩, Int.toNat_natCast, List.take_length]; rfl
    rw [this]; rfl
  unfold g_script_line_act
  rw [ht]
  simp only [bO_some]
  show ∃ a x', _ ∧ EndsAs a x' (lineW f.text (txs l))
  unfold lineW
  by_cases h1 : f.text = admitW
  · rw [if_pos h1, show (f.text == [97, 100, 109, 105, 116]) = true from beq_iff_eq.2 h1]
    obtain ⟨p, x', e1, o1, l1, c1⟩ := sim_at pod_sim l hol
    simp only [cond_true]
    rw [e1]
    simp only [bO_some]
    refine ⟨_, _, rfl, ?_⟩
    unfold admV
    cases hr : podR (txs l) with
    | none => rw [hr] at c1; exact .inl c1
    | some q =>
      rw [hr] at c1
      obtain ⟨q1, q2⟩ := q
      have := ends_txs (a := aAdmit p) (b := aAdmit q1) c1.1 c1.2.1 (by rw [c1.2.2])
      cases q2 <;> exact this
  · rw [if_neg h1, show (f.text == [97, 100, 109, 105, 116]) = false from beq_eq_false_iff_ne.2 h1]
    simp only [cond_false]
    by_cases h2 : f.text = deleteW
    · rw [if_pos h2, show (f.text == [100, 101, 108, 101, 116, 101]) = true from beq_iff_eq.2 h2]
      obtain ⟨p, x', e1, o1, l1, c1⟩ := sim_at word_sim l hol
      simp only [cond_true]
      rw [e1]
      simp only [bO_some]
      refine ⟨_, _, rfl, ?_⟩
      cases hr : txs l with
      | nil => rw [hr] at c1; exact .inl c1
      | cons w r =>
        rw [hr] at c1
        have c1 : After p x' ((wdV w).map (fun a => (a, r))) := c1
        cases hw : wdV w with
        | none =>
          rw [hw] at c1
          have : EndsAs (aDelete p) ⟨x'.l, x'.bad⟩ none := .inl c1
          cases r with
          | nil => simp only [delV, hw]; exact this
          | cons => exact this
        | some v =>
          rw [hw] at c1
          have := ends_txs (a := aDelete p) (b := aDelete v) (x := ⟨x'.l, x'.bad⟩) c1.1 c1.2.1 (by rw [c1.2.2])
          cases r with
          | nil => simp only [delV, hw]; exact this
          | cons => exact this
    · rw [if_neg h2, show (f.text == [100, 101, 108, 101, 116, 101]) = false from beq_eq_false_iff_ne.2 h2]
      simp only [cond_false]
      by_cases h3 : f.text = tickW
      · rw [if_pos h3, show (f.text == [116, 105, 99, 107]) = true from beq_iff_eq.2 h3]
        refine ⟨aTick, ⟨l, false⟩, rfl, ?_⟩
        exact ends_txs (a := aTick) (b := aTick) (x := ⟨l, false⟩) (ts := txs l) rfl rfl rfl
      · rw [if_neg h3, show (f.text == [116, 105, 99, 107]) = false from beq_eq_false_iff_ne.2 h3]
        simp only [cond_false]
        by_cases h4 : f.text = sampleW
        · rw [if_pos h4, show (f.text == [115, 97, 109, 112, 108, 101]) = true from beq_iff_eq.2 h4]
          obtain ⟨n, x1, e1, o1, l1, c1⟩ := sim_at whole_sim l hol
          simp only [cond_true]
          rw [e1]
          simp only [bO_some]
          obtain ⟨am, x2, e2, o2, l2, b2, c2⟩ := amounts_sim x1 o1
          rw [e2]
          simp only [bO_some]
          have hlen : x2.bad = false → x2.l.length ≤ l.length := fun h => by
            cases hx : x1.bad with
            | true => rw [b2 hx] at h; cases h
            | false => have := l1 hx; omega
          obtain ⟨us, x3, e3, b3, c3⟩ := many_ok use_sim useR_dec (S := usesR) rfl usesR_step (k := fun l b acc => g_script_line_act_k1 l b 4 [] 0 false 0 0 0 0 0 0 [] 0 [] n am.a am.b am.c acc [] 0 []) (L := g_script_line_act_l2 (n, x1) (am, x2) g_script_line_act_k1) (fun m l b acc => by
            rw [g_script_line_act_l2]
            cases g_script_line_more ⟨l, b⟩ with
            | none => rfl
            | some v =>
              cases v with
              | false => rfl
              | true =>
                simp only [bO_some, cond_true]
                cases g_script_line_word ⟨l, b⟩ with
                | none => rfl
                | some w =>
                  simp only [bO_some]
                  cases g_script_line_amounts w.2 with
                  | none => rfl
                  | some u => rfl) FUEL x2 [] o2 (by unfold FUEL; omega) (fun h => by have := hlen h; unfold FUEL; unfold BB at ho1; omega) (fun h => by have := hlen h; simp; omega)
          rw [e3]
          refine ⟨_, _, rfl, ?_⟩
          unfold rawV
          cases hr : txs l with
          | nil => rw [hr] at c1; exact .inl (b3 (b2 c1))
          | cons t r =>
            rw [hr] at c1
            have c1 : After n x1 ((whV t).map (fun a => (a, r))) := c1
            cases hw : whV t with
            | none =>
              rw [hw] at c1
              cases r with
              | nil => exact .inl (b3 (b2 c1))
              | cons _ r => cases r with
                | nil => exact .inl (b3 (b2 c1))
                | cons _ r => cases r with
                  | nil => exact .inl (b3 (b2 c1))
                  | cons _ r => simp only [hw, Option.bind_none, Option.map_none]; exact .inl (b3 (b2 c1))
            | some k =>
              rw [hw] at c1
              obtain ⟨d1, d2, d3⟩ := c1
              have c2 := c2 d1
              rw [d2] at c2
              cases r with
              | nil => exact .inl (b3 c2)
              | cons a r =>
                cases r with
                | nil => cases h5 : amV a <;> simp [After, threeR, fieldR, h5] at c2 <;> exact .inl (b3 c2)
                | cons b r =>
                  cases r with
                  | nil => cases h5 : amV a <;> cases h6 : amV b <;> simp [After, threeR, fieldR, h5, h6] at c2 <;> exact .inl (b3 c2)
                  | cons c us' =>
                    cases h5 : amV a with
                    | none => simp [After, threeR, fieldR, h5] at c2; simp [hw, h5]; exact .inl (b3 c2)
                    | some va =>
                      cases h6 : amV b with
                      | none => simp [After, threeR, fieldR, h5, h6] at c2; simp [hw, h5, h6]; exact .inl (b3 c2)
                      | some vb =>
                        cases h7 : amV c with
                        | none => simp [After, threeR, fieldR, h5, h6, h7] at c2; simp [hw, h5, h6, h7]; exact .inl (b3 c2)
                        | some vc =>
                          simp [After, threeR, fieldR, h5, h6, h7] at c2
                          have c3 := c3 c2.1
                          rw [c2.2.1] at c3
                          simp only [hw, h5, h6, h7, Option.bind_some]
                          cases hu : usesR us' with
                          | none => rw [hu] at c3; exact .inl c3
                          | some u =>
                            rw [hu] at c3
                            refine ⟨c3.1, c3.2.1, ?_⟩
                            rw [c3.2.2, d3, c2.2.2]; rfl
        · rw [if_neg h4, show (f.text == [115, 97, 109, 112, 108, 101]) = false from beq_eq_false_iff_ne.2 h4]
          simp only [cond_false]
          by_cases h5 : f.text = feedW
          · rw [if_pos h5, show (f.text == [102, 101, 101, 100]) = true from beq_iff_eq.2 h5]
            simp only [cond_true]
            obtain ⟨us, x3, e3, b3, c3⟩ := many_ok (one_sim okW badW) fieldR_dec (S := allV (oneV okW badW)) rfl (fun t r => by
              show _ = ((oneV okW badW t).map _).bind _
              rw [allV]; cases oneV okW badW t <;> rfl) (k := fun l b acc => g_script_line_act_k1 l b 5 [] 0 false 0 0 0 0 0 0 [] 0 [] 0 0 0 0 [] acc 0 []) (L := g_script_line_act_l3 g_script_line_act_k1) (fun m l b acc => rfl) FUEL ⟨l, false⟩ [] hol (by unfold FUEL; omega) (fun h => by show l.length < _; unfold FUEL; unfold BB at ho1; omega) (fun h => by show 0 + l.length ≤ _; omega)
            rw [e3]
            refine ⟨_, _, rfl, ?_⟩
            have c3 := c3 rfl
            have c3 : AfterL us [] x3 (allV (oneV okW badW) (txs l)) := c3
            cases hu : allV (oneV okW badW) (txs l) with
            | none => rw [hu] at c3; exact .inl c3
            | some u => rw [hu] at c3; exact ⟨c3.1, c3.2.1, by rw [c3.2.2]; rfl⟩
          · rw [if_neg h5, show (f.text == [102, 101, 101, 100]) = false from beq_eq_false_iff_ne.2 h5]
            simp only [cond_false]
            by_cases h6 : f.text = crashW
            · rw [if_pos h6, show (f.text == [99, 114, 97, 115, 104]) = true from beq_iff_eq.2 h6]
              obtain ⟨n, x1, e1, o1, l1, c1⟩ := sim_at whole_sim l hol
              simp only [cond_true]
              rw [e1]
              simp only [bO_some]
              obtain ⟨us, x3, e3, b3, c3⟩ := many_ok whole_sim fieldR_dec (S := allV whV) rfl (fun t r => by
                show _ = ((whV t).map _).bind _
                rw [allV]; cases whV t <;> rfl) (k := fun l b acc => g_script_line_act_k1 l b 6 [] 0 false 0 0 0 0 0 0 [] 0 [] 0 0 0 0 [] [] n acc) (L := g_script_line_act_l4 (n, x1) g_script_line_act_k1) (fun m l b acc => rfl) FUEL x1 [] o1 (by unfold FUEL; omega) (fun h => by have := l1 h; unfold FUEL; unfold BB at ho1; omega) (fun h => by have := l1 h; simp; omega)
              rw [e3]
              refine ⟨_, _, rfl, ?_⟩
              cases hr : txs l with
              | nil => rw [hr] at c1; exact .inl (b3 c1)
              | cons t r =>
                rw [hr] at c1
                have c1 : After n x1 ((whV t).map (fun a => (a, r))) := c1
                show EndsAs _ _ ((whV t).bind fun n => (allV whV r).map (aCrash n))
                cases hw : whV t with
                | none => rw [hw] at c1; exact .inl (b3 c1)
                | some k =>
                  rw [hw] at c1
                  obtain ⟨d1, d2, d3⟩ := c1
                  have c3 := c3 d1
                  rw [d2] at c3
                  show EndsAs _ _ ((allV whV r).map (aCrash k))
                  cases hu : allV whV r with
                  | none => rw [hu] at c3; exact .inl c3
                  | some u => rw [hu] at c3; exact ⟨c3.1, c3.2.1, by rw [c3.2.2, d3]; rfl⟩
            · rw [if_neg h6, show (f.text == [99, 114, 97, 115, 104]) = false from beq_eq_false_iff_ne.2 h6]
              exact ⟨_, _, rfl, .inl rfl⟩
end
section
open Go.RowKit

def OKT (l : List (List UInt8)) : Prop := l.length ≤ BB ∧ ∀ f ∈ l, f.length ≤ BB
/-- What is told, and whether it is. -/
def Told {α : Type} (g : Option (α × Bool)) (o : Option α) : Prop := ∃ a b, g = some (a, b) ∧ match o with
  | some c => b = true ∧ a = c
  | none => b = false
def thr {α : Type} (f : List UInt8 → Option α) (x y z : List UInt8) : Option (V3 α) := (f x).bind fun a => (f y).bind fun b => (f z).bind fun c => some ⟨a, b, c⟩
theorem threeR_eq {α : Type} (f : List UInt8 → Option α) (x y z : List UInt8) (r : List (List UInt8)) : threeR f (x :: y :: z :: r) = (thr f x y z).map fun v => (v, r) := by
  unfold threeR thr fieldR
  cases h1 : f x <;> cases h2 : f y <;> cases h3 : f z <;> simp [h1, h2, h3]
theorem le_lim {s : List UInt8} (h : s.length ≤ BB) : s.length ≤ lim := by unfold BB at h; unfold lim; omega
theorem rq_ok {s : List UInt8} (h : s.length ≤ BB) : g_ref05_Read s = some ((qv s : Int), (qnV s).isSome) ∧ ∀ n, qnV s = some n → (qv s : Int) = n := by
  rw [rread_ok (le_lim h)]
  unfold qnV qv
  cases quantV s with
  | none => exact ⟨rfl, fun n h => by cases h⟩
  | some k => exact ⟨rfl, fun n h => by cases h; rfl⟩
theorem ra_ok {s : List UInt8} (h : s.length ≤ BB) : ∃ y, g_ref26_Amount s = some (y, (amV s).isSome) ∧ ∀ n, amV s = some n → y = n := by
  obtain ⟨y, b, h1, _⟩ := amount_some (le_lim h)
  rw [amount_eq (le_lim h)]
  unfold amV
  rw [h1]
  cases b with
  | true => exact ⟨y, rfl, fun n h => by cases h; rfl⟩
  | false => exact ⟨y, rfl, fun n h => by cases h⟩
theorem rthreeQ {l : List (List UInt8)} {i : Nat} {x y z : List UInt8} (hi : i ≤ BB) (hx : l[i]? = some x) (hy : l[i + 1]? = some y) (hz : l[i + 2]? = some z) (bx : x.length ≤ BB) (by_ : y.length ≤ BB) (bz : z.length ≤ BB) : Told (g_ref26_quantities l (i : Int)) (thr qnV x y z) := by
  unfold BB at hi
  unfold g_ref26_quantities thr
  rw [show w64 ((0 : Int) + 1) = 1 from rfl, show w64 ((1 : Int) + 1) = 2 from rfl, w64_id (x := (i : Int) + 0) (by omega) (by omega), w64_id (x := (i : Int) + 1) (by omega) (by omega), w64_id (x := (i : Int) + 2) (by omega) (by omega)]
  rw [show (i : Int) + 0 = (i : Nat) by omega, show (i : Int) + 1 = ((i + 1 : Nat) : Int) by omega, show (i : Int) + 2 = ((i + 2 : Nat) : Int) by omega, idx_nat hx, idx_nat hy, idx_nat hz]
  simp only [bO_some]
  obtain ⟨h1, k1⟩ := rq_ok bx
  obtain ⟨h2, k2⟩ := rq_ok by_
  obtain ⟨h3, k3⟩ := rq_ok bz
  rw [h1, h2, h3]
  simp only [bO_some]
  cases e1 : qnV x with
  | none => exact ⟨_, _, rfl, rfl⟩
  | some a =>
    cases e2 : qnV y with
    | none => exact ⟨_, _, rfl, rfl⟩
    | some b =>
      cases e3 : qnV z with
      | none => exact ⟨_, _, rfl, rfl⟩
      | some c => exact ⟨_, _, rfl, rfl, by rw [k1 a e1, k2 b e2, k3 c e3]⟩
theorem rthreeA {l : List (List UInt8)} {i : Nat} {x y z : List UInt8} (hi : i ≤ BB) (hx : l[i]? = some x) (hy : l[i + 1]? = some y) (hz : l[i + 2]? = some z) (bx : x.length ≤ BB) (by_ : y.length ≤ BB) (bz : z.length ≤ BB) : Told (g_ref26_amounts l (i : Int)) (thr amV x y z) := by
  unfold BB at hi
  unfold g_ref26_amounts thr
  rw [show w64 ((0 : Int) + 1) = 1 from rfl, show w64 ((1 : Int) + 1) = 2 from rfl, w64_id (x := (i : Int) + 0) (by omega) (by omega), w64_id (x := (i : Int) + 1) (by omega) (by omega), w64_id (x := (i : Int) + 2) (by omega) (by omega)]
  rw [show (i : Int) + 0 = (i : Nat) by omega, show (i : Int) + 1 = ((i + 1 : Nat) : Int) by omega, show (i : Int) + 2 = ((i + 2 : Nat) : Int) by omega, idx_nat hx, idx_nat hy, idx_nat hz]
  simp only [bO_some]
  obtain ⟨a1, h1, k1⟩ := ra_ok bx
  obtain ⟨a2, h2, k2⟩ := ra_ok by_
  obtain ⟨a3, h3, k3⟩ := ra_ok bz
  rw [h1, h2, h3]
  simp only [bO_some]
  cases e1 : amV x with
  | none => exact ⟨_, _, rfl, rfl⟩
  | some a =>
    cases e2 : amV y with
    | none => exact ⟨_, _, rfl, rfl⟩
    | some b =>
      cases e3 : amV z with
      | none => exact ⟨_, _, rfl, rfl⟩
      | some c => exact ⟨_, _, rfl, rfl, by rw [k1 a e1, k2 b e2, k3 c e3]⟩
theorem rwh_ok {s : List UInt8} (h : s.length ≤ BB) : Told (g_ref26_Whole s) (whV s) := by
  obtain ⟨z, h1, h2⟩ := rwhole_ok (le_lim h)
  refine ⟨z, _, h1, ?_⟩
  cases e : whV s with
  | none => rfl
  | some n => exact ⟨rfl, h2 n e⟩

/-! A pod. -/
theorem fieldR_len {α : Type} {f : List UInt8 → Option α} {ts : List (List UInt8)} {p : α × List (List UInt8)} (h : fieldR f ts = some p) : ts.length = p.2.length + 1 := by
  cases ts with
  | nil => cases h
  | cons t r =>
    have h : (f t).map (fun a => (a, r)) = some p := h
    cases hf : f t with
    | none => rw [hf] at h; cases h
    | some a => rw [hf] at h; cases h; rfl
theorem threeR_len {α : Type} {f : List UInt8 → Option α} {ts : List (List UInt8)} {p : V3 α × List (List UInt8)} (h : threeR f ts = some p) : ts.length = p.2.length + 3 := by
  unfold threeR at h
  rw [Option.bind_eq_some_iff] at h
  obtain ⟨a, h1, h⟩ := h
  rw [Option.bind_eq_some_iff] at h
  obtain ⟨b, h2, h⟩ := h
  rw [Option.bind_eq_some_iff] at h
  obtain ⟨c, h3, h⟩ := h
  cases h
  have := fieldR_len h1
  have := fieldR_len h2
  have := fieldR_len h3
  simp only at *
  omega
theorem podR_len {ts : List (List UInt8)} {p : SPod} (h : podR ts = some (p, [])) : ts.length = 8 ∨ ts.length = 11 := by
  unfold podR at h
  rw [Option.bind_eq_some_iff] at h
  obtain ⟨a, h1, h⟩ := h
  rw [Option.bind_eq_some_iff] at h
  obtain ⟨b, h2, h⟩ := h
  rw [Option.bind_eq_some_iff] at h
  obtain ⟨c, h3, h⟩ := h
  rw [Option.bind_eq_some_iff] at h
  obtain ⟨d, h4, h⟩ := h
  rw [Option.bind_eq_some_iff] at h
  obtain ⟨e, h5, h⟩ := h
  rw [Option.bind_eq_some_iff] at h
  obtain ⟨f, h6, h⟩ := h
  have := fieldR_len h1
  have := fieldR_len h2
  have := fieldR_len h3
  have := fieldR_len h4
  have := fieldR_len h5
  have := threeR_len h6
  split at h
  · rename_i hf
    have hf' : f.2.length = 0 := by rw [hf]; rfl
    omega
  · rw [Option.bind_eq_some_iff] at h
    obtain ⟨g, h7, h⟩ := h
    simp only [Option.some.injEq, Prod.mk.injEq] at h
    have h8 := threeR_len h7
    have : g.2.length = 0 := by rw [h.2]; rfl
    omega
theorem admV_none {ts : List (List UInt8)} (h : ¬ (ts.length = 8 ∨ ts.length = 11)) : admV ts = none := by
  unfold admV
  split
  · rename_i p hp; exact absurd (podR_len hp) h
  · rfl
theorem one_isSome {s : List UInt8} : (oneV critW plainW s = none → ((!(s == [99, 114, 105, 116, 105, 99, 97, 108])) && (!(s == [112, 108, 97, 105, 110]))) = true) ∧ ∀ b, oneV critW plainW s = some b → ((!(s == [99, 114, 105, 116, 105, 99, 97, 108])) && (!(s == [112, 108, 97, 105, 110]))) = false ∧ (s == [99, 114, 105, 116, 105, 99, 97, 108]) = b := by
  unfold oneV
  by_cases h1 : s = critW
  · rw [if_pos h1]
    refine ⟨(fun h => by cases h), fun b h => ?_⟩
    cases h
    rw [h1]; exact ⟨rfl, rfl⟩
  · rw [if_neg h1, show (s == [99, 114, 105, 116, 105, 99, 97, 108]) = false from beq_eq_false_iff_ne.2 h1]
    by_cases h2 : s = plainW
    · rw [if_pos h2]
      refine ⟨(fun h => by cases h), fun b h => ?_⟩
      cases h
      rw [h2]; exact ⟨rfl, rfl⟩
    · rw [if_neg h2, show (s == [112, 108, 97, 105, 110]) = false from beq_eq_false_iff_ne.2 h2]
      exact ⟨fun _ => rfl, (fun b h => by cases h)⟩
theorem rpod_ok (t : List UInt8) (ts : List (List UInt8)) (ho : OKT (t :: ts)) : ∃ p b, g_ref26_pod (t :: ts) = some (p, b) ∧ match admV ts with
    | some a => b = true ∧ a = aAdmit p
    | none => b = false := by
  have hl : (t :: ts).length = ts.length + 1 := rfl
  by_cases hlen : ts.length = 8 ∨ ts.length = 11
  · have fin : ∀ (a b c d e x y z : List UInt8) (r : List (List UInt8)), ts = a :: b :: c :: d :: e :: x :: y :: z :: r → (r = [] ∨ ∃ u v w, r = [u, v, w]) → ∃ p b, g_ref26_pod (t :: ts) = some (p, b) ∧ match admV ts with
      | some a => b = true ∧ a = aAdmit p
      | none => b = false := by
      intro a b c d e x y z r hts hr
      have bd : ∀ s ∈ ts, s.length ≤ BB := fun s hs => ho.2 s (List.mem_cons_of_mem _ hs)
      have ba := bd a (by rw [hts]; simp)
      have bb := bd b (by rw [hts]; simp)
      have bc := bd c (by rw [hts]; simp)
      have bd' := bd d (by rw [hts]; simp)
      have bx := bd x (by rw [hts]; simp)
      have by' := bd y (by rw [hts]; simp)
      have bz := bd z (by rw [hts]; simp)
      have hok : ((((t :: ts).length : Int) != 9) && (((t :: ts).length : Int) != 12)) = false := by
        rcases hlen with h | h <;> rw [hl, h] <;> rfl
      unfold g_ref26_pod
      rw [hok]
      simp only [cond_false, Bool.false_or]
      rw [hts]
      rw [show idx (t :: a :: b :: c :: d :: e :: x :: y :: z :: r) 1 = some a from rfl, show idx (t :: a :: b :: c :: d :: e :: x :: y :: z :: r) 2 = some b from rfl, show idx (t :: a :: b :: c :: d :: e :: x :: y :: z :: r) 5 = some e from rfl, show idx (t :: a :: b :: c :: d :: e :: x :: y :: z :: r) 3 = some c from rfl, show idx (t :: a :: b :: c :: d :: e :: x :: y :: z :: r) 4 = some d from rfl]
      simp only [bO_some]
      rw [(wordB_ok (le_lim ba)).2]
      simp only [bO_some]
      unfold admV podR
      simp only [fieldR, wdV]
      cases h1 : wordB a with
      | false => exact ⟨_, _, rfl, rfl⟩
      | true =>
        simp only [Bool.not_true, cond_false, bO_some, (wordB_ok (le_lim bb)).2]
        cases h2 : wordB b with
        | false => exact ⟨_, _, rfl, by simp [h2]⟩
        | true =>
          simp only [h2, Bool.not_true, cond_false, Bool.false_or, bO_some, if_true, Option.map_some, Option.bind_some]
          cases h5 : oneV critW plainW e with
          | none =>
            rw [one_isSome.1 h5]
            refine ⟨_, _, rfl, ?_⟩
            cases hq : qnV c <;> cases hw : whV d <;> simp [h5, hw]
          | some kd =>
            obtain ⟨k1, k2⟩ := one_isSome.2 kd h5
            rw [k1]
            simp only [cond_false]
            obtain ⟨q1, q2⟩ := rq_ok bc
            obtain ⟨n, bn, w1, w2⟩ := rwh_ok bd'
            obtain ⟨v, bv, v1, v2⟩ := rthreeQ (l := t :: a :: b :: c :: d :: e :: x :: y :: z :: r) (i := 6) (by unfold BB; omega) rfl rfl rfl bx by' bz
            have v1 : g_ref26_quantities (t :: a :: b :: c :: d :: e :: x :: y :: z :: r) 6 = some (v, bv) := v1
            rw [q1, w1, v1]
            simp only [bO_some]
            rcases hr with rfl | ⟨u', v', w', rfl⟩
            · rw [show (((t :: a :: b :: c :: d :: e :: x :: y :: z :: []).length : Int) == 12) = false from rfl]
              unfold g_ref26_pod_k1
              rw [show idx (t :: a :: b :: c :: d :: e :: x :: y :: z :: []) 1 = some a from rfl, show idx (t :: a :: b :: c :: d :: e :: x :: y :: z :: []) 2 = some b from rfl, show idx (t :: a :: b :: c :: d :: e :: x :: y :: z :: []) 5 = some e from rfl]
              simp only [cond_false, bO_some]
              refine ⟨_, _, rfl, ?_⟩
              cases hq : qnV c with
              | none => rfl
              | some qc =>
                cases hw : whV d with
                | none => rw [hw] at w2; simp only at w2; subst w2; simp [hw]
                | some wd =>
                  rw [hw] at w2
                  cases ht : thr qnV x y z with
                  | none => rw [ht] at v2; simp only at v2; subst v2; simp [hw, h5, threeR_eq, ht]
                  | some tv =>
                    rw [ht] at v2
                    simp only [hw, h5, threeR_eq, ht, Option.map_some, Option.bind_some, if_true]
                    refine ⟨by rw [w2.1, v2.1]; rfl, ?_⟩
                    rw [w2.2, v2.2, q2 qc hq, k2]
            · rw [show (((t :: a :: b :: c :: d :: e :: x :: y :: z :: [u', v', w']).length : Int) == 12) = true from rfl]
              obtain ⟨v9, bv9, v91, v92⟩ := rthreeQ (l := t :: a :: b :: c :: d :: e :: x :: y :: z :: [u', v', w']) (i := 9) (by unfold BB; omega) rfl rfl rfl (bd u' (by rw [hts]; simp)) (bd v' (by rw [hts]; simp)) (bd w' (by rw [hts]; simp))
              have v91 : g_ref26_quantities (t :: a :: b :: c :: d :: e :: x :: y :: z :: [u', v', w']) 9 = some (v9, bv9) := v91
              rw [v91]
              simp only [cond_true, bO_some]
              unfold g_ref26_pod_k1
              rw [show idx (t :: a :: b :: c :: d :: e :: x :: y :: z :: [u', v', w']) 1 = some a from rfl, show idx (t :: a :: b :: c :: d :: e :: x :: y :: z :: [u', v', w']) 2 = some b from rfl, show idx (t :: a :: b :: c :: d :: e :: x :: y :: z :: [u', v', w']) 5 = some e from rfl]
              simp only [bO_some]
              refine ⟨_, _, rfl, ?_⟩
              cases hq : qnV c with
              | none => rfl
              | some qc =>
                cases hw : whV d with
                | none => rw [hw] at w2; simp only at w2; subst w2; simp [hw]
                | some wd =>
                  rw [hw] at w2
                  cases ht : thr qnV x y z with
                  | none => rw [ht] at v2; simp only at v2; subst v2; simp [hw, h5, threeR_eq, ht]
                  | some tv =>
                    rw [ht] at v2
                    simp only [hw, h5, threeR_eq, ht, Option.map_some, Option.bind_some, if_neg (show ¬ ([u', v', w'] : List (List UInt8)) = [] by simp)]
                    cases ht9 : thr qnV u' v' w' with
                    | none => rw [ht9] at v92; simp only at v92; subst v92; simp []
                    | some t9 =>
                      rw [ht9] at v92
                      simp only [Option.map_some, Option.bind_some]
                      refine ⟨by rw [w2.1, v2.1, v92.1]; rfl, ?_⟩
                      rw [w2.2, v2.2, v92.2, q2 qc hq, k2]
    rcases hlen with h | h
    · rcases ts with _ | ⟨a, _ | ⟨b, _ | ⟨c, _ | ⟨d, _ | ⟨e, _ | ⟨x, _ | ⟨y, _ | ⟨z, r⟩⟩⟩⟩⟩⟩⟩⟩ <;> simp at h
      exact fin a b c d e x y z r rfl (.inl h)
    · rcases ts with _ | ⟨a, _ | ⟨b, _ | ⟨c, _ | ⟨d, _ | ⟨e, _ | ⟨x, _ | ⟨y, _ | ⟨z, r⟩⟩⟩⟩⟩⟩⟩⟩ <;> simp at h
      rcases r with _ | ⟨u, _ | ⟨v, _ | ⟨w, r⟩⟩⟩ <;> simp at h
      exact fin a b c d e x y z [u, v, w] (by rw [h]) (.inr ⟨u, v, w, rfl⟩)
  · rw [admV_none hlen]
    have hok : ((((t :: ts).length : Int) != 9) && (((t :: ts).length : Int) != 12)) = true := by
      rw [hl, Bool.and_eq_true, bne_iff_ne, bne_iff_ne]; omega
    unfold g_ref26_pod
    rw [hok]
    exact ⟨_, _, rfl, rfl⟩
/-! A sample. -/
theorem app_at {α : Type} (pre us : List α) (j : Nat) : (pre ++ us)[pre.length + j]? = us[j]? := by
  rw [List.getElem?_append_right (by omega), Nat.add_sub_cancel_left]
theorem Told.of {α : Type} {a : α} {b : Bool} {o : Option α} (h1 : b = o.isSome) (h2 : ∀ c, o = some c → a = c) : Told (some (a, b)) o := by
  refine ⟨a, b, rfl, ?_⟩
  subst h1
  cases o with
  | none => rfl
  | some c => exact ⟨rfl, h2 c rfl⟩
theorem usesR_len : ∀ (us : List (List UInt8)) (u : List SUsage), usesR us = some u → us.length % 4 = 0
  | [], _, _ => rfl
  | [_], _, h => by cases h
  | [_, _], _, h => by cases h
  | [_, _, _], _, h => by cases h
  | w :: a :: b :: c :: r, u, h => by
    rw [usesR] at h
    rw [Option.bind_eq_some_iff] at h
    obtain ⟨_, _, h⟩ := h
    rw [Option.bind_eq_some_iff] at h
    obtain ⟨_, _, h⟩ := h
    rw [Option.bind_eq_some_iff] at h
    obtain ⟨_, _, h⟩ := h
    rw [Option.bind_eq_some_iff] at h
    obtain ⟨_, _, h⟩ := h
    rw [Option.map_eq_some_iff] at h
    obtain ⟨v, h, _⟩ := h
    have := usesR_len r v h
    simp only [List.length_cons]
    omega
theorem raw_loop (l : List (List UInt8)) (ho : OKT l) (k : List SUsage → Option (SRaw × Bool)) : ∀ (m : Nat) (us pre : List (List UInt8)) (acc : List SUsage), l = pre ++ us → us.length < m → us.length % 4 = 0 → acc.length ≤ pre.length →
    g_ref26_raw_l2 l k m acc (pre.length : Int) = match usesR us with
      | some u => k (acc ++ u)
      | none => some (raw0, false)
  | 0, _, _, _, _, h, _, _ => by omega
  | m + 1, [], pre, acc, he, _, _, _ => by
    rw [g_ref26_raw_l2, he, List.append_nil, dec_f (by omega)]
    simp only [usesR, List.append_nil, cond_false]
  | m + 1, [_], _, _, _, _, h, _ => by simp at h
  | m + 1, [_, _], _, _, _, _, h, _ => by simp at h
  | m + 1, [_, _, _], _, _, _, _, h, _ => by simp at h
  | m + 1, w :: a :: b :: c :: r, pre, acc, he, hm, h4, hac => by
    have hl : l.length = pre.length + (r.length + 4) := by rw [he]; simp
    have hBB := ho.1
    have hB : pre.length ≤ BB := by omega
    have hB' := hB
    unfold BB at hB'
    have hin : ∀ s ∈ (w :: a :: b :: c :: r), s.length ≤ BB := fun s hs => ho.2 s (by rw [he]; exact List.mem_append_right _ hs)
    rw [g_ref26_raw_l2, dec_t (by omega)]
    simp only [cond_true]
    rw [w64_succ (by omega)]
    have g0 : l[pre.length]? = some w := by rw [he]; exact app_get pre w _
    obtain ⟨v, bv, v1, v2⟩ := rthreeA (l := l) (i := pre.length + 1) (x := a) (y := b) (z := c) (by rw [hl] at hBB; omega) (by rw [he]; exact app_at pre _ 1) (by rw [he]; exact app_at pre _ 2) (by rw [he]; exact app_at pre _ 3) (hin a (by simp)) (hin b (by simp)) (hin c (by simp))
    rw [v1, idx_nat g0]
    simp only [bO_some]
    have hth : usesR (w :: a :: b :: c :: r) = (wdV w).bind fun w => (thr amV a b c).bind fun q => (usesR r).map (⟨w, q⟩ :: ·) := by
      rw [usesR]
      unfold thr
      cases wdV w <;> cases amV a <;> cases amV b <;> cases amV c <;> rfl
    rw [hth]
    cases ht : thr amV a b c with
    | none =>
      rw [ht] at v2; simp only at v2; subst v2
      simp only [Bool.not_false, cond_true, bO_some, Bool.true_or]
      cases wdV w <;> rfl
    | some q =>
      rw [ht] at v2
      obtain ⟨rfl, rfl⟩ := v2
      simp only [Bool.not_true, cond_false, bO_some, Bool.false_or]
      rw [(wordB_ok (le_lim (hin w (by simp)))).2]
      simp only [bO_some]
      unfold wdV
      cases hw : wordB w with
      | false => rfl
      | true =>
        simp only [Bool.not_true, cond_false, if_true, Option.bind_some]
        rw [appO_eq (by rw [List.length_singleton]; unfold lim; omega)]
        simp only [bO_some]
        rw [w64_id (by omega) (by omega)]
        have ih := raw_loop l ho k m r (pre ++ [w, a, b, c]) (acc ++ [⟨w, v⟩]) (by rw [he]; simp) (by simp only [List.length_cons] at hm; omega) (by simp only [List.length_cons] at h4; omega) (by simp; omega)
        rw [show ((pre ++ [w, a, b, c]).length : Int) = (pre.length : Int) + 4 by simp] at ih
        rw [ih]
        cases usesR r with
        | none => rfl
        | some u => simp
theorem rraw_ok (t : List UInt8) (ts : List (List UInt8)) (ho : OKT (t :: ts)) : Told (g_ref26_raw (t :: ts)) (rawV ts) := by
  have hl : (t :: ts).length = ts.length + 1 := rfl
  have hB := ho.1
  unfold BB at hB
  rw [hl] at hB
  unfold g_ref26_raw
  rcases ts with _ | ⟨n, _ | ⟨a, _ | ⟨b, _ | ⟨c, us⟩⟩⟩⟩
  · exact ⟨_, _, rfl, rfl⟩
  · exact ⟨_, _, rfl, rfl⟩
  · exact ⟨_, _, rfl, rfl⟩
  · exact ⟨_, _, rfl, rfl⟩
  · have hl2 : (t :: n :: a :: b :: c :: us).length = us.length + 5 := rfl
    have hin : ∀ s ∈ (t :: n :: a :: b :: c :: us), s.length ≤ BB := ho.2
    simp only [List.length_cons] at hB
    rw [hl2, dec_f (by omega)]
    rw [w64_id (by omega) (by omega), show ((us.length + 5 : Nat) : Int) - 5 = (us.length : Nat) by omega]
    rw [show ((us.length : Int).tmod 4) = ((us.length % 4 : Nat) : Int) from (Int.ofNat_tmod us.length 4).symm]
    by_cases h4 : us.length % 4 = 0
    · rw [h4]
      simp only [Bool.false_or]
      rw [show (((0 : Nat) : Int) != 0) = false from rfl]
      simp only [cond_false]
      rw [show idx (t :: n :: a :: b :: c :: us) 1 = some n from rfl]
      simp only [bO_some]
      obtain ⟨w, bw, w1, w2⟩ := rwh_ok (hin n (by simp))
      obtain ⟨v, bv, v1, v2⟩ := rthreeA (l := t :: n :: a :: b :: c :: us) (i := 2) (by unfold BB; omega) rfl rfl rfl (hin a (by simp)) (hin b (by simp)) (hin c (by simp))
      have v1 : g_ref26_amounts (t :: n :: a :: b :: c :: us) 2 = some (v, bv) := v1
      rw [w1, v1]
      simp only [bO_some]
      have hloop := raw_loop (t :: n :: a :: b :: c :: us) ho (g_ref26_raw_k1 (w, bw) (v, bv)) FUEL us [t, n, a, b, c] [] rfl (by unfold FUEL; omega) h4 (by simp)
      have hloop : g_ref26_raw_l2 (t :: n :: a :: b :: c :: us) (g_ref26_raw_k1 (w, bw) (v, bv)) FUEL [] 5 = _ := hloop
      rw [hloop]
      have hrw : rawV (n :: a :: b :: c :: us) = (whV n).bind fun n => (thr amV a b c).bind fun q => (usesR us).map fun u => ⟨n, q, u⟩ := by
        show (whV n).bind _ = _
        unfold thr
        cases whV n <;> cases amV a <;> cases amV b <;> cases amV c <;> rfl
      rw [hrw]
      cases hu : usesR us with
      | none =>
        refine ⟨_, _, rfl, ?_⟩
        cases whV n <;> cases thr amV a b c <;> rfl
      | some u =>
        refine ⟨_, _, rfl, ?_⟩
        cases h1 : whV n with
        | none => rw [h1] at w2; simp only at w2; subst w2; rfl
        | some x =>
          rw [h1] at w2
          cases h2 : thr amV a b c with
          | none => rw [h2] at v2; simp only at v2; subst v2; simp
          | some q =>
            rw [h2] at v2
            exact ⟨by rw [w2.1, v2.1]; rfl, by rw [w2.2, v2.2]; rfl⟩
    · rw [show (((us.length % 4 : Nat) : Int) != 0) = true from bne_iff_ne.2 (by omega)]
      refine ⟨_, _, rfl, ?_⟩
      have : rawV (n :: a :: b :: c :: us) = none := by
        show (whV n).bind _ = _
        cases hu : usesR us with
        | none => cases whV n <;> cases amV a <;> cases amV b <;> cases amV c <;> rfl
        | some u => exact absurd (usesR_len us u hu) h4
      rw [this]
/-! Outcomes, and numbers. -/
theorem feed_loop (l : List (List UInt8)) (ho : OKT l) (k : List Bool → Option (SAct × Bool)) : ∀ (m : Nat) (us pre : List (List UInt8)) (acc : List Bool), l = pre ++ us → us.length < m → acc.length ≤ pre.length →
    g_ref26_Line_l7 l k m acc (pre.length : Int) = match allV (oneV okW badW) us with
      | some u => k (acc ++ u)
      | none => g_ref26_Line_k2
  | 0, _, _, _, _, h, _ => by omega
  | m + 1, [], pre, acc, he, _, _ => by
    rw [g_ref26_Line_l7, he, List.append_nil, dec_f (by omega)]
    simp only [allV, List.append_nil, cond_false]
  | m + 1, w :: r, pre, acc, he, hm, hac => by
    have hl : l.length = pre.length + (r.length + 1) := by rw [he]; simp
    have hBB := ho.1
    unfold BB at hBB
    rw [g_ref26_Line_l7, dec_t (by omega)]
    simp only [cond_true]
    rw [idx_nat (show l[pre.length]? = some w by rw [he]; exact app_get pre w _)]
    simp only [bO_some]
    rw [allV]
    unfold oneV
    have ih := fun x : Bool => feed_loop l ho k m r (pre ++ [w]) (acc ++ [x]) (by rw [he]; simp) (by simp only [List.length_cons] at hm; omega) (by simp; omega)
    rw [List.length_append, List.length_singleton] at ih
    have happ : ∀ x : Bool, appO acc [x] = some (acc ++ [x]) := fun x => appO_eq (by rw [List.length_singleton]; unfold lim; omega)
    by_cases h1 : w = okW
    · rw [if_pos h1, show (w == [111, 107]) = true from beq_iff_eq.2 h1]
      simp only [Bool.not_true, Bool.false_and, cond_false, happ, bO_some, Option.bind_some]
      rw [w64_succ (by omega), ih true]
      unfold oneV
      cases allV (fun s => if s = okW then some true else if s = badW then some false else none) r with
      | none => rfl
      | some u => simp
    · rw [if_neg h1, show (w == [111, 107]) = false from beq_eq_false_iff_ne.2 h1]
      by_cases h2 : w = badW
      · rw [if_pos h2, show (w == [98, 97, 100]) = true from beq_iff_eq.2 h2]
        simp only [Bool.not_true, Bool.and_false, cond_false, happ, bO_some, Option.bind_some]
        rw [w64_succ (by omega), ih false]
        unfold oneV
        cases allV (fun s => if s = okW then some true else if s = badW then some false else none) r with
        | none => rfl
        | some u => simp
      · rw [if_neg h2, show (w == [98, 97, 100]) = false from beq_eq_false_iff_ne.2 h2]
        rfl
theorem crash_loop (l : List (List UInt8)) (ho : OKT l) (k : Int → List Int → Option (SAct × Bool)) (n : Int) : ∀ (m : Nat) (us pre : List (List UInt8)) (acc : List Int), l = pre ++ us → us.length < m → acc.length ≤ pre.length → 2 ≤ pre.length →
    g_ref26_Line_l4 l k m n acc (pre.length : Int) = match allV whV us with
      | some u => k n (acc ++ u)
      | none => g_ref26_Line_k2
  | 0, _, _, _, _, h, _, _ => by omega
  | m + 1, [], pre, acc, he, _, _, _ => by
    rw [g_ref26_Line_l4, he, List.append_nil, dec_f (by omega)]
    simp only [allV, List.append_nil, cond_false]
  | m + 1, w :: r, pre, acc, he, hm, hac, hp => by
    have hl : l.length = pre.length + (r.length + 1) := by rw [he]; simp
    have hBB := ho.1
    unfold BB at hBB
    rw [g_ref26_Line_l4, dec_t (by omega)]
    simp only [cond_true]
    rw [idx_nat (show l[pre.length]? = some w by rw [he]; exact app_get pre w _)]
    simp only [bO_some]
    obtain ⟨z, b, z1, z2⟩ := rwh_ok (s := w) (ho.2 w (by rw [he]; simp))
    rw [z1, allV]
    simp only [bO_some]
    cases hw : whV w with
    | none => rw [hw] at z2; simp only at z2; subst z2; rfl
    | some x =>
      rw [hw] at z2
      obtain ⟨rfl, rfl⟩ := z2
      simp only [Bool.not_true, cond_false, Option.bind_some]
      rw [show ((pre.length : Int) == 1) = false from beq_eq_false_iff_ne.2 (by omega), cond_false, appO_eq (by rw [List.length_singleton]; unfold lim; omega)]
      simp only [bO_some]
      unfold g_ref26_Line_k5
      rw [w64_succ (by omega)]
      have ih := crash_loop l ho k n m r (pre ++ [w]) (acc ++ [z]) (by rw [he]; simp) (by simp only [List.length_cons] at hm; omega) (by simp; omega) (by simp; omega)
      rw [List.length_append, List.length_singleton] at ih
      rw [ih]
      cases allV whV r with
      | none => rfl
      | some u => simp
theorem rline_ok (t : List UInt8) (ts : List (List UInt8)) (ho : OKT (t :: ts)) : Told (g_ref26_Line (t :: ts)) (lineW t ts) := by
  have hl : (t :: ts).length = ts.length + 1 := rfl
  have hB := ho.1
  unfold BB at hB
  rw [hl] at hB
  unfold g_ref26_Line
  rw [show idx (t :: ts) 0 = some t from rfl]
  simp only [bO_some]
  unfold lineW
  by_cases h1 : t = admitW
  · rw [if_pos h1, show (t == [97, 100, 109, 105, 116]) = true from beq_iff_eq.2 h1]
    simp only [cond_true]
    obtain ⟨p, b, e1, e2⟩ := rpod_ok t ts ho
    rw [e1]
    refine ⟨_, _, rfl, ?_⟩
    cases h : admV ts with
    | none => rw [h] at e2; exact e2
    | some a => rw [h] at e2; exact ⟨e2.1, e2.2.symm⟩
  · rw [if_neg h1, show (t == [97, 100, 109, 105, 116]) = false from beq_eq_false_iff_ne.2 h1]
    simp only [cond_false]
    by_cases h2 : t = deleteW
    · rw [if_pos h2, show (t == [100, 101, 108, 101, 116, 101]) = true from beq_iff_eq.2 h2]
      simp only [cond_true]
      rcases ts with _ | ⟨w, _ | ⟨x, r⟩⟩
      · exact ⟨_, _, rfl, rfl⟩
      · rw [show (((t :: [w]).length : Int) != 2) = false from rfl, show idx (t :: [w]) 1 = some w from rfl]
        simp only [cond_false, bO_some]
        rw [(wordB_ok (le_lim (ho.2 w (by simp)))).2]
        refine ⟨_, _, rfl, ?_⟩
        unfold delV wdV
        cases hw : wordB w with
        | false => simp [hw]
        | true => simp [hw, aDelete, pod0, raw0]
      · have hl2 : (t :: w :: x :: r).length = r.length + 3 := rfl
        rw [hl2, show (((r.length + 3 : Nat) : Int) != 2) = true from bne_iff_ne.2 (by omega)]
        exact ⟨_, _, rfl, rfl⟩
    · rw [if_neg h2, show (t == [100, 101, 108, 101, 116, 101]) = false from beq_eq_false_iff_ne.2 h2]
      simp only [cond_false]
      by_cases h3 : t = tickW
      · rw [if_pos h3, show (t == [116, 105, 99, 107]) = true from beq_iff_eq.2 h3]
        simp only [cond_true]
        cases ts with
        | nil => exact ⟨_, _, rfl, rfl, rfl⟩
        | cons x r =>
          have hl2 : (t :: x :: r).length = r.length + 2 := rfl
          rw [hl2, show (((r.length + 2 : Nat) : Int) == 1) = false from beq_eq_false_iff_ne.2 (by omega)]
          exact ⟨_, _, rfl, rfl⟩
      · rw [if_neg h3, show (t == [116, 105, 99, 107]) = false from beq_eq_false_iff_ne.2 h3]
        simp only [cond_false]
        by_cases h4 : t = sampleW
        · rw [if_pos h4, show (t == [115, 97, 109, 112, 108, 101]) = true from beq_iff_eq.2 h4]
          simp only [cond_true]
          obtain ⟨r, b, e1, e2⟩ := rraw_ok t ts ho
          rw [e1]
          refine ⟨_, _, rfl, ?_⟩
          cases h : rawV ts with
          | none => rw [h] at e2; exact e2
          | some a => rw [h] at e2; exact ⟨e2.1, by rw [e2.2]; rfl⟩
        · rw [if_neg h4, show (t == [115, 97, 109, 112, 108, 101]) = false from beq_eq_false_iff_ne.2 h4]
          simp only [cond_false]
          by_cases h5 : t = feedW
          · rw [if_pos h5, show (t == [102, 101, 101, 100]) = true from beq_iff_eq.2 h5]
            simp only [cond_true]
            have h := feed_loop (t :: ts) ho g_ref26_Line_k6 FUEL ts [t] [] rfl (by unfold FUEL; omega) (by simp)
            have h : g_ref26_Line_l7 (t :: ts) g_ref26_Line_k6 FUEL [] 1 = _ := h
            rw [h]
            cases allV (oneV okW badW) ts with
            | none => exact ⟨_, _, rfl, rfl⟩
            | some u => exact ⟨_, _, rfl, rfl, rfl⟩
          · rw [if_neg h5, show (t == [102, 101, 101, 100]) = false from beq_eq_false_iff_ne.2 h5]
            simp only [cond_false]
            unfold g_ref26_Line_k1
            rw [show idx (t :: ts) 0 = some t from rfl]
            simp only [bO_some]
            by_cases h6 : t = crashW
            · rw [if_pos h6, show (t == [99, 114, 97, 115, 104]) = true from beq_iff_eq.2 h6]
              simp only [Bool.true_and]
              cases ts with
              | nil => exact ⟨_, _, rfl, rfl⟩
              | cons n ks =>
                have hl2 : (t :: n :: ks).length = ks.length + 2 := rfl
                rw [hl2, dec_t (by omega)]
                simp only [cond_true]
                obtain ⟨z, b, z1, z2⟩ := rwh_ok (s := n) (ho.2 n (by simp))
                rw [show FUEL = 18446744073709551615 + 1 from rfl, g_ref26_Line_l4, hl2, dec_t (by omega), show idx (t :: n :: ks) 1 = some n from rfl]
                simp only [cond_true, bO_some]
                rw [z1]
                simp only [bO_some]
                show Told _ ((whV n).bind fun n => (allV whV ks).map (aCrash n))
                cases hw : whV n with
                | none => rw [hw] at z2; simp only at z2; subst z2; exact ⟨_, _, rfl, rfl⟩
                | some x =>
                  rw [hw] at z2
                  obtain ⟨rfl, rfl⟩ := z2
                  simp only [List.length_cons] at hB
                  have h := crash_loop (t :: n :: ks) ho g_ref26_Line_k3 z 18446744073709551615 ks [t, n] [] rfl (by omega) (by simp) (by simp)
                  have h : g_ref26_Line_l4 (t :: n :: ks) g_ref26_Line_k3 18446744073709551615 z [] (w64 (1 + 1)) = _ := h
                  simp only [Bool.not_true, cond_false, beq_self_eq_true, cond_true, Option.bind_some]
                  unfold g_ref26_Line_k5
                  rw [h]
                  cases allV whV ks with
                  | none => exact ⟨_, _, rfl, rfl⟩
                  | some u => exact ⟨_, _, rfl, rfl, rfl⟩
            · rw [if_neg h6, show (t == [99, 114, 97, 115, 104]) = false from beq_eq_false_iff_ne.2 h6]
              exact ⟨_, _, rfl, rfl⟩
end
section
def f0 : Field := ⟨[], 0, 0⟩
/-- A line's words, with blanks between. -/
def wordsT : List Field → List UInt8
  | [] => []
  | f :: r => f.text ++ r.flatMap fun g => 32 :: g.text
/-- Lines, joined. -/
def joinT (x : List (List Field)) : List UInt8 := x.flatMap fun fs => wordsT fs ++ [10]
end
section
theorem scan_ind {P : Nat → Nat → List UInt8 → Prop} (h0 : ∀ n i, P n i []) (hb : ∀ n i c r, blankB c.toNat = true → P n (i + 1) r → P n i (c :: r)) (hh : ∀ n i c r, blankB c.toNat = false → c.toNat = 35 → P n i (c :: r))
    (hw : ∀ n i c r, blankB c.toNat = false → c.toNat ≠ 35 → P n (i + 1 + (r.takeWhile (fun c => !blankB c.toNat)).length) (r.dropWhile (fun c => !blankB c.toNat)) → P n i (c :: r)) : ∀ s n i, P n i s := by
  intro s
  induction h : s.length using Nat.strongRecOn generalizing s with
  | _ m ih =>
    intro n i
    cases s with
    | nil => exact h0 n i
    | cons c r =>
      subst h
      cases hbl : blankB c.toNat with
      | true => exact hb n i c r hbl (ih r.length (by simp) r rfl n (i + 1))
      | false =>
        by_cases h35 : c.toNat = 35
        · exact hh n i c r hbl h35
        · have hl := (List.dropWhile_sublist (l := r) (fun c => !blankB c.toNat)).length_le
          exact hw n i c r hbl h35 (ih _ (by simp; omega) _ rfl n _)

/-- A line's words. -/
def words (s : List UInt8) : List (List UInt8) := (scan 0 0 s).map (·.text)
theorem scan_texts2 : ∀ (s : List UInt8) (n i : Nat), ∀ n' i', (scan n i s).map (·.text) = (scan n' i' s).map (·.text) := by
  refine scan_ind (P := fun n i s => ∀ n' i', (scan n i s).map (·.text) = (scan n' i' s).map (·.text)) ?_ ?_ ?_ ?_
  · intro n i n' i'; rw [scan_nil, scan_nil]
  · intro n i c r h ih n' i'; rw [scan_blank h, scan_blank h]; exact ih _ _
  · intro n i c r h h2 n' i'; rw [scan_hash h h2, scan_hash h h2]
  · intro n i c r h h2 ih n' i'
    rw [scan_word h h2, scan_word h h2]
    simp only [List.map_cons, List.cons.injEq, true_and]
    exact ih _ _
theorem scan_texts (s : List UInt8) (n i : Nat) : (scan n i s).map (·.text) = words s := scan_texts2 s n i 0 0

/-- A word: not empty; without blanks and lines' ends; no remark. -/
def GoodW (w : List UInt8) : Prop := w ≠ [] ∧ (∀ c ∈ w, blankB (c.toNat : Int) = false) ∧ (∀ c r, w = c :: r → c.toNat ≠ 35)
theorem scan_good : ∀ (s : List UInt8) (n i : Nat), ∀ f ∈ scan n i s, GoodW f.text ∧ f.line = n ∧ (∀ c ∈ f.text, c ∈ s) := by
  refine scan_ind (P := fun n i s => ∀ f ∈ scan n i s, GoodW f.text ∧ f.line = n ∧ (∀ c ∈ f.text, c ∈ s)) ?_ ?_ ?_ ?_
  · intro n i f hf; rw [scan_nil] at hf; cases hf
  · intro n i c r h ih f hf
    rw [scan_blank h] at hf
    obtain ⟨h1, h2, h3⟩ := ih f hf
    exact ⟨h1, h2, fun c hc => List.mem_cons_of_mem _ (h3 c hc)⟩
  · intro n i c r h h2 f hf; rw [scan_hash h h2] at hf; cases hf
  · intro n i c r h h2 ih f hf
    rw [scan_word h h2] at hf
    rcases List.mem_cons.1 hf with rfl | hf
    · refine ⟨⟨by simp, fun x hx => ?_, fun x t e => by cases e; exact h2⟩, rfl, fun x hx => ?_⟩
      · rcases List.mem_cons.1 hx with rfl | hx
        · exact h
        · have := List.all_eq_true.1 (List.all_takeWhile (p := fun (c : UInt8) => !blankB (c.toNat : Int)) (l := r)) x hx
          exact bnot_t this
      · rcases List.mem_cons.1 hx with rfl | hx
        · exact List.mem_cons_self ..
        · exact List.mem_cons_of_mem _ ((List.takeWhile_sublist _).mem hx)
    · obtain ⟨h3, h4, h5⟩ := ih f hf
      exact ⟨h3, h4, fun c hc => List.mem_cons_of_mem _ ((List.dropWhile_sublist _).mem (h5 c hc))⟩
/-- Lines' texts. -/
def textsOf (x : List (List Field)) : List (List (List UInt8)) := x.map fun fs => fs.map (·.text)
theorem lexFrom_texts (ls : List (List UInt8)) : ∀ n, textsOf (lexFrom n ls) = (ls.map words).filter (fun ws => !ws.isEmpty) := by
  induction ls with
  | nil => intro n; rfl
  | cons s r ih =>
    intro n
    have hs := scan_texts s n 0
    rw [lexFrom, List.map_cons, List.filter_cons]
    by_cases h : (scan n 0 s).length = 0
    · have : words s = [] := by rw [← hs, List.length_eq_zero_iff.1 h]; rfl
      rw [if_pos h, this]
      simpa using ih (n + 1)
    · have : words s ≠ [] := by rw [← hs]; intro e; exact h (by simpa using congrArg List.length e)
      have h2 : (!(words s).isEmpty) = true := by cases hw : words s <;> simp_all
      rw [if_neg h, if_pos h2]
      simp only [textsOf, List.map_cons, hs]
      congr 1
      exact ih (n + 1)
theorem lexFrom_app (xs ys : List (List UInt8)) : ∀ n, lexFrom n (xs ++ ys) = lexFrom n xs ++ lexFrom (n + xs.length) ys := by
  induction xs with
  | nil => intro n; simp [lexFrom]
  | cons s r ih =>
    intro n
    rw [List.cons_append, lexFrom, lexFrom, ih (n + 1), List.length_cons, show n + 1 + r.length = n + (r.length + 1) by omega]
    split <;> simp
theorem textsOf_len (x : List (List Field)) : (textsOf x).length = x.length := by simp [textsOf]
def wT : List (List UInt8) → List UInt8
  | [] => []
  | w :: r => w ++ r.flatMap fun v => 32 :: v
def jT (x : List (List (List UInt8))) : List UInt8 := x.flatMap fun ws => wT ws ++ [10]
theorem wordsT_eq (fs : List Field) : wordsT fs = wT (fs.map (·.text)) := by
  cases fs with
  | nil => rfl
  | cons f r => simp [wordsT, wT, List.flatMap_map]
theorem joinT_eq (x : List (List Field)) : joinT x = jT (textsOf x) := by
  simp [joinT, jT, textsOf, List.flatMap_map, wordsT_eq]
/-! Texts one behind the other. -/
theorem splitNl_app (a b : List UInt8) : splitNl (a ++ 10 :: b) = splitNl a ++ splitNl b := by
  induction a with
  | nil => rw [List.nil_append, splitNl_10, splitNl_nil]; rfl
  | cons c r ih =>
    by_cases hc : c = 10
    · subst hc
      rw [List.cons_append, splitNl_10, splitNl_10, ih]; rfl
    · obtain ⟨hd, tl, e1, e2⟩ := splitNl_ne hc (r ++ 10 :: b)
      obtain ⟨hd', tl', e3, e4⟩ := splitNl_ne hc r
      rw [List.cons_append, e2, e4]
      rw [ih, e3, List.cons_append] at e1
      cases e1
      rfl
theorem readable_app {a b : List UInt8} (ha : a.length ≤ 2000) (hb : b.length ≤ 2000) : readableB (a ++ 10 :: b) = (readableB a && readableB b) := by
  simp only [readableB]
  have h1 : decide ((a ++ 10 :: b).length ≤ 65536) = true := by simp; omega
  have h2 : decide (a.length ≤ 65536) = true := by simp; omega
  have h3 : decide (b.length ≤ 65536) = true := by simp; omega
  rw [h1, h2, h3]
  have h10 : okB ((10 : UInt8).toNat : Int) = true := rfl
  simp only [Bool.and_true, List.all_append, List.all_cons, h10, Bool.true_and]
/-! The length of what is joined. -/
theorem wT_len (ws : List (List UInt8)) (h : ws ≠ []) : (wT ws).length + 1 = (ws.map fun w => w.length + 1).sum := by
  cases ws with
  | nil => exact absurd rfl h
  | cons w r =>
    simp only [wT, List.length_append, List.map_cons, List.sum_cons]
    have : ∀ (r : List (List UInt8)), (r.flatMap fun v => 32 :: v).length = (r.map fun w => w.length + 1).sum := by
      intro r; induction r with
      | nil => rfl
      | cons v t ih => simp only [List.flatMap_cons, List.length_append, List.length_cons, List.map_cons, List.sum_cons, ih]
    rw [this]; omega
theorem words_len2 : ∀ (s : List UInt8) (n i : Nat), ((scan n i s).map fun f => f.text.length + 1).sum ≤ s.length + 1 ∧ ((s = [] ∨ ∃ x t, s = x :: t ∧ blankB x.toNat = true) → ((scan n i s).map fun f => f.text.length + 1).sum ≤ s.length) := by
  refine scan_ind (P := fun n i s => ((scan n i s).map fun f => f.text.length + 1).sum ≤ s.length + 1 ∧ ((s = [] ∨ ∃ x t, s = x :: t ∧ blankB x.toNat = true) → ((scan n i s).map fun f => f.text.length + 1).sum ≤ s.length)) ?_ ?_ ?_ ?_
  · intro n i; rw [scan_nil]; simp
  · intro n i c r h ih
    rw [scan_blank h]
    have := ih.1
    simp only [List.length_cons]
    exact ⟨by omega, fun _ => by omega⟩
  · intro n i c r h h2; rw [scan_hash h h2]; simp
  · intro n i c r h h2 ih
    rw [scan_word h h2]
    simp only [List.map_cons, List.sum_cons, List.length_cons]
    have hl : (r.takeWhile (fun c => !blankB c.toNat)).length + (r.dropWhile (fun c => !blankB c.toNat)).length = r.length := by
      rw [← List.length_append, List.takeWhile_append_dropWhile]
    have hd : r.dropWhile (fun c => !blankB c.toNat) = [] ∨ ∃ x t, r.dropWhile (fun c => !blankB c.toNat) = x :: t ∧ blankB x.toNat = true := by
      cases hx : r.dropWhile (fun c => !blankB c.toNat) with
      | nil => exact .inl rfl
      | cons x t =>
        refine .inr ⟨x, t, rfl, ?_⟩
        have := List.head_dropWhile_not (fun (c : UInt8) => !blankB (c.toNat : Int)) (l := r) (by rw [hx]; simp)
        simp only [hx, List.head_cons] at this
        exact bnot_f this
    have := ih.2 hd
    refine ⟨by omega, fun h3 => ?_⟩
    rcases h3 with h3 | ⟨x, t, h3, h4⟩
    · cases h3
    · cases h3; rw [h] at h4; cases h4
theorem words_len (s : List UInt8) (n i : Nat) : ((scan n i s).map fun f => f.text.length + 1).sum ≤ s.length + 1 := (words_len2 s n i).1
theorem wordsT_len (s : List UInt8) (n i : Nat) : (wordsT (scan n i s)).length ≤ s.length := by
  have h := words_len s n i
  rw [wordsT_eq]
  by_cases h0 : (scan n i s).map (·.text) = []
  · rw [h0]; exact Nat.zero_le _
  · have := wT_len _ h0
    rw [List.map_map] at this
    have e : ((scan n i s).map ((fun (w : List UInt8) => w.length + 1) ∘ fun x => x.text)).sum = ((scan n i s).map fun f => f.text.length + 1).sum := rfl
    omega
/-- What is joined is no longer than the text, but for one line's end. -/
theorem joinT_from_len (ls : List (List UInt8)) : ∀ n, (joinT (lexFrom n ls)).length ≤ (ls.map fun s => s.length + 1).sum := by
  induction ls with
  | nil => intro n; exact Nat.zero_le _
  | cons s r ih =>
    intro n
    have h1 := ih (n + 1)
    have h2 := wordsT_len s n 0
    rw [lexFrom]
    simp only [List.map_cons, List.sum_cons]
    split
    · omega
    · simp only [joinT, List.flatMap_cons, List.length_append] at h1 ⊢
      have : ([10] : List UInt8).length = 1 := rfl
      omega
theorem splitNl_sum : ∀ (l : List UInt8), ((splitNl l).map fun s => s.length + 1).sum = l.length + 1
  | [] => rfl
  | c :: r => by
    have ih := splitNl_sum r
    by_cases hc : c = 10
    · subst hc; rw [splitNl_10]; simp only [List.map_cons, List.sum_cons, List.length_nil, List.length_cons]; omega
    · obtain ⟨hd, tl, e1, e2⟩ := splitNl_ne hc r
      rw [e1] at ih
      rw [e2]
      simp only [List.map_cons, List.sum_cons, List.length_cons] at ih ⊢
      omega
theorem joinT_len (l : List UInt8) : (joinT (lexLines l)).length ≤ l.length + 1 := by
  unfold lexLines
  split
  · rw [← splitNl_sum]; exact joinT_from_len _ _
  · exact Nat.zero_le _
theorem lexFrom_mem (ls : List (List UInt8)) : ∀ n, ∀ fs ∈ lexFrom n ls, ∃ s ∈ ls, ∃ m, fs = scan m 0 s ∧ fs ≠ [] := by
  induction ls with
  | nil => intro n fs h; cases h
  | cons s r ih =>
    intro n fs h
    rw [lexFrom] at h
    split at h
    · obtain ⟨s', h1, h2⟩ := ih _ fs h; exact ⟨s', List.mem_cons_of_mem _ h1, h2⟩
    · rename_i h0
      rcases List.mem_cons.1 h with rfl | h
      · exact ⟨s, List.mem_cons_self .., n, rfl, fun e => h0 (by rw [e]; rfl)⟩
      · obtain ⟨s', h1, h2⟩ := ih _ fs h; exact ⟨s', List.mem_cons_of_mem _ h1, h2⟩
/-- A line's end stands in no line. -/
theorem splitNl_no10 : ∀ (l : List UInt8), ∀ s ∈ splitNl l, (10 : UInt8) ∉ s
  | [], s, h => by rw [splitNl_nil] at h; simp at h; subst h; simp
  | c :: r, s, h => by
    have ih := splitNl_no10 r
    by_cases hc : c = 10
    · subst hc
      rw [splitNl_10] at h
      rcases List.mem_cons.1 h with rfl | h
      · simp
      · exact ih s h
    · obtain ⟨hd, tl, e1, e2⟩ := splitNl_ne hc r
      rw [e2] at h
      rw [e1] at ih
      rcases List.mem_cons.1 h with rfl | h
      · intro hm
        rcases List.mem_cons.1 hm with e | e
        · exact hc e.symm
        · exact ih hd (List.mem_cons_self ..) e
      · exact ih s (List.mem_cons_of_mem _ h)
theorem splitNl_sub : ∀ (l : List UInt8), ∀ s ∈ splitNl l, ∀ c ∈ s, c ∈ l
  | [], s, h, c, hc => by rw [splitNl_nil] at h; simp at h; subst h; cases hc
  | x :: r, s, h, c, hc => by
    have ih := splitNl_sub r
    by_cases hx : x = 10
    · subst hx
      rw [splitNl_10] at h
      rcases List.mem_cons.1 h with rfl | h
      · cases hc
      · exact List.mem_cons_of_mem _ (ih s h c hc)
    · obtain ⟨hd, tl, e1, e2⟩ := splitNl_ne hx r
      rw [e2] at h
      rw [e1] at ih
      rcases List.mem_cons.1 h with rfl | h
      · rcases List.mem_cons.1 hc with rfl | hc
        · exact List.mem_cons_self ..
        · exact List.mem_cons_of_mem _ (ih hd (List.mem_cons_self ..) c hc)
      · exact List.mem_cons_of_mem _ (ih s (List.mem_cons_of_mem _ h) c hc)
theorem lex_good (l : List UInt8) : ∀ fs ∈ lexLines l, fs ≠ [] ∧ ∀ f ∈ fs, GoodW f.text ∧ (∀ c ∈ f.text, c ≠ 10 ∧ okB (c.toNat : Int) = true) := by
  intro fs h
  unfold lexLines at h
  split at h
  · rename_i hr
    obtain ⟨s, hs, m, rfl, h0⟩ := lexFrom_mem _ _ fs h
    refine ⟨h0, fun f hf => ?_⟩
    obtain ⟨h1, _, h3⟩ := scan_good s m 0 f hf
    refine ⟨h1, fun c hc => ⟨fun e => ?_, ?_⟩⟩
    · subst e; exact splitNl_no10 l s hs (h3 _ hc)
    · simp only [readableB, Bool.and_eq_true] at hr
      exact List.all_eq_true.1 hr.1 c (splitNl_sub l s hs c (h3 c hc))
  · cases h
end
section
open Go.RowKit

/-! Acts that are alike. -/
def FB (x y : Nat) : Prop := x < 18446744073709551616 ∧ y < 18446744073709551616 ∧ rkV x = rkV y
def FB3 (x y : V3 Nat) : Prop := FB x.a y.a ∧ FB x.b y.b ∧ FB x.c y.c
inductive All2 {α : Type} (R : α → α → Prop) : List α → List α → Prop
  | nil : All2 R [] []
  | cons {a b : α} {l m : List α} (h : R a b) (t : All2 R l m) : All2 R (a :: l) (b :: m)
theorem All2.length {α : Type} {R : α → α → Prop} {l m : List α} (h : All2 R l m) : l.length = m.length := by
  induction h with
  | nil => rfl
  | cons _ _ ih => simp [ih]
theorem All2.get {α : Type} {R : α → α → Prop} {l m : List α} (h : All2 R l m) : ∀ (i : Nat) (x : α), l[i]? = some x → ∃ y, m[i]? = some y ∧ R x y := by
  induction h with
  | nil => intro i x h; simp at h
  | cons hr _ ih =>
    intro i x h
    cases i with
    | zero => simp at h; subst h; exact ⟨_, rfl, hr⟩
    | succ i => exact ih i x (by simpa using h)
theorem All2.refl {α : Type} {R : α → α → Prop} {l : List α} (h : ∀ x ∈ l, R x x) : All2 R l l := by
  induction l with
  | nil => exact .nil
  | cons a r ih => exact .cons (h a (List.mem_cons_self ..)) (ih fun x hx => h x (List.mem_cons_of_mem _ hx))
theorem All2.app {α : Type} {R : α → α → Prop} {l m l' m' : List α} (h : All2 R l m) (h' : All2 R l' m') : All2 R (l ++ l') (m ++ m') := by
  induction h with
  | nil => exact h'
  | cons hr _ ih => exact .cons hr ih
structure AlikeU (x y : SUsage) : Prop where
  id : x.id = y.id
  am : FB3 x.amount y.amount
structure AlikeA (x y : SAct) : Prop where
  do_ : x.do_ = y.do_
  pod : x.pod = y.pod
  id : x.id = y.id
  steps : x.steps = y.steps
  well : x.well = y.well
  keep : x.keep = y.keep
  time : x.raw.time = y.raw.time
  avail : FB3 x.raw.avail y.raw.avail
  use : All2 AlikeU x.raw.use y.raw.use
structure Szd (x : SAct) : Prop where
  well : x.well.length ≤ lim
  keep : x.keep.length ≤ lim
  use : x.raw.use.length ≤ lim
theorem q_refl (p : SPod) : qSPod p p = true := by simp [qSPod]
theorem alike_fb {x y : Nat} (h : FB x y) : g_ref03_Alike x y = some true := by rw [alike_ok h.1 h.2.1, dec_t h.2.2]
theorem fuel_lt {n : Nat} (h : n ≤ lim) : n < FUEL := by unfold FUEL; unfold lim at h; omega
theorem sameRaw_loop (a b : SRaw) (h : All2 AlikeU a.use b.use) (hl : a.use.length ≤ lim) : ∀ (d i m : Nat), i + d = a.use.length → d < m → g_ref26_sameRaw_l3 a b g_ref26_sameRaw_k2 m (i : Int) = some true
  | _, _, 0, _, h => by omega
  | 0, i, m + 1, hi, _ => by rw [g_ref26_sameRaw_l3, dec_f (by omega)]; rfl
  | d + 1, i, m + 1, hi, hm => by
    unfold lim at hl
    obtain ⟨y, hy, hr⟩ := h.get i a.use[i] (by simp)
    have hx : a.use[i]? = some a.use[i] := by simp
    rw [g_ref26_sameRaw_l3, dec_t (by omega)]
    simp only [cond_true]
    rw [idx_nat hx, idx_nat hy]
    simp only [bO_some]
    rw [hr.id, alike_fb hr.am.1, alike_fb hr.am.2.1, alike_fb hr.am.2.2]
    simp only [bO_some, beq_self_eq_true, Bool.not_true, cond_false]
    unfold g_ref26_sameRaw_k4
    rw [w64_succ (by omega)]
    exact sameRaw_loop a b h (by unfold lim; exact hl) d (i + 1) m (by omega) (by omega)
theorem same_raw {a b : SAct} (h : AlikeA a b) (hs : Szd a) : g_ref26_sameRaw a.raw b.raw = some true := by
  unfold g_ref26_sameRaw
  have hl := h.use.length
  rw [h.time, hl, alike_fb h.avail.1, alike_fb h.avail.2.1, alike_fb h.avail.2.2]
  simp only [bne_self_eq_false, Bool.or_self, cond_false, bO_some, Bool.not_true]
  exact sameRaw_loop _ _ h.use hs.use _ 0 FUEL (by simp) (fuel_lt hs.use)
theorem same_well (l m : List SAct) (x : Nat) (k : Option Bool) {a b : SAct} (ha : l[x]? = some a) (hb : m[x]? = some b) (e : a.well = b.well) (hl : a.well.length ≤ lim) : ∀ (d i f : Nat), i + d = a.well.length → d < f → g_ref26_Same_l6 l m (x : Int) k f (i : Int) = k
  | _, _, 0, _, h => by omega
  | 0, i, f + 1, hi, _ => by
    rw [g_ref26_Same_l6, idx_nat ha]
    simp only [bO_some]
    rw [dec_f (by omega)]; rfl
  | d + 1, i, f + 1, hi, hm => by
    have hl' := hl
    unfold lim at hl'
    have hx : a.well[i]? = some a.well[i] := by simp
    rw [g_ref26_Same_l6, idx_nat ha]
    simp only [bO_some]
    rw [dec_t (by omega), idx_nat hb]
    simp only [cond_true, bO_some]
    rw [← e, idx_nat hx]
    simp only [bO_some, beq_self_eq_true, Bool.not_true, cond_false]
    rw [w64_succ (by omega)]
    exact same_well l m x k ha hb e hl d (i + 1) f (by omega) (by omega)
theorem same_keep (l m : List SAct) (x : Nat) (k : Option Bool) {a b : SAct} (ha : l[x]? = some a) (hb : m[x]? = some b) (e : a.keep = b.keep) (hl : a.keep.length ≤ lim) : ∀ (d i f : Nat), i + d = a.keep.length → d < f → g_ref26_Same_l5 l m (x : Int) k f (i : Int) = k
  | _, _, 0, _, h => by omega
  | 0, i, f + 1, hi, _ => by
    rw [g_ref26_Same_l5, idx_nat ha]
    simp only [bO_some]
    rw [dec_f (by omega)]; rfl
  | d + 1, i, f + 1, hi, hm => by
    have hl' := hl
    unfold lim at hl'
    have hx : a.keep[i]? = some a.keep[i] := by simp
    rw [g_ref26_Same_l5, idx_nat ha]
    simp only [bO_some]
    rw [dec_t (by omega), idx_nat hb]
    simp only [cond_true, bO_some]
    rw [← e, idx_nat hx]
    simp only [bO_some, bne_self_eq_false, cond_false]
    rw [w64_succ (by omega)]
    exact same_keep l m x k ha hb e hl d (i + 1) f (by omega) (by omega)
theorem same_loop (l m : List SAct) (h : All2 AlikeA l m) (hs : ∀ a ∈ l, Szd a) (hl : l.length ≤ lim) : ∀ (d i f : Nat), i + d = l.length → d < f → g_ref26_Same_l2 l m g_ref26_Same_k1 f (i : Int) = some true
  | _, _, 0, _, h => by omega
  | 0, i, f + 1, hi, _ => by rw [g_ref26_Same_l2, dec_f (by omega)]; rfl
  | d + 1, i, f + 1, hi, hm => by
    have hl' := hl
    unfold lim at hl'
    have hx : l[i]? = some l[i] := by simp
    have hsz := hs l[i] (List.getElem_mem _)
    obtain ⟨y, hy, hr⟩ := h.get i _ hx
    rw [g_ref26_Same_l2, dec_t (by omega), idx_nat hx, idx_nat hy]
    simp only [cond_true, bO_some]
    rw [hr.do_, hr.pod, hr.id, hr.steps, hr.well, hr.keep, same_raw hr hsz]
    simp only [bne_self_eq_false, q_refl, beq_self_eq_true, Bool.not_true, Bool.or_self, cond_false, bO_some]
    rw [show FUEL = FUEL from rfl]
    have h1 := same_well l m i (g_ref26_Same_k4 l m (i : Int) (g_ref26_Same_l2 l m g_ref26_Same_k1 f)) hx hy hr.well hsz.well l[i].well.length 0 FUEL (by omega) (fuel_lt hsz.well)
    refine (show _ = _ from h1).trans ?_
    unfold g_ref26_Same_k4
    have h2 := same_keep l m i (g_ref26_Same_k3 (i : Int) (g_ref26_Same_l2 l m g_ref26_Same_k1 f)) hx hy hr.keep hsz.keep l[i].keep.length 0 FUEL (by omega) (fuel_lt hsz.keep)
    refine (show _ = _ from h2).trans ?_
    unfold g_ref26_Same_k3
    rw [w64_succ (by omega)]
    exact same_loop l m h hs hl d (i + 1) f (by omega) (by omega)
theorem same_ok {l m : List SAct} (h : All2 AlikeA l m) (hs : ∀ a ∈ l, Szd a) (hl : l.length ≤ lim) : g_ref26_Same l m = some true := by
  unfold g_ref26_Same
  rw [h.length]
  simp only [bne_self_eq_false, cond_false]
  exact same_loop l m h hs hl l.length 0 FUEL (by omega) (fuel_lt hl)
/-! What is read. -/
def SelfA (a : SAct) : Prop := AlikeA a a ∧ Szd a
theorem amV_lt {s : List UInt8} (h : s.length ≤ lim) {y : Nat} (hy : amV s = some y) : FB y y := by
  obtain ⟨z, b, h1, h2⟩ := amount_some h
  unfold amV at hy
  rw [h1] at hy
  cases b with
  | true => cases hy; exact ⟨h2, h2, rfl⟩
  | false => cases hy
theorem usesR_self : ∀ (us : List (List UInt8)) (u : List SUsage), (∀ s ∈ us, s.length ≤ BB) → usesR us = some u → All2 AlikeU u u ∧ u.length ≤ us.length
  | [], _, _, h => by cases h; exact ⟨.nil, Nat.le_refl _⟩
  | [_], _, _, h => by cases h
  | [_, _], _, _, h => by cases h
  | [_, _, _], _, _, h => by cases h
  | w :: a :: b :: c :: r, u, hb, h => by
    rw [usesR] at h
    rw [Option.bind_eq_some_iff] at h
    obtain ⟨w', h1, h⟩ := h
    rw [Option.bind_eq_some_iff] at h
    obtain ⟨a', h2, h⟩ := h
    rw [Option.bind_eq_some_iff] at h
    obtain ⟨b', h3, h⟩ := h
    rw [Option.bind_eq_some_iff] at h
    obtain ⟨c', h4, h⟩ := h
    rw [Option.map_eq_some_iff] at h
    obtain ⟨v, h, rfl⟩ := h
    have ih := usesR_self r v (fun s hs => hb s (by simp [hs])) h
    exact ⟨.cons ⟨rfl, amV_lt (le_lim (hb a (by simp))) h2, amV_lt (le_lim (hb b (by simp))) h3, amV_lt (le_lim (hb c (by simp))) h4⟩ ih.1, by simp only [List.length_cons]; omega⟩
theorem allV_len {α : Type} (f : List UInt8 → Option α) : ∀ (us : List (List UInt8)) (u : List α), allV f us = some u → u.length = us.length
  | [], _, h => by cases h; rfl
  | t :: r, u, h => by
    rw [allV, Option.bind_eq_some_iff] at h
    obtain ⟨a, _, h⟩ := h
    rw [Option.map_eq_some_iff] at h
    obtain ⟨v, h, rfl⟩ := h
    have := allV_len f r v h
    simp only [List.length_cons]; omega
theorem fb0 : FB3 raw0.avail raw0.avail := ⟨⟨by decide, by decide, rfl⟩, ⟨by decide, by decide, rfl⟩, ⟨by decide, by decide, rfl⟩⟩
theorem self_raw0 {d s : Int} {p : SPod} {i : List UInt8} {w : List Bool} {k : List Int} (hw : w.length ≤ lim) (hk : k.length ≤ lim) : SelfA ⟨d, p, i, raw0, w, s, k⟩ :=
  ⟨⟨rfl, rfl, rfl, rfl, rfl, rfl, rfl, fb0, .nil⟩, ⟨hw, hk, by show 0 ≤ lim; omega⟩⟩
theorem lineV_self {ts : List (List UInt8)} (ho : OKT ts) {a : SAct} (h : lineV ts = some a) : SelfA a := by
  cases ts with
  | nil => cases h
  | cons t ts =>
    have hB := ho.1
    unfold BB at hB
    simp only [List.length_cons] at hB
    replace h : lineW t ts = some a := h
    unfold lineW at h
    split at h
    · unfold admV at h
      split at h
      · cases h; exact self_raw0 (by simp) (by simp)
      · cases h
    · split at h
      · unfold delV at h
        split at h
        · rw [Option.map_eq_some_iff] at h
          obtain ⟨_, _, rfl⟩ := h
          exact self_raw0 (by simp) (by simp)
        · cases h
      · split at h
        · split at h
          · cases h; exact self_raw0 (by simp) (by simp)
          · cases h
        · split at h
          · rw [Option.map_eq_some_iff] at h
            obtain ⟨r, hq, rfl⟩ := h
            replace h := hq
            clear hq
            unfold rawV at h
            split at h
            · rename_i n x y z us
              rw [Option.bind_eq_some_iff] at h
              obtain ⟨n', h1, h⟩ := h
              rw [Option.bind_eq_some_iff] at h
              obtain ⟨a', h2, h⟩ := h
              rw [Option.bind_eq_some_iff] at h
              obtain ⟨b', h3, h⟩ := h
              rw [Option.bind_eq_some_iff] at h
              obtain ⟨c', h4, h⟩ := h
              rw [Option.map_eq_some_iff] at h
              obtain ⟨v, h, rfl⟩ := h
              have hin : ∀ s ∈ (t :: n :: x :: y :: z :: us), s.length ≤ BB := ho.2
              have hu := usesR_self us v (fun s hs => hin s (by simp [hs])) h
              simp only [List.length_cons] at hB
              exact ⟨⟨rfl, rfl, rfl, rfl, rfl, rfl, rfl, ⟨amV_lt (le_lim (hin x (by simp))) h2, amV_lt (le_lim (hin y (by simp))) h3, amV_lt (le_lim (hin z (by simp))) h4⟩, hu.1⟩, ⟨by show 0 ≤ lim; omega, by show 0 ≤ lim; omega, by show v.length ≤ lim; unfold lim; omega⟩⟩
            · cases h
          · split at h
            · rw [Option.map_eq_some_iff] at h
              obtain ⟨u, hq, rfl⟩ := h
              have := allV_len _ _ _ hq
              exact self_raw0 (by unfold lim; omega) (by simp)
            · split at h
              · unfold craV at h
                split at h
                · rename_i n ks
                  rw [Option.bind_eq_some_iff] at h
                  obtain ⟨n', h1, h⟩ := h
                  rw [Option.map_eq_some_iff] at h
                  obtain ⟨u, h, rfl⟩ := h
                  have := allV_len _ _ _ h
                  simp only [List.length_cons] at hB
                  exact self_raw0 (by simp) (by unfold lim; omega)
                · cases h
              · cases h
/-! Texts. -/
def lineOf : List SField → Int
  | [] => 0
  | f :: _ => f.line
def readGo : List (List SField) → List SAct → List SAct × Int × Int
  | [], acc => (acc, 0, 0)
  | fs :: r, acc => match lineV (txs fs) with
    | none => ([], lineOf fs, 2)
    | some a => readGo r (acc ++ [a])
def GoodLL (L : List (List SField)) : Prop := L.length ≤ BB ∧ ∀ fs ∈ L, OKL fs ∧ fs ≠ []
theorem okt_txs {l : List SField} (h : OKL l) : OKT (txs l) := ⟨by rw [txs, List.length_map]; exact h.1, fun s hs => by
  obtain ⟨f, hf, rfl⟩ := List.mem_map.1 hs
  exact h.2 f hf⟩
theorem sread_loop (L : List (List SField)) (e : Int) (hL : GoodLL L) : ∀ (m : Nat) (r pre : List (List SField)) (acc : List SAct), L = pre ++ r → r.length < m → acc.length ≤ pre.length →
    g_script_Read_l2 (L, e) g_script_Read_k1 m (pre.length : Int) acc = some (readGo r acc)
  | 0, _, _, _, _, h, _ => by omega
  | m + 1, [], pre, acc, he, _, _ => by
    rw [g_script_Read_l2, he, List.append_nil, dec_f (by show ¬ (pre.length : Int) < (pre.length : Int); omega)]; rfl
  | m + 1, fs :: r, pre, acc, he, hm, ha => by
    have hl : L.length = pre.length + (r.length + 1) := by rw [he]; simp
    have hBB := hL.1
    unfold BB at hBB
    obtain ⟨ho, hne⟩ := hL.2 fs (by rw [he]; simp)
    rw [g_script_Read_l2, dec_t (by show (pre.length : Int) < (L.length : Int); omega), idx_nat (show L[pre.length]? = some fs by rw [he]; exact app_get pre fs _)]
    simp only [cond_true, bO_some]
    cases fs with
    | nil => exact absurd rfl hne
    | cons f l =>
      obtain ⟨a, x', e1, e2⟩ := act_ok f l ho
      rw [e1, readGo]
      simp only [bO_some]
      cases h : lineV (txs (f :: l)) with
      | none =>
        rw [h] at e2
        have hb : (x'.bad || decide ((x'.l.length : Int) > 0)) = true := by
          rcases e2 with e | e
          · rw [e]; rfl
          · have : 0 < x'.l.length := List.length_pos_iff.2 e
            rw [dec_t (by omega), Bool.or_true]
        rw [hb]; rfl
      | some b =>
        rw [h] at e2
        obtain ⟨h1, h2, rfl⟩ := e2
        rw [h1, h2]
        simp only [List.length_nil, Bool.false_or]
        rw [dec_f (by simp)]
        simp only [cond_false]
        rw [appO_eq (by rw [List.length_singleton]; unfold lim; omega)]
        simp only [bO_some]
        rw [w64_succ (by omega)]
        have ih := sread_loop L e hL m r (pre ++ [f :: l]) (acc ++ [a]) (by rw [he]; simp) (by simp only [List.length_cons] at hm; omega) (by simp; omega)
        rw [List.length_append, List.length_singleton] at ih
        exact ih
theorem rtexts_loop (L : List (List SField)) (x : Nat) {fs : List SField} (hx : L[x]? = some fs) (hB : fs.length ≤ BB) (k : List (List UInt8) → Option (List SAct × Int × Int)) : ∀ (m : Nat) (r pre : List SField), fs = pre ++ r → r.length < m →
    g_ref26_Read_l5 L (x : Int) k m (txs pre) (pre.length : Int) = k (txs fs)
  | 0, _, _, _, h => by omega
  | m + 1, [], pre, he, _ => by
    rw [g_ref26_Read_l5, idx_nat hx]
    simp only [bO_some]
    rw [he, List.append_nil, dec_f (by omega)]; rfl
  | m + 1, f :: r, pre, he, hm => by
    have hl : fs.length = pre.length + (r.length + 1) := by rw [he]; simp
    unfold BB at hB
    rw [g_ref26_Read_l5, idx_nat hx]
    simp only [bO_some]
    rw [dec_t (by omega), idx_nat (show fs[pre.length]? = some f by rw [he]; exact app_get pre f _)]
    simp only [cond_true, bO_some]
    rw [appO_eq (by rw [txs, List.length_map, List.length_singleton]; unfold lim; omega)]
    simp only [bO_some]
    rw [w64_succ (by omega)]
    have ih := rtexts_loop L x hx (by unfold BB; exact hB) k m r (pre ++ [f]) (by rw [he]; simp) (by simp only [List.length_cons] at hm; omega)
    rw [List.length_append, List.length_singleton] at ih
    rw [show txs pre ++ [f.text] = txs (pre ++ [f]) by simp [txs]]
    exact ih
theorem rread_loop2 (L : List (List SField)) (hL : GoodLL L) : ∀ (m : Nat) (r pre : List (List SField)) (acc : List SAct), L = pre ++ r → r.length < m → acc.length ≤ pre.length →
    g_ref26_Read_l2 L g_ref26_Read_k1 m acc (pre.length : Int) = some (readGo r acc)
  | 0, _, _, _, _, h, _ => by omega
  | m + 1, [], pre, acc, he, _, _ => by
    rw [g_ref26_Read_l2, he, List.append_nil, dec_f (by omega)]; rfl
  | m + 1, fs :: r, pre, acc, he, hm, ha => by
    have hl : L.length = pre.length + (r.length + 1) := by rw [he]; simp
    have hBB := hL.1
    unfold BB at hBB
    obtain ⟨ho, hne⟩ := hL.2 fs (by rw [he]; simp)
    have hx : L[pre.length]? = some fs := by rw [he]; exact app_get pre fs _
    rw [g_ref26_Read_l2, dec_t (by omega)]
    simp only [cond_true]
    have hF : fs.length < FUEL := by have := ho.1; unfold BB at this; unfold FUEL; omega
    revert hF
    generalize FUEL = F
    intro hF
    have h5 := rtexts_loop L pre.length hx ho.1 (g_ref26_Read_k4 L acc (pre.length : Int) (g_ref26_Read_l2 L g_ref26_Read_k1 m)) F fs [] rfl hF
    rw [show txs [] = [] from rfl, show (([] : List SField).length : Int) = 0 from rfl] at h5
    rw [h5]
    unfold g_ref26_Read_k4
    cases fs with
    | nil => exact absurd rfl hne
    | cons f l =>
      obtain ⟨a, b, e1, e2⟩ := rline_ok f.text (txs l) (okt_txs ho)
      rw [show txs (f :: l) = f.text :: txs l from rfl, e1, readGo, show lineV (txs (f :: l)) = lineW f.text (txs l) from rfl]
      simp only [bO_some]
      cases h : lineW f.text (txs l) with
      | none =>
        rw [h] at e2
        simp only at e2
        subst e2
        simp only [Bool.not_false, cond_true]
        rw [idx_nat hx]
        rfl
      | some c =>
        rw [h] at e2
        obtain ⟨rfl, rfl⟩ := e2
        simp only [Bool.not_true, cond_false]
        rw [appO_eq (by rw [List.length_singleton]; unfold lim; omega)]
        simp only [bO_some]
        unfold g_ref26_Read_k3
        rw [w64_succ (by omega)]
        have ih := rread_loop2 L hL m r (pre ++ [f :: l]) (acc ++ [a]) (by rw [he]; simp) (by simp only [List.length_cons] at hm; omega) (by simp; omega)
        rw [List.length_append, List.length_singleton] at ih
        exact ih
theorem lexFrom_le (ls : List (List UInt8)) : ∀ n, (lexFrom n ls).length ≤ ls.length := by
  induction ls with
  | nil => intro n; simp [lexFrom]
  | cons s r ih =>
    intro n
    rw [lexFrom_cons, List.length_append]
    have := ih (n + 1)
    unfold emit
    split <;> simp <;> omega
theorem mem_sum (l : List Nat) (x : Nat) (h : x ∈ l) : x ≤ l.sum := by
  induction l with
  | nil => cases h
  | cons a r ih =>
    rw [List.sum_cons]
    rcases List.mem_cons.1 h with rfl | h
    · omega
    · have := ih h; omega
theorem len_sum (l : List Nat) (h : ∀ x ∈ l, 1 ≤ x) : l.length ≤ l.sum := by
  induction l with
  | nil => simp
  | cons a r ih =>
    rw [List.sum_cons, List.length_cons]
    have := h a (List.mem_cons_self ..)
    have := ih fun x hx => h x (List.mem_cons_of_mem _ hx)
    omega
theorem lines_good {b : List UInt8} (h : readableB b = true) : GoodLL (toLL (lexLines b)) := by
  have hb := readable_len h
  unfold lexLines
  rw [if_pos h]
  constructor
  · have := lexFrom_le (splitNl b) 1
    have := splitNl_le b
    unfold toLL BB
    rw [List.length_map]; omega
  · intro fs hfs
    unfold toLL at hfs
    obtain ⟨g, hg, rfl⟩ := List.mem_map.1 hfs
    obtain ⟨s, hs, m, rfl, hne⟩ := lexFrom_mem _ _ g hg
    have hw := words_len s m 0
    obtain ⟨k, hk⟩ := List.getElem?_of_mem hs
    have hsl := splitNl_mem b k s hk
    refine ⟨⟨?_, fun f hf => ?_⟩, fun e => hne (List.map_eq_nil_iff.1 e)⟩
    · have := len_sum ((scan m 0 s).map fun f => f.text.length + 1) (fun x hx => by
        obtain ⟨f, _, rfl⟩ := List.mem_map.1 hx; omega)
      rw [List.length_map] at this
      rw [List.length_map]; unfold BB; omega
    · obtain ⟨f, hf, rfl⟩ := List.mem_map.1 hf
      have := mem_sum _ _ (List.mem_map.2 ⟨f, ‹f ∈ scan m 0 s›, rfl⟩ : f.text.length + 1 ∈ (scan m 0 s).map fun f => f.text.length + 1)
      show f.text.length ≤ BB
      unfold BB; omega
def readV (b : List UInt8) : List SAct × Int × Int := if readableB b then readGo (toLL (lexLines b)) [] else ([], 0, 2)
theorem sread_ok {b : List UInt8} (h : b.length ≤ lim) : g_script_Read b = some (readV b) := by
  unfold g_script_Read readV
  rw [lines_ok h]
  simp only [bO_some]
  unfold errI
  cases hr : readableB b with
  | false => rfl
  | true =>
    simp only [if_true, bne_self_eq_false, cond_false]
    have hg := lines_good hr
    have hB := hg.1
    exact sread_loop _ 0 hg FUEL _ [] [] rfl (by unfold BB at hB; unfold FUEL; omega) (by simp)
theorem rread2_ok {b : List UInt8} (h : b.length ≤ lim) : g_ref26_Read b = some (readV b) := by
  unfold g_ref26_Read readV
  rw [rreadable_ok h]
  simp only [bO_some]
  cases hr : readableB b with
  | false => rfl
  | true =>
    simp only [Bool.not_true, cond_false, if_true]
    rw [rlines_ok hr]
    simp only [bO_some]
    have hg := lines_good hr
    have hB := hg.1
    exact rread_loop2 _ hg FUEL _ [] [] rfl (by unfold BB at hB; unfold FUEL; omega) (by simp)
theorem readGo_from : ∀ (L : List (List SField)) (acc l : List SAct) (at_ e : Int), readGo L acc = (l, at_, e) → (∀ a ∈ acc, ∃ ts, OKT ts ∧ lineV ts = some a) → (∀ fs ∈ L, OKL fs) → (∀ a ∈ l, ∃ ts, OKT ts ∧ lineV ts = some a) ∧ l.length ≤ acc.length + L.length
  | [], acc, l, _, _, h, ha, _ => by cases h; exact ⟨ha, by simp⟩
  | fs :: r, acc, l, at_, e, h, ha, hL => by
    rw [readGo] at h
    split at h
    · cases h; exact ⟨(fun a h => by cases h), by simp⟩
    · rename_i a hv
      have := readGo_from r (acc ++ [a]) l at_ e h (fun x hx => by
        rcases List.mem_append.1 hx with hx | hx
        · exact ha x hx
        · rw [List.mem_singleton.1 hx]; exact ⟨_, okt_txs (hL fs (List.mem_cons_self ..)), hv⟩) (fun x hx => hL x (List.mem_cons_of_mem _ hx))
      refine ⟨this.1, ?_⟩
      have := this.2
      rw [List.length_append, List.length_singleton] at this
      rw [List.length_cons]; omega
theorem readV_from {b : List UInt8} : (∀ a ∈ (readV b).1, ∃ ts, OKT ts ∧ lineV ts = some a) ∧ (readV b).1.length ≤ BB := by
  unfold readV
  cases hr : readableB b with
  | false => exact ⟨(fun a h => by cases h), by simp⟩
  | true =>
    simp only [if_true]
    have hg := lines_good hr
    have := readGo_from (toLL (lexLines b)) [] _ _ _ rfl (fun a h => by cases h) (fun fs h => (hg.2 fs h).1)
    exact ⟨this.1, by have h2 := this.2; have := hg.1; simp at h2; omega⟩
theorem read_same {b : List UInt8} : g_ref26_Same (readV b).1 (readV b).1 = some true := by
  obtain ⟨h1, h2⟩ := readV_from (b := b)
  have hself : ∀ a ∈ (readV b).1, SelfA a := fun a ha => by
    obtain ⟨ts, ho, h⟩ := h1 a ha
    exact lineV_self ho h
  exact same_ok (All2.refl fun a ha => (hself a ha).1) (fun a ha => (hself a ha).2) (by unfold BB at h2; unfold lim; omega)
end
section
open Go.RowKit

def I64 (n : Int) : Prop := -9223372036854775808 ≤ n ∧ n ≤ 9223372036854775807
def F64b (x : Nat) : Prop := x < 18446744073709551616
structure V3p {α : Type} (p : α → Prop) (v : V3 α) : Prop where
  a : p v.a
  b : p v.b
  c : p v.c
/-- An act that a machine may hold. -/
structure ActB (a : SAct) : Prop where
  prio : I64 a.pod.prio
  size : I64 a.pod.size
  req : V3p I64 a.pod.req
  lim : V3p I64 a.pod.lim
  pid : a.pod.id.length ≤ BB
  image : a.pod.image.length ≤ BB
  id : a.id.length ≤ BB
  time : I64 a.raw.time
  avail : V3p F64b a.raw.avail
  use : ∀ u ∈ a.raw.use, u.id.length ≤ BB ∧ V3p F64b u.amount
  steps : I64 a.steps
  keep : ∀ n ∈ a.keep, I64 n
  uses : a.raw.use.length ≤ BB
  wells : a.well.length ≤ BB
  keeps : a.keep.length ≤ BB
def mkF (s : List UInt8) : SField := ⟨s, 0, 0⟩
theorem FUEL2 : FUEL = 18446744073709551614 + 1 + 1 := rfl
theorem put1 (l : List SField) (b : Bool) (s : List UInt8) (h : l.length + 1 ≤ lim) : g_script_fields_put ⟨l, b⟩ [s] = some ⟨l ++ [mkF s], b⟩ := by
  unfold g_script_fields_put
  rw [FUEL2, g_script_fields_put_l1]
  rw [dec_t (by simp), show idx [s] 0 = some s from rfl]
  simp only [cond_true, bO_some]
  rw [appO_eq (by rw [List.length_singleton]; exact h)]
  simp only [bO_some]
  rw [show w64 ((0 : Int) + 1) = 1 from rfl, g_script_fields_put_l1, dec_f (by simp)]
  rfl
theorem wword_ok (l : List SField) (b : Bool) (s : List UInt8) (h : l.length + 1 ≤ lim) (hs : s.length ≤ BB) : g_script_fields_word ⟨l, b⟩ s = some ⟨l ++ [mkF s], b || !wordB s⟩ := by
  unfold g_script_fields_word
  cases b with
  | true => simp only [cond_true, bO_some]; rw [put1 l _ s h]; rfl
  | false => simp only [cond_false, (wordB_ok (le_lim hs)).1, bO_some]; rw [put1 l _ s h]; rfl
def inB (n : Int) : Bool := decide (n ≥ -1099511627776) && decide (n ≤ 1099511627776)
theorem itoaO_i {n : Int} (h : I64 n) : itoaO n = some (Lib.itoa n) := if_pos h
theorem wwhole_ok (l : List SField) (b : Bool) (n : Int) (h : l.length + 1 ≤ lim) (hn : I64 n) : g_script_fields_whole ⟨l, b⟩ n = some ⟨l ++ [mkF (Lib.itoa n)], b || !inB n⟩ := by
  unfold g_script_fields_whole
  rw [itoaO_i hn]
  cases b with
  | true => simp only [cond_true, bO_some]; rw [put1 l _ _ h]; rfl
  | false => simp only [cond_false, show g_script_in n = some (inB n) from rfl, bO_some]; rw [put1 l _ _ h]; rfl
def prN (n : Int) : List UInt8 := printV n.toNat
theorem wquants_loop (ns : List Int) (hn : ∀ n ∈ ns, I64 n) (hl : ns.length ≤ BB) : ∀ (m : Nat) (r pre : List Int) (l : List SField) (b : Bool), ns = pre ++ r → r.length < m → l.length + r.length ≤ lim →
    g_script_fields_quantities_l1 ns g_script_fields_quantities_k2 m l b (pre.length : Int) = some ⟨l ++ r.map fun n => mkF (prN n), b || r.any fun n => decide (n < 0)⟩
  | 0, _, _, _, _, _, h, _ => by omega
  | m + 1, [], pre, l, b, he, _, _ => by
    rw [g_script_fields_quantities_l1, he, List.append_nil, dec_f (by omega)]
    simp [g_script_fields_quantities_k2]
  | m + 1, n :: r, pre, l, b, he, hm, hlim => by
    have hlen : ns.length = pre.length + (r.length + 1) := by rw [he]; simp
    unfold BB at hl
    rw [g_script_fields_quantities_l1, dec_t (by omega), idx_nat (show ns[pre.length]? = some n by rw [he]; exact app_get pre n _)]
    simp only [cond_true, bO_some]
    rw [print_ok (hn n (by rw [he]; simp)).2]
    simp only [bO_some]
    rw [put1 l _ _ (by simp only [List.length_cons] at hlim; omega)]
    simp only [bO_some]
    rw [w64_succ (by omega)]
    have ih := wquants_loop ns hn (by unfold BB; exact hl) m r (pre ++ [n]) (l ++ [mkF (printV n.toNat)]) (b || decide (n < 0)) (by rw [he]; simp) (by simp only [List.length_cons] at hm; omega) (by simp only [List.length_cons] at hlim; simp; omega)
    rw [List.length_append, List.length_singleton] at ih
    rw [ih]
    simp [prN, Bool.or_assoc]
theorem wquants_ok (ns : List Int) (l : List SField) (b : Bool) (hn : ∀ n ∈ ns, I64 n) (hl : ns.length ≤ BB) (h : l.length + ns.length ≤ lim) : g_script_fields_quantities ⟨l, b⟩ ns = some ⟨l ++ ns.map fun n => mkF (prN n), b || ns.any fun n => decide (n < 0)⟩ :=
  wquants_loop ns hn hl FUEL ns [] l b rfl (by unfold BB at hl; unfold FUEL; omega) h
theorem weither_ok (l : List SField) (b is : Bool) (y n : List UInt8) (h : l.length + 1 ≤ lim) : g_script_fields_either ⟨l, b⟩ is y n = some ⟨l ++ [mkF (if is then y else n)], b⟩ := by
  unfold g_script_fields_either
  cases is with
  | true => simp only [cond_true]; rw [put1 l _ _ h]; rfl
  | false => simp only [cond_false]; rw [put1 l _ _ h]; rfl
def shT (x : Nat) : List UInt8 := ((g_script_Show x).getD ([], false)).1
def shB (x : Nat) : Bool := ((g_script_Show x).getD ([], false)).2
theorem shV_ok {x : Nat} (h : F64b x) : g_script_Show x = some (shT x, shB x) ∧ g_ref26_Show x = some (shT x, shB x) := by
  obtain ⟨t, b, y, c, h1, h2, _⟩ := show_ok h
  unfold shT shB
  rw [h1, h2]; exact ⟨rfl, rfl⟩
def amsT (v : V3 Nat) : List (List UInt8) := [shT v.a, shT v.b, shT v.c]
def amsB (v : V3 Nat) : Bool := shB v.a && shB v.b && shB v.c
theorem wamounts_ok (l : List SField) (b : Bool) (v : V3 Nat) (h : l.length + 3 ≤ lim) (hv : V3p F64b v) : g_script_fields_amounts ⟨l, b⟩ v = some ⟨l ++ (amsT v).map mkF, b || !amsB v⟩ := by
  unfold g_script_fields_amounts
  rw [(shV_ok hv.a).1, (shV_ok hv.b).1, (shV_ok hv.c).1]
  simp only [bO_some]
  rw [put1 l _ _ (by omega)]
  simp only [bO_some]
  rw [put1 _ _ _ (by simp; omega)]
  simp only [bO_some]
  rw [put1 _ _ _ (by simp; omega)]
  simp [amsT, amsB, Bool.or_assoc]
def lim0 (v : V3 Int) : Bool := q3_Int v ⟨0, 0, 0⟩
def v3l {α : Type} (v : V3 α) : List α := [v.a, v.b, v.c]
def podT (p : SPod) : List (List UInt8) := [p.id, p.image, prN p.size, Lib.itoa p.prio, if p.critical then critW else plainW] ++ (v3l p.req).map prN ++ if lim0 p.lim then [] else (v3l p.lim).map prN
def podG (p : SPod) : Bool := !(((!wordB p.id || !wordB p.image) || decide (p.size < 0) || !inB p.prio) || ((v3l p.req).any fun n => decide (n < 0)) || (!lim0 p.lim && (v3l p.lim).any fun n => decide (n < 0)))
theorem wpod_ok (l : List SField) (b : Bool) (a : SAct) (h : l.length + 11 ≤ lim) (ha : ActB a) : g_script_fields_pod ⟨l, b⟩ a.pod = some ⟨l ++ (podT a.pod).map mkF, b || !podG a.pod⟩ := by
  unfold g_script_fields_pod
  rw [wword_ok l b _ (by omega) ha.pid]
  simp only [bO_some]
  rw [wword_ok _ _ _ (by simp; omega) ha.image]
  simp only [bO_some]
  rw [wquants_ok _ _ _ (by intro n hn; rw [List.mem_singleton.1 hn]; exact ha.size) (by simp [BB]) (by simp; omega)]
  simp only [bO_some]
  rw [wwhole_ok _ _ _ (by simp; omega) ha.prio]
  simp only [bO_some]
  rw [weither_ok _ _ _ _ _ (by simp; omega)]
  simp only [bO_some]
  rw [wquants_ok _ _ _ (by
    intro n hn
    simp only [List.mem_cons, List.mem_nil_iff, or_false] at hn
    rcases hn with rfl | rfl | rfl
    · exact ha.req.a
    · exact ha.req.b
    · exact ha.req.c) (by simp [BB]) (by simp; omega)]
  simp only [bO_some]
  rw [show q3_Int a.pod.lim ⟨0, 0, 0⟩ = lim0 a.pod.lim from rfl]
  cases hl : lim0 a.pod.lim with
  | true =>
    simp only [Bool.not_true, cond_false]
    simp [podT, podG, hl, v3l, critW, plainW, Bool.or_assoc]
  | false =>
    simp only [Bool.not_false, cond_true]
    rw [wquants_ok _ _ _ (by
      intro n hn
      simp only [List.mem_cons, List.mem_nil_iff, or_false] at hn
      rcases hn with rfl | rfl | rfl
      · exact ha.lim.a
      · exact ha.lim.b
      · exact ha.lim.c) (by simp [BB]) (by simp; omega)]
    simp [podT, podG, hl, v3l, critW, plainW, Bool.or_assoc]
/-! What an act's line doesn't tell. -/
def noneB (r : SRaw) : Bool := (kindV r.avail.a == 5) && (kindV r.avail.b == 5) && (kindV r.avail.c == 5) && ((r.time == 0) && ((r.use.length : Int) == 0))
theorem nothing_ok {r : SRaw} (h : V3p F64b r.avail) : g_script_nothing r = some (noneB r) := by
  unfold g_script_nothing noneB
  rw [edge_ok h.a, edge_ok h.b, edge_ok h.c]
  simp only [bO_some, bne]
  cases kindV r.avail.a == 5 <;> cases kindV r.avail.b == 5 <;> cases kindV r.avail.c == 5 <;> rfl
def restV (a : SAct) : Bool := ((((a.do_ == 1 || qSPod a.pod pod0) && (a.do_ == 2 || a.id == [])) && (a.do_ == 4 || noneB a.raw)) && (a.do_ == 5 || (a.well.length : Int) == 0)) && (a.do_ == 6 || (a.steps == 0 && (a.keep.length : Int) == 0))
theorem pod0_eq : (⟨([] : List UInt8), 0, false, (⟨0, 0, 0⟩ : V3 Int), (⟨0, 0, 0⟩ : V3 Int), ([] : List UInt8), 0⟩ : SPod) = pod0 := rfl
theorem rest_ok {a : SAct} (h : V3p F64b a.raw.avail) : g_script_rest a = some (restV a) := by
  unfold g_script_rest restV
  rw [nothing_ok h, pod0_eq]
  cases (a.do_ == 1 || qSPod a.pod pod0) && (a.do_ == 2 || a.id == []) with
  | true => cases a.do_ == 4 <;> rfl
  | false => rfl
/-! An act's fields. -/
def usesT (l : List SUsage) : List (List UInt8) := l.flatMap fun u => u.id :: amsT u.amount
def usesG (l : List SUsage) : Bool := l.all fun u => wordB u.id && amsB u.amount
def actT (a : SAct) : List (List UInt8) :=
  if a.do_ = 1 then admitW :: podT a.pod else if a.do_ = 2 then [deleteW, a.id] else if a.do_ = 3 then [tickW]
  else if a.do_ = 4 then sampleW :: Lib.itoa a.raw.time :: amsT a.raw.avail ++ usesT a.raw.use
  else if a.do_ = 5 then feedW :: a.well.map fun w => if w then okW else badW
  else if a.do_ = 6 then crashW :: Lib.itoa a.steps :: a.keep.map Lib.itoa else []
def actG (a : SAct) : Bool := restV a &&
  if a.do_ = 1 then podG a.pod else if a.do_ = 2 then wordB a.id else if a.do_ = 3 then true
  else if a.do_ = 4 then inB a.raw.time && amsB a.raw.avail && usesG a.raw.use
  else if a.do_ = 5 then true
  else if a.do_ = 6 then inB a.steps && a.keep.all inB else false
theorem wuse_loop (a : SAct) (ha : ActB a) (k : List SField → Bool → Option (List SField × Bool)) : ∀ (m : Nat) (r pre : List SUsage) (l : List SField) (b : Bool), a.raw.use = pre ++ r → r.length < m → l.length + 4 * r.length ≤ lim →
    g_script_write_l2 a k m l b (pre.length : Int) = k (l ++ (usesT r).map mkF) (b || !usesG r)
  | 0, _, _, _, _, _, h, _ => by omega
  | m + 1, [], pre, l, b, he, _, _ => by
    rw [g_script_write_l2, he, List.append_nil, dec_f (by omega)]
    simp [usesT, usesG]
  | m + 1, u :: r, pre, l, b, he, hm, hl => by
    have hlen : a.raw.use.length = pre.length + (r.length + 1) := by rw [he]; simp
    have hB := ha.uses
    unfold BB at hB
    simp only [List.length_cons] at hl hm
    obtain ⟨u1, u2⟩ := ha.use u (by rw [he]; simp)
    rw [g_script_write_l2, dec_t (by omega), idx_nat (show a.raw.use[pre.length]? = some u by rw [he]; exact app_get pre u _)]
    simp only [cond_true, bO_some]
    rw [wword_ok l b _ (by omega) u1]
    simp only [bO_some]
    rw [wamounts_ok _ _ _ (by simp; omega) u2]
    simp only [bO_some]
    rw [w64_succ (by omega)]
    have ih := wuse_loop a ha k m r (pre ++ [u]) (l ++ [mkF u.id] ++ (amsT u.amount).map mkF) ((b || !wordB u.id) || !amsB u.amount) (by rw [he]; simp) (by omega) (by simp [amsT]; omega)
    rw [List.length_append, List.length_singleton] at ih
    rw [ih]
    simp [usesT, usesG, Bool.or_assoc]
theorem wwell_loop (a : SAct) (ha : ActB a) (k : List SField → Bool → Option (List SField × Bool)) : ∀ (m : Nat) (r pre : List Bool) (l : List SField) (b : Bool), a.well = pre ++ r → r.length < m → l.length + r.length ≤ lim →
    g_script_write_l3 a k m l b (pre.length : Int) = k (l ++ r.map fun w => mkF (if w then okW else badW)) b
  | 0, _, _, _, _, _, h, _ => by omega
  | m + 1, [], pre, l, b, he, _, _ => by
    rw [g_script_write_l3, he, List.append_nil, dec_f (by omega)]
    simp
  | m + 1, u :: r, pre, l, b, he, hm, hl => by
    have hlen : a.well.length = pre.length + (r.length + 1) := by rw [he]; simp
    have hB := ha.wells
    unfold BB at hB
    simp only [List.length_cons] at hl hm
    rw [g_script_write_l3, dec_t (by omega), idx_nat (show a.well[pre.length]? = some u by rw [he]; exact app_get pre u _)]
    simp only [cond_true, bO_some]
    rw [weither_ok l b _ _ _ (by omega)]
    simp only [bO_some]
    rw [w64_succ (by omega)]
    have ih := wwell_loop a ha k m r (pre ++ [u]) (l ++ [mkF (if u then [111, 107] else [98, 97, 100])]) b (by rw [he]; simp) (by omega) (by simp; omega)
    rw [List.length_append, List.length_singleton] at ih
    rw [ih]
    simp [okW, badW]
theorem wkeep_loop (a : SAct) (ha : ActB a) (k : List SField → Bool → Option (List SField × Bool)) : ∀ (m : Nat) (r pre : List Int) (l : List SField) (b : Bool), a.keep = pre ++ r → r.length < m → l.length + r.length ≤ lim →
    g_script_write_l4 a k m l b (pre.length : Int) = k (l ++ r.map fun n => mkF (Lib.itoa n)) (b || !r.all inB)
  | 0, _, _, _, _, _, h, _ => by omega
  | m + 1, [], pre, l, b, he, _, _ => by
    rw [g_script_write_l4, he, List.append_nil, dec_f (by omega)]
    simp
  | m + 1, u :: r, pre, l, b, he, hm, hl => by
    have hlen : a.keep.length = pre.length + (r.length + 1) := by rw [he]; simp
    have hB := ha.keeps
    unfold BB at hB
    simp only [List.length_cons] at hl hm
    rw [g_script_write_l4, dec_t (by omega), idx_nat (show a.keep[pre.length]? = some u by rw [he]; exact app_get pre u _)]
    simp only [cond_true, bO_some]
    rw [wwhole_ok l b _ (by omega) (ha.keep u (by rw [he]; simp))]
    simp only [bO_some]
    rw [w64_succ (by omega)]
    have ih := wkeep_loop a ha k m r (pre ++ [u]) (l ++ [mkF (Lib.itoa u)]) (b || !inB u) (by rw [he]; simp) (by omega) (by simp; omega)
    rw [List.length_append, List.length_singleton] at ih
    rw [ih]
    simp [Bool.or_assoc]
theorem write_ok {a : SAct} (ha : ActB a) : g_script_write a = some ((actT a).map mkF, actG a) := by
  unfold g_script_write actT actG
  rw [rest_ok ha.avail]
  simp only [bO_some]
  have u1 := ha.uses
  have u2 := ha.wells
  have u3 := ha.keeps
  unfold BB at u1 u2 u3
  by_cases h1 : a.do_ = 1
  · rw [show (a.do_ == 1) = true from beq_iff_eq.2 h1, if_pos h1, if_pos h1]
    simp only [cond_true]
    rw [put1 _ _ _ (by simp [lim])]
    simp only [bO_some]
    rw [wpod_ok _ _ a (by simp [lim]) ha]
    simp [g_script_write_k1, admitW]
  · rw [show (a.do_ == 1) = false from beq_eq_false_iff_ne.2 h1, if_neg h1, if_neg h1]
    simp only [cond_false]
    by_cases h2 : a.do_ = 2
    · rw [show (a.do_ == 2) = true from beq_iff_eq.2 h2, if_pos h2, if_pos h2]
      simp only [cond_true]
      rw [put1 _ _ _ (by simp [lim])]
      simp only [bO_some]
      rw [wword_ok _ _ _ (by simp [lim]) ha.id]
      simp [g_script_write_k1, deleteW]
    · rw [show (a.do_ == 2) = false from beq_eq_false_iff_ne.2 h2, if_neg h2, if_neg h2]
      simp only [cond_false]
      by_cases h3 : a.do_ = 3
      · rw [show (a.do_ == 3) = true from beq_iff_eq.2 h3, if_pos h3, if_pos h3]
        simp only [cond_true]
        rw [put1 _ _ _ (by simp [lim])]
        simp [g_script_write_k1, tickW]
      · rw [show (a.do_ == 3) = false from beq_eq_false_iff_ne.2 h3, if_neg h3, if_neg h3]
        simp only [cond_false]
        by_cases h4 : a.do_ = 4
        · rw [show (a.do_ == 4) = true from beq_iff_eq.2 h4, if_pos h4, if_pos h4]
          simp only [cond_true]
          rw [put1 _ _ _ (by simp [lim])]
          simp only [bO_some]
          rw [wwhole_ok _ _ _ (by simp [lim]) ha.time]
          simp only [bO_some]
          rw [wamounts_ok _ _ _ (by simp [lim]) ha.avail]
          simp only [bO_some]
          have h := wuse_loop a ha g_script_write_k1 FUEL a.raw.use [] (([] ++ [mkF [115, 97, 109, 112, 108, 101]]) ++ [mkF (Lib.itoa a.raw.time)] ++ (amsT a.raw.avail).map mkF) ((!restV a || !inB a.raw.time) || !amsB a.raw.avail) rfl (by unfold FUEL; omega) (by simp [amsT, lim]; omega)
          have h : g_script_write_l2 a g_script_write_k1 FUEL _ _ 0 = _ := h
          rw [h]
          simp [g_script_write_k1, sampleW, Bool.and_assoc]
        · rw [show (a.do_ == 4) = false from beq_eq_false_iff_ne.2 h4, if_neg h4, if_neg h4]
          simp only [cond_false]
          by_cases h5 : a.do_ = 5
          · rw [show (a.do_ == 5) = true from beq_iff_eq.2 h5, if_pos h5, if_pos h5]
            simp only [cond_true]
            rw [put1 _ _ _ (by simp [lim])]
            simp only [bO_some]
            have h := wwell_loop a ha g_script_write_k1 FUEL a.well [] ([] ++ [mkF [102, 101, 101, 100]]) (!restV a) rfl (by unfold FUEL; omega) (by simp [lim]; omega)
            have h : g_script_write_l3 a g_script_write_k1 FUEL _ _ 0 = _ := h
            rw [h]
            simp [g_script_write_k1, feedW, Function.comp_def]
          · rw [show (a.do_ == 5) = false from beq_eq_false_iff_ne.2 h5, if_neg h5, if_neg h5]
            simp only [cond_false]
            by_cases h6 : a.do_ = 6
            · rw [show (a.do_ == 6) = true from beq_iff_eq.2 h6, if_pos h6, if_pos h6]
              simp only [cond_true]
              rw [put1 _ _ _ (by simp [lim])]
              simp only [bO_some]
              rw [wwhole_ok _ _ _ (by simp [lim]) ha.steps]
              simp only [bO_some]
              have h := wkeep_loop a ha g_script_write_k1 FUEL a.keep [] (([] ++ [mkF [99, 114, 97, 115, 104]]) ++ [mkF (Lib.itoa a.steps)]) (!restV a || !inB a.steps) rfl (by unfold FUEL; omega) (by simp [lim]; omega)
              have h : g_script_write_l4 a g_script_write_k1 FUEL _ _ 0 = _ := h
              rw [h]
              simp [g_script_write_k1, crashW, Function.comp_def, Bool.and_assoc]
            · rw [show (a.do_ == 6) = false from beq_eq_false_iff_ne.2 h6, if_neg h6, if_neg h6]
              simp
theorem right_ok {a : SAct} (ha : ActB a) : g_script_Right a = some (actG a) := by
  unfold g_script_Right
  rw [write_ok ha]; rfl
end
section
open Go.RowKit

theorem cut_zero (n : Nat) : Ieee.Toward.even.cut false n 0 = n := by
  unfold Ieee.Toward.cut
  simp [Nat.mod_one]
theorem near_val {n : Nat} (h0 : 1 ≤ n) (h : n < 9007199254740992) : ∃ L : Nat, L ≤ 52 ∧ 2 ^ L ≤ n ∧ n < 2 ^ (L + 1) ∧ FloatKind.f64.nearest (n : Int) = (L + 1022) * 4503599627370496 + n * 2 ^ (52 - L) := by
  have hL1 : 2 ^ n.log2 ≤ n := Nat.log2_self_le (by omega)
  have hL2 : n < 2 ^ (n.log2 + 1) := Nat.lt_log2_self
  have hL : n.log2 ≤ 52 := by
    rcases Nat.lt_or_ge 52 n.log2 with h1 | h1
    · have : 2 ^ 53 ≤ 2 ^ n.log2 := Nat.pow_le_pow_right (by omega) (by omega)
      omega
    · exact h1
  refine ⟨n.log2, hL, hL1, hL2, ?_⟩
  unfold FloatKind.nearest FloatKind.encode Ieee.Format.write
  show Ieee.Format.nearest F64 (decide ((n : Int) < 0)) (n : Int).natAbs 0 = _
  rw [dec_f (by omega), Int.natAbs_natCast]
  unfold Ieee.Format.nearest Ieee.Format.word
  rw [if_neg (by omega)]
  simp only [Bool.false_eq_true, if_false]
  rw [lp_eq, show F64.fractionBits = 52 from rfl, bi_eq, ir_eq]
  rw [show max ((0 : Int) + (n.log2 : Int) - ((52 : Nat) : Int)) (-1074) = (n.log2 : Int) - 52 by omega]
  rw [show ((0 : Int) - ((n.log2 : Int) - 52)).toNat = 52 - n.log2 by omega, show ((n.log2 : Int) - 52 - 0).toNat = 0 by omega, cut_zero, Nat.shiftLeft_eq, show ((n.log2 : Int) - 52 - -1074).toNat = n.log2 + 1022 by omega]
  have h1 : n * 2 ^ (52 - n.log2) ≤ 2 ^ (n.log2 + 1) * 2 ^ (52 - n.log2) := Nat.mul_le_mul_right _ (by omega)
  rw [← Nat.pow_add, show n.log2 + 1 + (52 - n.log2) = 53 by omega] at h1
  have h2 : (n.log2 + 1022) * 4503599627370496 ≤ 1074 * 4503599627370496 := Nat.mul_le_mul_right _ (by omega)
  generalize n * 2 ^ (52 - n.log2) = z at h1
  rw [show (2 : Nat) ^ 53 = 9007199254740992 from rfl] at h1
  clear hL1 hL2
  generalize n.log2 = L at hL h2
  rw [Nat.min_def, if_pos (show (L + 1022) * 4503599627370496 + z ≤ 9218868437227405312 from Nat.le_trans (Nat.add_le_add h2 h1) (by decide))]
theorem near_ok {n : Nat} (h0 : 1 ≤ n) (h : n ≤ 9007199254740992) : rung (FloatKind.f64.nearest (n : Int)) < 9218868437227405312 ∧ rung (FloatKind.f64.nearest (n : Int)) ≠ 0 ∧ sgn (FloatKind.f64.nearest (n : Int)) = false ∧ wholeV (FloatKind.f64.nearest (n : Int)) = n := by
  by_cases hn : n = 9007199254740992
  · subst hn
    rw [show FloatKind.f64.nearest ((9007199254740992 : Nat) : Int) = 4845873199050653696 by kernel_rfl]
    decide +kernel
  · obtain ⟨L, hL, h1, h2, hx⟩ := near_val h0 (show n < 9007199254740992 by omega)
    have g1 : 2 ^ L * 2 ^ (52 - L) ≤ n * 2 ^ (52 - L) := Nat.mul_le_mul_right _ h1
    have g2 : n * 2 ^ (52 - L) < 2 ^ (L + 1) * 2 ^ (52 - L) := Nat.mul_lt_mul_of_pos_right h2 (Nat.two_pow_pos _)
    rw [← Nat.pow_add, show L + (52 - L) = 52 by omega] at g1
    rw [← Nat.pow_add, show L + 1 + (52 - L) = 53 by omega] at g2
    have hx' : FloatKind.f64.nearest (n : Int) = (L + 1023) * 4503599627370496 + (n * 2 ^ (52 - L) - 4503599627370496) := by rw [hx]; omega
    obtain ⟨f, hf⟩ : ∃ f, f = n * 2 ^ (52 - L) - 4503599627370496 := ⟨_, rfl⟩
    rw [← hf] at hx'
    have hf1 : f < 4503599627370496 := by omega
    obtain ⟨x, hxe⟩ : ∃ x, x = (L + 1023) * 4503599627370496 + f := ⟨_, rfl⟩
    rw [← hxe] at hx'
    have hlt : x < 9223372036854775808 := by omega
    have d1 : x % 4503599627370496 = f := by omega
    have d2 : x / 4503599627370496 = L + 1023 := by omega
    have d3 : 4503599627370496 ≤ x := by omega
    have d4 : x < 9218868437227405312 := by omega
    obtain ⟨s1, s2⟩ := small_pos hlt
    have e3 : 4503599627370496 + f = n * 2 ^ (52 - L) := by omega
    clear hxe
    rw [hx', s2, s1]
    refine ⟨d4, by omega, rfl, ?_⟩
    obtain ⟨m1, m2⟩ := mp_norm (x := x) (by rw [s2]; exact d3)
    rw [s2, d1, e3] at m1
    rw [s2, d2] at m2
    unfold wholeV
    rw [m1, m2, show (((L + 1023 : Nat) : Int) - 1075).toNat = 0 by omega, Nat.shiftLeft_zero, show (-(((L + 1023 : Nat) : Int) - 1075)).toNat = 52 - L by omega]
    exact Nat.mul_div_cancel _ (Nat.two_pow_pos _)
theorem show_near {n : Nat} (h : n ≤ 9007199254740992) : g_script_Show (FloatKind.f64.nearest (n : Int)) = some (printV n, true) := by
  by_cases h0 : n = 0
  · subst h0
    rw [show FloatKind.f64.nearest ((0 : Nat) : Int) = 0 by kernel_rfl, show printV 0 = [48] from if_pos rfl]
    have a1 : g_script_Show 0 = some ([48], true) := by kernel_rfl
    exact a1
  · obtain ⟨hr, hz, hs, hw⟩ := near_ok (by omega) h
    have hx := nearest_lt n
    have hx0 := near_le (n := n)
    generalize hX : FloatKind.f64.nearest (n : Int) = x at *
    have hk : kindV x = 6 := by
      unfold kindV
      rw [if_neg (by omega), if_neg (by omega), if_neg hz, hs]; rfl
    unfold g_script_Show
    rw [edge_ok hx, hk]
    simp only [bO_some]
    rw [show ((6 : Int) == 1) = false from rfl, show ((6 : Int) == 7) = false from rfl, show ((6 : Int) == 2) = false from rfl, show ((6 : Int) == 4) = false from rfl]
    simp only [cond_false]
    have hlt : fLt x 0 = false := by
      show (F64.order x 0 == some .lt) = false
      rw [ord_zero hx hr, if_neg hz, hs]; rfl
    rw [hlt, gt_exact hx hr hs, hw, dec_f (by omega)]
    simp only [Bool.or_self, cond_false]
    unfold g_math_Floor
    rw [floor_ok hx hr hs, hw, hX]
    simp only [bO_some]
    rw [ne_floor hx hr hs hx0, dec_t rfl]
    simp only [Bool.not_true, Bool.or_self, cond_false]
    rw [f2i_ok hx hr hs (by omega), hw]
    simp only [bO_some]
    rw [print_ok (by omega), Int.toNat_natCast]; rfl
/-! What is read is right. -/
theorem qnV_b {s : List UInt8} {n : Int} (h : qnV s = some n) : I64 n ∧ 0 ≤ n := by
  unfold qnV quantV at h
  split at h
  · cases h
  · cases h
    have := satN_le (decV (s.takeWhile isD) * unitOf (s.dropWhile isD))
    show I64 ((satN (decV (s.takeWhile isD) * unitOf (s.dropWhile isD)) : Nat) : Int) ∧ 0 ≤ ((satN (decV (s.takeWhile isD) * unitOf (s.dropWhile isD)) : Nat) : Int)
    unfold I64; omega
theorem whV_b {s : List UInt8} {n : Int} (h : whV s = some n) : I64 n ∧ inB n = true ∧ Lib.itoa n = s := by
  obtain ⟨h1, h2, h3⟩ := whV_some.1 h
  refine ⟨by unfold I64; omega, ?_, h1.symm⟩
  unfold inB
  rw [dec_t (show n ≥ -1099511627776 from h2), dec_t h3]; rfl
theorem wdV_b {s w : List UInt8} (h : wdV s = some w) : w = s ∧ wordB w = true := by
  unfold wdV at h
  split at h
  · cases h; exact ⟨rfl, ‹_›⟩
  · cases h
theorem amV_b {s : List UInt8} (hs : s.length ≤ BB) {y : Nat} (h : amV s = some y) : F64b y ∧ shB y = true := by
  have hfb := (amV_lt (le_lim hs) h).1
  refine ⟨hfb, ?_⟩
  have key : ∀ t, g_script_Show y = some (t, true) → shB y = true := fun t e => by unfold shB; rw [e]; rfl
  unfold amV g_script_Amount at h
  rw [show g_math_NaN = some 9221120237041090561 by kernel_rfl, show g_math_Inf 1 = some 9218868437227405312 by kernel_rfl, show g_math_Inf (-1) = some 18442240474082181120 by kernel_rfl, show g_math_Copysign 0 13830554455654793216 = some 9223372036854775808 by kernel_rfl, read_ok (le_lim hs)] at h
  simp only [bO_some] at h
  cases h1 : s == [110, 97, 110] with
  | true =>
    rw [h1] at h
    cases h
    have e : g_script_Show 9221120237041090561 = some ([110, 97, 110], true) := by kernel_rfl
    exact key _ e
  | false =>
    rw [h1] at h
    simp only [cond_false] at h
    cases h2 : s == [105, 110, 102] with
    | true =>
      rw [h2] at h
      cases h
      have e : g_script_Show 9218868437227405312 = some ([105, 110, 102], true) := by kernel_rfl
      exact key _ e
    | false =>
      rw [h2] at h
      simp only [cond_false] at h
      cases h3 : s == [45, 105, 110, 102] with
      | true =>
        rw [h3] at h
        cases h
        have e : g_script_Show 18442240474082181120 = some ([45, 105, 110, 102], true) := by kernel_rfl
        exact key _ e
      | false =>
        rw [h3] at h
        simp only [cond_false] at h
        cases h4 : s == [45, 48] with
        | true =>
          rw [h4] at h
          cases h
          have e : g_script_Show 9223372036854775808 = some ([45, 48], true) := by kernel_rfl
          exact key _ e
        | false =>
          rw [h4] at h
          simp only [cond_false] at h
          cases h5 : ((qe s != 0) || decide ((qv s : Int) > 9007199254740992)) with
          | true => rw [h5] at h; cases h
          | false =>
            rw [h5] at h
            cases h
            rw [Bool.or_eq_false_iff] at h5
            have := of_decide_eq_false h5.2
            exact key _ (show_near (by omega))
theorem thr_b {f : List UInt8 → Option Int} {p : Int → Prop} (hp : ∀ s n, f s = some n → p n) {ts r : List (List UInt8)} {v : V3 Int} (h : threeR f ts = some (v, r)) : V3p p v := by
  unfold threeR at h
  rw [Option.bind_eq_some_iff] at h
  obtain ⟨a, h1, h⟩ := h
  rw [Option.bind_eq_some_iff] at h
  obtain ⟨b, h2, h⟩ := h
  rw [Option.bind_eq_some_iff] at h
  obtain ⟨c, h3, h⟩ := h
  cases h
  have fl : ∀ (ts : List (List UInt8)) (q : Int × List (List UInt8)), fieldR f ts = some q → p q.1 := by
    intro ts q hq
    cases ts with
    | nil => cases hq
    | cons t r =>
      have hq : (f t).map (fun a => (a, r)) = some q := hq
      rw [Option.map_eq_some_iff] at hq
      obtain ⟨z, hz, rfl⟩ := hq
      exact hp _ _ hz
  exact ⟨fl _ _ h1, fl _ _ h2, fl _ _ h3⟩
theorem fieldR_b {α : Type} {f : List UInt8 → Option α} {ts : List (List UInt8)} {q : α × List (List UInt8)} (h : fieldR f ts = some q) : ∃ t, t ∈ ts ∧ f t = some q.1 ∧ ∀ s ∈ q.2, s ∈ ts := by
  cases ts with
  | nil => cases h
  | cons t r =>
    have h : (f t).map (fun a => (a, r)) = some q := h
    rw [Option.map_eq_some_iff] at h
    obtain ⟨z, hz, rfl⟩ := h
    exact ⟨t, List.mem_cons_self .., hz, fun s hs => List.mem_cons_of_mem _ hs⟩
theorem nonneg3 {v : V3 Int} (h : V3p (fun n => I64 n ∧ 0 ≤ n) v) : (v3l v).any (fun n => decide (n < 0)) = false := by
  simp only [v3l, List.any_cons, List.any_nil, Bool.or_false, Bool.or_eq_false_iff, decide_eq_false_iff_not]
  have := h.a.2
  have := h.b.2
  have := h.c.2
  omega
theorem raw0_b : V3p F64b raw0.avail := ⟨by unfold F64b; decide, by unfold F64b; decide, by unfold F64b; decide⟩
theorem i0 : I64 0 := by unfold I64; omega
theorem pod0_b : V3p I64 (⟨0, 0, 0⟩ : V3 Int) := ⟨i0, i0, i0⟩
theorem nil_b {α : Type} : ([] : List α).length ≤ BB := by simp
theorem podR_b {ts r : List (List UInt8)} {p : SPod} (ho : ∀ s ∈ ts, s.length ≤ BB) (h : podR ts = some (p, r)) : ActB (aAdmit p) ∧ podG p = true := by
  unfold podR at h
  rw [Option.bind_eq_some_iff] at h
  obtain ⟨a, h1, h⟩ := h
  rw [Option.bind_eq_some_iff] at h
  obtain ⟨b, h2, h⟩ := h
  rw [Option.bind_eq_some_iff] at h
  obtain ⟨c, h3, h⟩ := h
  rw [Option.bind_eq_some_iff] at h
  obtain ⟨d, h4, h⟩ := h
  rw [Option.bind_eq_some_iff] at h
  obtain ⟨e, h5, h⟩ := h
  rw [Option.bind_eq_some_iff] at h
  obtain ⟨f, h6, h⟩ := h
  obtain ⟨t1, m1, e1, s1⟩ := fieldR_b h1
  obtain ⟨t2, m2, e2, s2⟩ := fieldR_b h2
  obtain ⟨t3, m3, e3, s3⟩ := fieldR_b h3
  obtain ⟨t4, m4, e4, s4⟩ := fieldR_b h4
  obtain ⟨w1, w2⟩ := wdV_b e1
  obtain ⟨x1, x2⟩ := wdV_b e2
  obtain ⟨q1, q2⟩ := qnV_b e3
  obtain ⟨n1, n2, _⟩ := whV_b e4
  have g6 := thr_b (p := fun n => I64 n ∧ 0 ≤ n) (fun s n => qnV_b) (show threeR qnV e.2 = some (f.1, f.2) from h6)
  have fin : ∀ (L : V3 Int), V3p (fun n => I64 n ∧ 0 ≤ n) L → ActB (aAdmit ⟨a.1, d.1, e.1, f.1, L, b.1, c.1⟩) ∧ podG ⟨a.1, d.1, e.1, f.1, L, b.1, c.1⟩ = true := by
    intro L hL
    refine ⟨⟨n1, q1, ⟨g6.a.1, g6.b.1, g6.c.1⟩, ⟨hL.a.1, hL.b.1, hL.c.1⟩, by show a.1.length ≤ BB; rw [w1]; exact ho _ m1, by show b.1.length ≤ BB; rw [x1]; exact ho _ (s1 _ m2), nil_b, i0, raw0_b, (fun u hu => by cases hu), i0, (fun n hn => by cases hn), nil_b, nil_b, nil_b⟩, ?_⟩
    unfold podG
    simp only [w2, x2, n2, nonneg3 g6, nonneg3 hL, dec_f (show ¬ c.1 < 0 by omega)]
    simp
  split at h
  · cases h
    exact fin ⟨0, 0, 0⟩ ⟨⟨i0, Int.le_refl _⟩, ⟨i0, Int.le_refl _⟩, ⟨i0, Int.le_refl _⟩⟩
  · rw [Option.bind_eq_some_iff] at h
    obtain ⟨g, h7, h⟩ := h
    have g7 := thr_b (p := fun n => I64 n ∧ 0 ≤ n) (fun s n => qnV_b) (show threeR qnV f.2 = some (g.1, g.2) from h7)
    cases h
    exact fin g.1 g7
theorem usesR_b : ∀ (us : List (List UInt8)) (u : List SUsage), (∀ s ∈ us, s.length ≤ BB) → usesR us = some u → (∀ x ∈ u, x.id.length ≤ BB ∧ V3p F64b x.amount) ∧ usesG u = true
  | [], _, _, h => by cases h; exact ⟨fun x hx => (by cases hx), rfl⟩
  | [_], _, _, h => by cases h
  | [_, _], _, _, h => by cases h
  | [_, _, _], _, _, h => by cases h
  | w :: a :: b :: c :: r, u, hb, h => by
    rw [usesR] at h
    rw [Option.bind_eq_some_iff] at h
    obtain ⟨w', h1, h⟩ := h
    rw [Option.bind_eq_some_iff] at h
    obtain ⟨a', h2, h⟩ := h
    rw [Option.bind_eq_some_iff] at h
    obtain ⟨b', h3, h⟩ := h
    rw [Option.bind_eq_some_iff] at h
    obtain ⟨c', h4, h⟩ := h
    rw [Option.map_eq_some_iff] at h
    obtain ⟨v, h, rfl⟩ := h
    have ih := usesR_b r v (fun s hs => hb s (by simp [hs])) h
    obtain ⟨w1, w2⟩ := wdV_b h1
    obtain ⟨a1, a2⟩ := amV_b (hb a (by simp)) h2
    obtain ⟨b1, b2⟩ := amV_b (hb b (by simp)) h3
    obtain ⟨c1, c2⟩ := amV_b (hb c (by simp)) h4
    refine ⟨fun x hx => ?_, ?_⟩
    · rcases List.mem_cons.1 hx with rfl | hx
      · exact ⟨by rw [w1]; exact hb w (by simp), ⟨a1, b1, c1⟩⟩
      · exact ih.1 x hx
    · have ih2 := ih.2
      unfold usesG at ih2 ⊢
      rw [List.all_cons, ih2]
      simp only [amsB, w2, a2, b2, c2]; rfl
theorem allV_b {α : Type} {f : List UInt8 → Option α} {p : α → Prop} (hp : ∀ s a, f s = some a → p a) : ∀ (us : List (List UInt8)) (u : List α), allV f us = some u → ∀ x ∈ u, p x
  | [], _, h => by cases h; exact fun x hx => by cases hx
  | t :: r, u, h => by
    rw [allV, Option.bind_eq_some_iff] at h
    obtain ⟨a, h1, h⟩ := h
    rw [Option.map_eq_some_iff] at h
    obtain ⟨v, h, rfl⟩ := h
    intro x hx
    rcases List.mem_cons.1 hx with rfl | hx
    · exact hp _ _ h1
    · exact allV_b hp r v h x hx
theorem lineV_right {ts : List (List UInt8)} (ho : OKT ts) {a : SAct} (h : lineV ts = some a) : ActB a ∧ actG a = true := by
  cases ts with
  | nil => cases h
  | cons t ts =>
    have hB := ho.1
    have hin : ∀ s ∈ ts, s.length ≤ BB := fun s hs => ho.2 s (List.mem_cons_of_mem _ hs)
    simp only [List.length_cons] at hB
    replace h : lineW t ts = some a := h
    unfold lineW at h
    split at h
    · unfold admV at h
      split at h
      · rename_i p hp
        cases h
        obtain ⟨b1, b2⟩ := podR_b hin hp
        refine ⟨b1, ?_⟩
        show (restV (aAdmit p) && podG p) = true
        rw [b2]; rfl
      · cases h
    · split at h
      · unfold delV at h
        split at h
        · rename_i w
          rw [Option.map_eq_some_iff] at h
          obtain ⟨v, hv, rfl⟩ := h
          obtain ⟨w1, w2⟩ := wdV_b hv
          refine ⟨⟨i0, i0, pod0_b, pod0_b, nil_b, nil_b, by show v.length ≤ BB; rw [w1]; exact hin w (by simp), i0, raw0_b, (fun u hu => by cases hu), i0, (fun n hn => by cases hn), nil_b, nil_b, nil_b⟩, ?_⟩
          show (restV (aDelete v) && wordB v) = true
          rw [w2]; rfl
        · cases h
      · split at h
        · split at h
          · cases h
            exact ⟨⟨i0, i0, pod0_b, pod0_b, nil_b, nil_b, nil_b, i0, raw0_b, (fun u hu => by cases hu), i0, (fun n hn => by cases hn), nil_b, nil_b, nil_b⟩, rfl⟩
          · cases h
        · split at h
          · rw [Option.map_eq_some_iff] at h
            obtain ⟨r, hq, rfl⟩ := h
            unfold rawV at hq
            split at hq
            · rename_i n x y z us
              rw [Option.bind_eq_some_iff] at hq
              obtain ⟨n', h1, hq⟩ := hq
              rw [Option.bind_eq_some_iff] at hq
              obtain ⟨a', h2, hq⟩ := hq
              rw [Option.bind_eq_some_iff] at hq
              obtain ⟨b', h3, hq⟩ := hq
              rw [Option.bind_eq_some_iff] at hq
              obtain ⟨c', h4, hq⟩ := hq
              rw [Option.map_eq_some_iff] at hq
              obtain ⟨v, hq, rfl⟩ := hq
              have hu := usesR_b us v (fun s hs => hin s (by simp [hs])) hq
              have hu2 := (usesR_self us v (fun s hs => hin s (by simp [hs])) hq).2
              obtain ⟨n1, n2, _⟩ := whV_b h1
              obtain ⟨a1, a2⟩ := amV_b (hin x (by simp)) h2
              obtain ⟨b1, b2⟩ := amV_b (hin y (by simp)) h3
              obtain ⟨c1, c2⟩ := amV_b (hin z (by simp)) h4
              simp only [List.length_cons] at hB
              refine ⟨⟨i0, i0, pod0_b, pod0_b, nil_b, nil_b, nil_b, n1, ⟨a1, b1, c1⟩, hu.1, i0, (fun n hn => by cases hn), by show v.length ≤ BB; omega, nil_b, nil_b⟩, ?_⟩
              show (restV (aSample ⟨n', ⟨a', b', c'⟩, v⟩) && (inB n' && (shB a' && shB b' && shB c') && usesG v)) = true
              rw [n2, a2, b2, c2, hu.2]; rfl
            · cases hq
          · split at h
            · rw [Option.map_eq_some_iff] at h
              obtain ⟨u, hq, rfl⟩ := h
              have hl := allV_len _ _ _ hq
              refine ⟨⟨i0, i0, pod0_b, pod0_b, nil_b, nil_b, nil_b, i0, raw0_b, (fun u hu => by cases hu), i0, (fun n hn => by cases hn), nil_b, by show u.length ≤ BB; omega, nil_b⟩, rfl⟩
            · split at h
              · unfold craV at h
                split at h
                · rename_i n ks
                  rw [Option.bind_eq_some_iff] at h
                  obtain ⟨n', h1, h⟩ := h
                  rw [Option.map_eq_some_iff] at h
                  obtain ⟨u, hq, rfl⟩ := h
                  have hl := allV_len _ _ _ hq
                  have hall := allV_b (p := fun n => I64 n ∧ inB n = true) (fun s a h => ⟨(whV_b h).1, (whV_b h).2.1⟩) _ _ hq
                  obtain ⟨n1, n2, _⟩ := whV_b h1
                  simp only [List.length_cons] at hB
                  refine ⟨⟨i0, i0, pod0_b, pod0_b, nil_b, nil_b, nil_b, i0, raw0_b, (fun u hu => by cases hu), n1, (fun n hn => (hall n hn).1), nil_b, nil_b, by show u.length ≤ BB; omega⟩, ?_⟩
                  show (restV (aCrash n' u) && (inB n' && u.all inB)) = true
                  rw [n2, show u.all inB = true from List.all_eq_true.2 fun n hn => (hall n hn).2]; rfl
                · cases h
              · cases h
theorem right_loop (L : List SAct) (q : Int × Int) (h : ∀ a ∈ L, ActB a ∧ actG a = true) (hl : L.length ≤ lim) : ∀ (d i m : Nat), i + d = L.length → d < m → g_law26_ScriptReads_l2 (L, q) g_law26_ScriptReads_k1 m (i : Int) = some true
  | _, _, 0, _, h => by omega
  | 0, i, m + 1, hi, _ => by rw [g_law26_ScriptReads_l2, dec_f (by show ¬ (i : Int) < (L.length : Int); omega)]; rfl
  | d + 1, i, m + 1, hi, hm => by
    have hl' := hl
    unfold lim at hl'
    have hx : L[i]? = some L[i] := by simp
    obtain ⟨h1, h2⟩ := h L[i] (List.getElem_mem _)
    rw [g_law26_ScriptReads_l2, dec_t (by show (i : Int) < (L.length : Int); omega), idx_nat hx]
    simp only [cond_true, bO_some]
    rw [right_ok h1, h2]
    simp only [bO_some, Bool.not_true, cond_false]
    rw [w64_succ (by omega)]
    exact right_loop L q h hl d (i + 1) m (by omega) (by omega)
theorem ScriptReads_ok (b : List UInt8) : g_law26_ScriptReads b = some true := by
  unfold g_law26_ScriptReads
  rw [awake_ok]
  simp only [bO_some, Bool.not_true, Bool.false_or]
  by_cases hl : (b.length : Int) > 3000
  · rw [dec_t hl]; rfl
  · rw [dec_f hl]
    simp only [cond_false]
    have hb : b.length ≤ lim := by unfold lim; omega
    rw [sread_ok hb, rread2_ok hb]
    simp only [bO_some, bne_self_eq_false, Bool.or_self, cond_false, Bool.false_or]
    rw [read_same]
    simp only [bO_some, Bool.not_true, cond_false]
    obtain ⟨h1, h2⟩ := readV_from (b := b)
    have hlim : (readV b).1.length ≤ lim := by unfold BB at h2; unfold lim; omega
    exact right_loop (readV b).1 (readV b).2 (fun a ha => by
      obtain ⟨ts, ho, h⟩ := h1 a ha
      exact lineV_right ho h) hlim (readV b).1.length 0 FUEL (by simp) (fuel_lt hlim)
end
section
theorem blank32 : blankB ((32 : UInt8).toNat : Int) = true := rfl
theorem scan_blanks : ∀ (ws : List (List UInt8)), (∀ w ∈ ws, GoodW w) → ∀ n i, (scan n i (ws.flatMap fun v => 32 :: v)).map (·.text) = ws
  | [], _, n, i => by simp [scan_nil]
  | w :: r, h, n, i => by
    have hw := h w (List.mem_cons_self ..)
    have ih := scan_blanks r (fun v hv => h v (List.mem_cons_of_mem _ hv))
    rw [List.flatMap_cons, List.cons_append, scan_blank blank32, scan_wordS hw.1 hw.2.1 hw.2.2]
    · simp only [List.map_cons, ih]
    · intro c t e
      cases r with
      | nil => cases e
      | cons v t' => rw [List.flatMap_cons] at e; cases e; exact blank32
theorem scan_wT (ws : List (List UInt8)) (h : ∀ w ∈ ws, GoodW w) (n i : Nat) : (scan n i (wT ws)).map (·.text) = ws := by
  cases ws with
  | nil => simp [wT, scan_nil]
  | cons w r =>
    have hw := h w (List.mem_cons_self ..)
    have ih := scan_blanks r (fun v hv => h v (List.mem_cons_of_mem _ hv))
    rw [wT, scan_wordS hw.1 hw.2.1 hw.2.2]
    · simp only [List.map_cons, ih]
    · intro c t e
      cases r with
      | nil => cases e
      | cons v t' => rw [List.flatMap_cons] at e; cases e; exact blank32
theorem splitNl_one : ∀ (s : List UInt8), (10 : UInt8) ∉ s → splitNl s = [s]
  | [], _ => rfl
  | c :: r, h => by
    have ih := splitNl_one r (fun e => h (List.mem_cons_of_mem _ e))
    obtain ⟨hd, tl, e1, e2⟩ := splitNl_ne (c := c) (fun e => h (by rw [e]; exact List.mem_cons_self ..)) r
    rw [ih] at e1
    cases e1
    exact e2
theorem wT_mem {ws : List (List UInt8)} {c : UInt8} (h : c ∈ wT ws) : c = 32 ∨ ∃ w ∈ ws, c ∈ w := by
  cases ws with
  | nil => cases h
  | cons w r =>
    rw [wT, List.mem_append] at h
    rcases h with h | h
    · exact .inr ⟨w, List.mem_cons_self .., h⟩
    · obtain ⟨v, hv, hc⟩ := List.mem_flatMap.1 h
      rcases List.mem_cons.1 hc with rfl | hc
      · exact .inl rfl
      · exact .inr ⟨v, List.mem_cons_of_mem _ hv, hc⟩
/-- Words that may be joined: good ones, without lines' ends, of readable letters. -/
def JoinOk (x : List (List (List UInt8))) : Prop := ∀ ws ∈ x, ws ≠ [] ∧ ∀ w ∈ ws, GoodW w ∧ ∀ c ∈ w, c ≠ 10 ∧ okB (c.toNat : Int) = true
theorem splitNl_jT : ∀ (x : List (List (List UInt8))), JoinOk x → splitNl (jT x) = x.map wT ++ [[]]
  | [], _ => rfl
  | ws :: r, h => by
    have ih := splitNl_jT r (fun v hv => h v (List.mem_cons_of_mem _ hv))
    have e : jT (ws :: r) = wT ws ++ 10 :: jT r := by simp [jT]
    rw [e, splitNl_app, ih, splitNl_one]
    · rfl
    · intro hm
      rcases wT_mem hm with h1 | ⟨w, hw, hc⟩
      · cases h1
      · exact ((h ws (List.mem_cons_self ..)).2 w hw).2 10 hc |>.1 rfl
def relaid : Nat → List (List (List UInt8)) → List (List Field)
  | _, [] => []
  | n, ws :: r => scan n 0 (wT ws) :: relaid (n + 1) r
theorem lexFrom_wT : ∀ (x : List (List (List UInt8))) (n : Nat), JoinOk x → lexFrom n (x.map wT ++ [[]]) = relaid n x
  | [], n, _ => by simp [lexFrom, relaid, scan_nil]
  | ws :: r, n, h => by
    have ih := lexFrom_wT r (n + 1) (fun v hv => h v (List.mem_cons_of_mem _ hv))
    have hs := scan_wT ws (fun w hw => ((h ws (List.mem_cons_self ..)).2 w hw).1) n 0
    rw [List.map_cons, List.cons_append, lexFrom, ih, relaid, if_neg]
    intro e
    rw [List.length_eq_zero_iff.1 e] at hs
    exact (h ws (List.mem_cons_self ..)).1 hs.symm
theorem relaid_texts : ∀ (x : List (List (List UInt8))) (n : Nat), JoinOk x → textsOf (relaid n x) = x
  | [], n, _ => rfl
  | ws :: r, n, h => by
    have ih := relaid_texts r (n + 1) (fun v hv => h v (List.mem_cons_of_mem _ hv))
    have hs := scan_wT ws (fun w hw => ((h ws (List.mem_cons_self ..)).2 w hw).1) n 0
    simp only [textsOf] at ih
    simp only [relaid, textsOf, List.map_cons, hs, ih]
theorem relaid_line : ∀ (x : List (List (List UInt8))) (n i : Nat) (fs : List Field), (relaid n x)[i]? = some fs → ∀ f ∈ fs, f.line = n + i
  | [], n, i, fs, h => by cases h
  | ws :: r, n, 0, fs, h => by
    simp only [relaid, List.getElem?_cons_zero, Option.some.injEq] at h
    subst h
    intro f hf
    exact (scan_good _ _ _ f hf).2.1
  | ws :: r, n, i + 1, fs, h => by
    simp only [relaid, List.getElem?_cons_succ] at h
    intro f hf
    have := relaid_line r (n + 1) i fs h f hf
    omega
theorem lex_ok (b : List UInt8) : JoinOk (textsOf (lexLines b)) := by
  intro ws hws
  obtain ⟨fs, hfs, rfl⟩ := List.mem_map.1 hws
  obtain ⟨h1, h2⟩ := lex_good b fs hfs
  refine ⟨fun e => h1 (List.map_eq_nil_iff.1 e), fun w hw => ?_⟩
  obtain ⟨f, hf, rfl⟩ := List.mem_map.1 hw
  exact h2 f hf
theorem readable_jT {x : List (List (List UInt8))} (h : JoinOk x) (hl : (jT x).length ≤ 65536) : readableB (jT x) = true := by
  simp only [readableB, Bool.and_eq_true, decide_eq_true_eq]
  refine ⟨List.all_eq_true.2 (fun c hc => ?_), hl⟩
  obtain ⟨ws, hws, hc⟩ := List.mem_flatMap.1 hc
  rcases List.mem_append.1 hc with hc | hc
  · rcases wT_mem hc with rfl | ⟨w, hw, hc⟩
    · rfl
    · exact (((h ws hws).2 w hw).2 c hc).2
  · simp at hc; subst hc; rfl

/-- What is joined is read again. -/
structure Again (l m : List (List Field)) (s : List UInt8) : Prop where
  rd : readableB s = true
  len : m.length = l.length
  lens : ∀ i, (m.getD i []).length = (l.getD i []).length
  text : ∀ i k, ((m.getD i []).getD k f0).text = ((l.getD i []).getD k f0).text
  line : ∀ i k, i < m.length → k < (m.getD i []).length → ((m.getD i []).getD k f0).line = i + 1
  join : joinT m = s
theorem texts_at (x : List (List Field)) (i k : Nat) : ((x.getD i []).getD k f0).text = (((textsOf x).getD i []).getD k []) ∧ (x.getD i []).length = ((textsOf x).getD i []).length := by
  have e : (textsOf x).getD i [] = (x.getD i []).map (·.text) := by
    rw [textsOf, List.getD_eq_getElem?_getD, List.getElem?_map, List.getD_eq_getElem?_getD]
    cases x[i]? <;> rfl
  rw [e]
  generalize x.getD i [] = fs
  refine ⟨?_, by simp⟩
  rw [List.getD_eq_getElem?_getD, List.getD_eq_getElem?_getD, List.getElem?_map]
  cases fs[k]? <;> rfl
theorem again (b : List UInt8) (hb : b.length ≤ 5000) : Again (lexLines b) (lexLines (joinT (lexLines b))) (joinT (lexLines b)) := by
  have hok := lex_ok b
  have hlen := joinT_len b
  have hr : readableB (joinT (lexLines b)) = true := by
    rw [joinT_eq] at hlen ⊢
    exact readable_jT hok (by omega)
  have hm : lexLines (joinT (lexLines b)) = relaid 1 (textsOf (lexLines b)) := by
    rw [lexLines, hr, if_pos rfl, joinT_eq, splitNl_jT _ hok, lexFrom_wT _ _ hok]
  have ht : textsOf (lexLines (joinT (lexLines b))) = textsOf (lexLines b) := by rw [hm, relaid_texts _ _ hok]
  refine ⟨hr, ?_, fun i => ?_, fun i k => ?_, fun i k hi hk => ?_, ?_⟩
  · rw [← textsOf_len, ht, textsOf_len]
  · rw [(texts_at _ i 0).2, ht, ← (texts_at _ i 0).2]
  · rw [(texts_at _ i k).1, ht, ← (texts_at _ i k).1]
  · have h1 : (lexLines (joinT (lexLines b)))[i]? = some ((lexLines (joinT (lexLines b))).getD i []) := by
      rw [List.getD_eq_getElem?_getD, List.getElem?_eq_getElem hi]; rfl
    have h2 : ((lexLines (joinT (lexLines b))).getD i []).getD k f0 ∈ (lexLines (joinT (lexLines b))).getD i [] := by
      generalize (lexLines (joinT (lexLines b))).getD i [] = fs at hk
      rw [List.getD_eq_getElem?_getD, List.getElem?_eq_getElem hk]; exact List.getElem_mem _
    have h3 : (relaid 1 (textsOf (lexLines b)))[i]? = some ((lexLines (joinT (lexLines b))).getD i []) := by rw [← hm]; exact h1
    have := relaid_line _ 1 i _ h3 _ h2
    omega
  · rw [joinT_eq, ht, ← joinT_eq]

/-! Remarks. -/
end
section
open Go.RowKit

/-- A word that is read again as it is. -/
def GoodT (w : List UInt8) : Prop := GoodW w ∧ ∀ c ∈ w, c ≠ 10 ∧ okB (c.toNat : Int) = true
def gw (w : List UInt8) : Bool := !w.isEmpty && (w.all fun c => decide (33 ≤ c.toNat) && decide (c.toNat ≤ 126)) && w.head? != some 35
theorem gw_good {w : List UInt8} (h : gw w = true) : GoodT w := by
  unfold gw at h
  rw [Bool.and_eq_true, Bool.and_eq_true] at h
  obtain ⟨⟨h1, h2⟩, h3⟩ := h
  have hc : ∀ c ∈ w, 33 ≤ c.toNat ∧ c.toNat ≤ 126 := fun c hc => by
    have := List.all_eq_true.1 h2 c hc
    rw [Bool.and_eq_true] at this
    exact ⟨of_decide_eq_true this.1, of_decide_eq_true this.2⟩
  have hb : ∀ c ∈ w, blankB (c.toNat : Int) = false := fun c hm => by
    have := hc c hm
    unfold blankB
    rw [show ((c.toNat : Int) == 32) = false from beq_eq_false_iff_ne.2 (by omega), show ((c.toNat : Int) == 9) = false from beq_eq_false_iff_ne.2 (by omega), show ((c.toNat : Int) == 13) = false from beq_eq_false_iff_ne.2 (by omega)]; rfl
  refine ⟨⟨?_, hb, ?_⟩, fun c hm => ⟨?_, ?_⟩⟩
  · intro e; subst e; simp at h1
  · intro c r e h35
    subst e
    have : c = 35 := UInt8.toNat_inj.1 h35
    subst this
    simp at h3
  · intro e; subst e; have := hc 10 hm; have : ((10 : UInt8).toNat) = 10 := rfl; omega
  · have := hc c hm
    unfold okB
    rw [dec_t (show 32 ≤ (c.toNat : Int) by omega), dec_t (show (c.toNat : Int) ≤ 126 by omega)]
    simp
theorem gw_app {a b : List UInt8} (h : gw a = true) (hb : ∀ c ∈ b, 33 ≤ c.toNat ∧ c.toNat ≤ 126) : gw (a ++ b) = true := by
  unfold gw at *
  cases a with
  | nil => simp at h
  | cons c r =>
    rw [Bool.and_eq_true, Bool.and_eq_true] at h ⊢
    refine ⟨⟨by simp, ?_⟩, by simpa using h.2⟩
    rw [List.all_append, h.1.2, Bool.true_and]
    refine List.all_eq_true.2 fun x hx => ?_
    have := hb x hx
    rw [dec_t this.1, dec_t this.2]; rfl
theorem digs_gw (n : Nat) : gw (digs n) = true := by
  have h1 := digs_isD n
  obtain ⟨c, r, e, h48, h57, _⟩ := digs_head n
  unfold gw
  rw [Bool.and_eq_true, Bool.and_eq_true]
  refine ⟨⟨by rw [e]; simp, List.all_eq_true.2 fun x hx => ?_⟩, ?_⟩
  · have := h1 x hx
    rw [isD_iff, Bool.and_eq_true] at this
    have a := of_decide_eq_true this.1
    have b := of_decide_eq_true this.2
    rw [dec_t (show 33 ≤ x.toNat by omega), dec_t (show x.toNat ≤ 126 by omega)]; rfl
  · rw [e]
    simp only [List.head?_cons, bne_iff_ne, ne_eq, Option.some.injEq]
    intro e2; subst e2; have : ((35 : UInt8).toNat) = 35 := rfl; omega
theorem itoa_gw (n : Int) : gw (Lib.itoa n) = true := by
  by_cases h : 0 ≤ n
  · obtain ⟨u, rfl⟩ : ∃ u : Nat, n = u := ⟨n.toNat, by omega⟩
    rw [itoa_digs]; exact digs_gw u
  · obtain ⟨u, rfl⟩ : ∃ u : Nat, n = -(u : Int) := ⟨n.natAbs, by omega⟩
    rw [Lib.itoa_neg u (by omega), ← digs_dec]
    refine gw_app (a := [45]) rfl fun c hc => ?_
    have := digs_isD u c hc
    rw [isD_iff, Bool.and_eq_true] at this
    have a := of_decide_eq_true this.1
    have b := of_decide_eq_true this.2
    omega
theorem itoa_len {n : Int} (h : I64 n) : (Lib.itoa n).length ≤ 20 := by
  unfold I64 at h
  by_cases h0 : 0 ≤ n
  · obtain ⟨u, rfl⟩ : ∃ u : Nat, n = u := ⟨n.toNat, by omega⟩
    rw [itoa_digs]
    exact Nat.le_trans (digs_len u 19 (by omega) (by omega)) (by omega)
  · obtain ⟨u, rfl⟩ : ∃ u : Nat, n = -(u : Int) := ⟨n.natAbs, by omega⟩
    rw [Lib.itoa_neg u (by omega), ← digs_dec, List.length_cons]
    have := digs_len u 19 (by omega) (by omega)
    omega
/-! A line's words. -/
end
section
open Go.RowKit

theorem app_lim {a b : List UInt8} (h : a.length + b.length ≤ 1000000000) : appO a b = some (a ++ b) := appO_eq (by unfold lim; omega)
theorem rdig_ok {n : Int} (h : inB n = true) : g_ref26_Digits n = some (Lib.itoa n) := by
  unfold inB at h
  rw [Bool.and_eq_true] at h
  have h1 := of_decide_eq_true h.1
  have h2 := of_decide_eq_true h.2
  unfold g_ref26_Digits
  by_cases h0 : 0 ≤ n
  · obtain ⟨u, rfl⟩ : ∃ u : Nat, n = u := ⟨n.toNat, by omega⟩
    rw [dec_f (by omega), rdigits_ok (by omega), itoa_digs]; rfl
  · obtain ⟨u, rfl⟩ : ∃ u : Nat, n = -(u : Int) := ⟨n.natAbs, by omega⟩
    rw [dec_t (by omega), show (0 : Int) - -(u : Int) = (u : Int) by omega, w64_id (by omega) (by omega), rdigits_ok (by omega)]
    have := digs_len u 19 (by omega) (by omega)
    simp only [cond_true, bO_some]
    rw [app_lim (by simp; omega), Lib.itoa_neg u (by omega), ← digs_dec]; rfl
/-! A sample's line. -/
/-! Texts. -/
/-! The program's text. -/
end
section
open Go.RowKit

/-! The program's text. -/
end
section
open Go.RowKit

/-! What a right act is. -/
/-! Words that are read again. -/
theorem wh_back {n : Int} (h : inB n = true) : whV (Lib.itoa n) = some n := by
  unfold inB at h
  rw [Bool.and_eq_true] at h
  exact whV_some.2 ⟨rfl, of_decide_eq_true h.1, of_decide_eq_true h.2⟩
/-! Texts that are read again. -/
theorem toLL_txs (x : List (List Field)) : (toLL x).map txs = textsOf x := by
  unfold toLL textsOf txs
  rw [List.map_map]
  exact List.map_congr_left fun fs _ => by simp [toSF, Function.comp_def]
/-! A field that isn't told. -/
/-! Two texts. -/
theorem readGo_acc : ∀ (L : List (List SField)) (acc : List SAct), readGo L acc = if (readGo L []).2.2 = 0 then (acc ++ (readGo L []).1, 0, 0) else readGo L []
  | [], acc => by simp [readGo]
  | fs :: r, acc => by
    rw [readGo, readGo]
    cases lineV (txs fs) with
    | none => simp
    | some a =>
      simp only [List.nil_append]
      rw [readGo_acc r (acc ++ [a]), readGo_acc r [a]]
      split
      · simp
      · rfl
theorem readGo_app : ∀ (L M : List (List SField)) (acc : List SAct), readGo (L ++ M) acc = if (readGo L acc).2.2 = 0 then readGo M (readGo L acc).1 else readGo L acc
  | [], M, acc => by simp [readGo]
  | fs :: r, M, acc => by
    rw [List.cons_append, readGo, readGo]
    cases lineV (txs fs) with
    | none => simp
    | some a => exact readGo_app r M (acc ++ [a])
theorem readGo_texts : ∀ (L M : List (List SField)) (acc : List SAct), L.map txs = M.map txs → (readGo L acc).1 = (readGo M acc).1 ∧ (readGo L acc).2.2 = (readGo M acc).2.2
  | [], M, acc, h => by
    rw [List.map_nil] at h
    rw [List.map_eq_nil_iff.1 h.symm]
    exact ⟨rfl, rfl⟩
  | fs :: r, M, acc, h => by
    cases M with
    | nil => simp at h
    | cons gs M =>
      rw [List.map_cons, List.map_cons, List.cons.injEq] at h
      rw [readGo, readGo, h.1]
      cases lineV (txs gs) with
      | none => exact ⟨rfl, rfl⟩
      | some a => exact readGo_texts r M (acc ++ [a]) h.2
theorem readGo_err : ∀ (L : List (List SField)) (acc : List SAct), ((readGo L acc).2.2 = 0 ∧ (readGo L acc).2.1 = 0) ∨ ((readGo L acc).2.2 = 2 ∧ (readGo L acc).1 = [])
  | [], acc => .inl ⟨rfl, rfl⟩
  | fs :: r, acc => by
    rw [readGo]
    cases lineV (txs fs) with
    | none => exact .inr ⟨rfl, rfl⟩
    | some a => exact readGo_err r (acc ++ [a])
theorem toLL_app (x y : List (List Field)) : toLL (x ++ y) = toLL x ++ toLL y := by simp [toLL]
theorem ScriptLines_ok (a b : List UInt8) : g_law26_ScriptLines a b = some true := by
  unfold g_law26_ScriptLines
  rw [awake_ok]
  simp only [bO_some, Bool.not_true, Bool.false_or]
  by_cases h1 : (a.length : Int) > 2000
  · rw [dec_t h1]; rfl
  · rw [dec_f h1]
    simp only [Bool.false_or]
    by_cases h2 : (b.length : Int) > 2000
    · rw [dec_t h2]; rfl
    · rw [dec_f h2]
      simp only [cond_false, Bool.false_or]
      have la : a.length ≤ lim := by unfold lim; omega
      have lb : b.length ≤ lim := by unfold lim; omega
      rw [rreadable_ok la, rreadable_ok lb]
      simp only [bO_some]
      cases ra : readableB a with
      | false => rfl
      | true =>
        simp only [Bool.not_true, cond_false, bO_some, Bool.false_or]
        cases rb : readableB b with
        | false => rfl
        | true =>
          simp only [Bool.not_true, cond_false]
          rw [sread_ok la, sread_ok lb]
          simp only [bO_some]
          rw [appO_eq (by unfold lim; simp; omega)]
          simp only [bO_some, List.nil_append]
          rw [appO_eq (by unfold lim; simp; omega)]
          simp only [bO_some]
          rw [appO_eq (by unfold lim; simp; omega)]
          simp only [bO_some]
          rw [sread_ok (by unfold lim; simp; omega), show a ++ [10] ++ b = a ++ 10 :: b by simp]
          simp only [bO_some]
          have hall : readV (a ++ 10 :: b) = if (readV a).2.2 = 0 then readGo (toLL (lexFrom (1 + (splitNl a).length) (splitNl b))) (readV a).1 else readV a := by
            unfold readV lexLines
            rw [readable_app (by omega) (by omega), ra, rb]
            simp only [Bool.and_self, if_true]
            rw [splitNl_app, lexFrom_app, toLL_app, readGo_app]
          have hb2 : ∀ acc, (readGo (toLL (lexFrom (1 + (splitNl a).length) (splitNl b))) acc).1 = (readGo (toLL (lexLines b)) acc).1 ∧ (readGo (toLL (lexFrom (1 + (splitNl a).length) (splitNl b))) acc).2.2 = (readGo (toLL (lexLines b)) acc).2.2 := by
            intro acc
            refine readGo_texts _ _ acc ?_
            rw [toLL_txs, toLL_txs]
            unfold lexLines
            rw [if_pos rb, lexFrom_texts, lexFrom_texts]
          have hvb : readV b = readGo (toLL (lexLines b)) [] := by unfold readV; rw [if_pos rb]
          have ea := readGo_err (toLL (lexLines a)) []
          have hva : readV a = readGo (toLL (lexLines a)) [] := by unfold readV; rw [if_pos ra]
          rw [← hva] at ea
          rw [hall]
          rcases ea with ⟨e1, e2⟩ | ⟨e1, e2⟩
          · rw [e1]
            simp only [bne_self_eq_false, cond_false, if_true]
            obtain ⟨g1, g2⟩ := hb2 (readV a).1
            rw [readGo_acc (toLL (lexLines b)) (readV a).1, ← hvb] at g1 g2
            have eb := readGo_err (toLL (lexLines b)) []
            rw [← hvb] at eb
            rcases eb with ⟨f1, f2⟩ | ⟨f1, f2⟩
            · rw [f1] at g1 g2 ⊢
              simp only [if_true] at g1 g2
              simp only [bne_self_eq_false, cond_false]
              rw [g2, g1]
              simp only [beq_self_eq_true, cond_true]
              obtain ⟨x1, x2⟩ := readV_from (b := a)
              obtain ⟨y1, y2⟩ := readV_from (b := b)
              unfold BB at x2 y2
              rw [appO_eq (by unfold lim; simp; omega)]
              simp only [bO_some, List.nil_append]
              rw [appO_eq (by unfold lim; omega)]
              simp only [bO_some]
              have hself : ∀ x ∈ (readV a).1 ++ (readV b).1, SelfA x := fun x hx => by
                rcases List.mem_append.1 hx with hx | hx
                · obtain ⟨ts, ho, h⟩ := x1 x hx; exact lineV_self ho h
                · obtain ⟨ts, ho, h⟩ := y1 x hx; exact lineV_self ho h
              rw [same_ok (All2.refl fun x hx => (hself x hx).1) (fun x hx => (hself x hx).2) (by rw [List.length_append]; unfold lim; omega)]; rfl
            · rw [f1] at g1 g2 ⊢
              simp only [show ¬ ((2 : Int) = 0) by omega, if_false] at g1 g2
              rw [g1, g2, f1, f2]; rfl
          · rw [e1]
            simp only [show ¬ ((2 : Int) = 0) by omega, if_false]
            rw [e1]
            simp
/-! Whole numbers of a crash. -/
theorem one_line {ws : List (List UInt8)} {n : Nat} (hne : ws ≠ []) (hw : ∀ w ∈ ws, GoodT w) : ∃ fs, lexFrom n [wT ws] = [fs] ∧ (txs (fs.map toSF)) = ws ∧ lineOf (fs.map toSF) = n := by
  have hs := scan_wT ws (fun w h => (hw w h).1) n 0
  have hs' : txs ((scan n 0 (wT ws)).map toSF) = ws := by
    unfold txs
    rw [List.map_map]; exact hs
  have hg := scan_good (wT ws) n 0
  refine ⟨scan n 0 (wT ws), ?_, hs', ?_⟩
  · rw [lexFrom_cons]
    unfold emit
    have : (scan n 0 (wT ws)).length ≠ 0 := by
      intro e
      rw [List.eq_nil_of_length_eq_zero e] at hs
      exact hne hs.symm
    rw [if_neg this]
    rfl
  · cases h : scan n 0 (wT ws) with
    | nil => rw [h] at hs; exact absurd hs.symm hne
    | cons f r =>
      have := (hg f (by rw [h]; exact List.mem_cons_self ..)).2.1
      show (f.line : Int) = n
      rw [this]
theorem wT_no10 {ws : List (List UInt8)} (hw : ∀ w ∈ ws, GoodT w) : (10 : UInt8) ∉ wT ws := by
  intro h
  rcases wT_mem h with e | ⟨w, hw1, hw2⟩
  · cases e
  · exact ((hw w hw1).2 10 hw2).1 rfl
theorem wT_ok {ws : List (List UInt8)} (hw : ∀ w ∈ ws, GoodT w) : ∀ c ∈ wT ws, okB (c.toNat : Int) = true := by
  intro c hc
  rcases wT_mem hc with rfl | ⟨w, hw1, hw2⟩
  · rfl
  · exact ((hw w hw1).2 c hw2).2
theorem readV_one {ws : List (List UInt8)} (hne : ws ≠ []) (hw : ∀ w ∈ ws, GoodT w) (hl : (wT ws).length ≤ 60000) : readV (wT ws) = match lineV ws with
    | none => ([], 1, 2)
    | some a => ([a], 0, 0) := by
  have hr : readableB (wT ws) = true := by
    unfold readableB
    rw [Bool.and_eq_true]
    exact ⟨List.all_eq_true.2 (wT_ok hw), dec_t (by omega)⟩
  obtain ⟨fs, f1, f2, f3⟩ := one_line (n := 1) hne hw
  unfold readV lexLines
  rw [if_pos hr, if_pos hr, splitNl_one _ (wT_no10 hw), f1]
  show readGo [fs.map toSF] [] = _
  rw [readGo, f2, f3]
  cases lineV ws with
  | none => rfl
  | some a => rfl
theorem splitNl_nil10 (s : List UInt8) : splitNl (10 :: s) = [] :: splitNl s := by
  have := splitNl_app [] s
  exact this
theorem readV_two {ws : List (List UInt8)} (hne : ws ≠ []) (hw : ∀ w ∈ ws, GoodT w) (hl : (wT ws).length ≤ 60000) : readV (10 :: wT ws) = match lineV ws with
    | none => ([], 2, 2)
    | some a => ([a], 0, 0) := by
  have hr : readableB (10 :: wT ws) = true := by
    unfold readableB
    rw [Bool.and_eq_true]
    refine ⟨List.all_eq_true.2 fun c hc => ?_, dec_t (by simp; omega)⟩
    rcases List.mem_cons.1 hc with rfl | hc
    · rfl
    · exact wT_ok hw c hc
  obtain ⟨fs, f1, f2, f3⟩ := one_line (n := 2) hne hw
  unfold readV lexLines
  rw [if_pos hr, if_pos hr, splitNl_nil10, splitNl_one _ (wT_no10 hw), lexFrom_cons, f1, scan_nil]
  show readGo [fs.map toSF] [] = _
  rw [readGo, f2, f3]
  cases lineV ws with
  | none => rfl
  | some a => rfl
theorem tmod_in (n : Int) : inB (n.tmod 1099511627777) = true := by
  have h1 := Int.tmod_lt_of_pos n (show (0 : Int) < 1099511627777 by omega)
  have h2 := Int.lt_tmod_of_pos n (show (0 : Int) < 1099511627777 by omega)
  unfold inB
  rw [dec_t (show n.tmod 1099511627777 ≥ -1099511627776 by omega), dec_t (show n.tmod 1099511627777 ≤ 1099511627776 by omega)]; rfl
theorem in_i64 {n : Int} (h : inB n = true) : I64 n := by
  unfold inB at h
  rw [Bool.and_eq_true] at h
  have := of_decide_eq_true h.1
  have := of_decide_eq_true h.2
  unfold I64; omega
theorem cr_line (x y : List UInt8) : lineV [crashW, x, y] = (whV x).bind fun n => ((whV y).bind fun a => some [a]).map (aCrash n) := by
  show lineW crashW [x, y] = _
  unfold lineW
  rw [if_neg (by decide), if_neg (by decide), if_neg (by decide), if_neg (by decide), if_neg (by decide), if_pos rfl]
  rfl
/-- Texts that are no whole number's. -/
theorem bad_wh {s b : List UInt8} (_hs : gw s = true) (hb : b = 43 :: s ∨ b = [49, 48, 57, 57, 53, 49, 49, 54, 50, 55, 55, 55, 55] ∨ b = 45 :: 48 :: s) : whV b = none := by
  cases h : whV b with
  | none => rfl
  | some n =>
    exfalso
    obtain ⟨h1, h2, h3⟩ := whV_some.1 h
    by_cases h0 : 0 ≤ n
    · obtain ⟨u, rfl⟩ : ∃ u : Nat, n = u := ⟨n.toNat, by omega⟩
      rw [itoa_digs] at h1
      obtain ⟨c, r, e, c1, c2, _⟩ := digs_head u
      rcases hb with rfl | rfl | rfl
      · rw [e] at h1
        injection h1 with h1 _
        rw [← h1] at c1; exact absurd c1 (by decide)
      · have hd := decV_digs u
        rw [← h1, show satN u = u from satN_of (by omega), show decV [49, 48, 57, 57, 53, 49, 49, 54, 50, 55, 55, 55, 55] = 1099511627777 by decide +kernel] at hd
        omega
      · rw [e] at h1
        injection h1 with h1 _
        rw [← h1] at c1; exact absurd c1 (by decide)
    · obtain ⟨u, rfl⟩ : ∃ u : Nat, n = -(u : Int) := ⟨n.natAbs, by omega⟩
      rw [Lib.itoa_neg u (by omega), ← digs_dec] at h1
      obtain ⟨c, r, e, _, _, c3⟩ := digs_head u
      rcases hb with rfl | rfl | rfl
      · injection h1 with h1 _
        exact absurd h1 (by decide)
      · injection h1 with h1 _
        exact absurd h1 (by decide)
      · injection h1 with _ h1
        rw [e] at h1
        injection h1 with h1 _
        exact c3 (by omega) (by rw [← h1]; rfl)
theorem ScriptWholes_ok (n how : Int) : g_law26_ScriptWholes n how = some true := by
  unfold g_law26_ScriptWholes
  rw [awake_ok]
  simp only [bO_some, Bool.not_true, cond_false]
  have hin := tmod_in n
  generalize n.tmod 1099511627777 = k at hin ⊢
  have hk := in_i64 hin
  rw [rdig_ok hin]
  have hg := itoa_gw k
  have hl := itoa_len hk
  have hwh := wh_back hin
  generalize Lib.itoa k = s at hg hl hwh ⊢
  simp only [bO_some]
  rw [app_lim (by simp; omega)]
  simp only [bO_some]
  rw [app_lim (by simp; omega)]
  simp only [bO_some]
  rw [app_lim (by simp; omega)]
  simp only [bO_some]
  have ht : [99, 114, 97, 115, 104, 32] ++ s ++ [32] ++ s = wT [crashW, s, s] := by simp [wT, crashW]
  have hgs := gw_good hg
  have hcw : GoodT crashW := gw_good (by decide)
  have hlen : (wT [crashW, s, s]).length ≤ 60000 := by rw [← ht]; simp; omega
  rw [ht, show bytesO (wT [crashW, s, s]) = some (wT [crashW, s, s]) from if_pos (by unfold lim; omega), sread_ok (by unfold lim; omega)]
  simp only [bO_some]
  rw [readV_one (by simp) (fun w hw => by
    simp only [List.mem_cons, List.mem_nil_iff, or_false] at hw
    rcases hw with rfl | rfl | rfl
    · exact hcw
    · exact hgs
    · exact hgs) hlen, cr_line, hwh]
  simp only [Option.bind_some, Option.map_some]
  have key : ∀ b : List UInt8, (b = 43 :: s ∨ b = [49, 48, 57, 57, 53, 49, 49, 54, 50, 55, 55, 55, 55] ∨ b = 45 :: 48 :: s) → g_law26_ScriptWholes_k2 b = some true := by
    intro b hb
    have hbn := bad_wh hg hb
    have hbg : gw b = true ∧ b.length ≤ 22 := by
      unfold gw at hg
      rw [Bool.and_eq_true, Bool.and_eq_true] at hg
      have hc : ∀ c ∈ s, 33 ≤ c.toNat ∧ c.toNat ≤ 126 := fun c hc => by
        have := List.all_eq_true.1 hg.1.2 c hc
        rw [Bool.and_eq_true] at this
        exact ⟨of_decide_eq_true this.1, of_decide_eq_true this.2⟩
      rcases hb with rfl | rfl | rfl
      · exact ⟨gw_app (a := [43]) rfl hc, by simp; omega⟩
      · exact ⟨by decide, by decide⟩
      · exact ⟨gw_app (a := [45, 48]) rfl hc, by simp; omega⟩
    unfold g_law26_ScriptWholes_k2
    rw [app_lim (by simp; omega)]
    simp only [bO_some]
    have ht2 : [10, 99, 114, 97, 115, 104, 32, 48, 32] ++ b = 10 :: wT [crashW, [48], b] := by simp [wT, crashW]
    have hlen2 : (wT [crashW, [48], b]).length ≤ 60000 := by simp [wT, crashW]; omega
    have hlim2 : (10 :: wT [crashW, [48], b]).length ≤ lim := by unfold lim; simp only [List.length_cons]; omega
    rw [ht2, show bytesO (10 :: wT [crashW, [48], b]) = some (10 :: wT [crashW, [48], b]) from if_pos hlim2, sread_ok hlim2]
    simp only [bO_some]
    rw [readV_two (by simp) (fun w hw => by
      simp only [List.mem_cons, List.mem_nil_iff, or_false] at hw
      rcases hw with rfl | rfl | rfl
      · exact hcw
      · exact gw_good rfl
      · exact gw_good hbg.1) hlen2, cr_line, hbn]
    cases whV [48] <;> rfl
  simp only [bne_self_eq_false, List.length_cons, List.length_nil]
  rw [show (((0 + 1 : Nat) : Int) != 1) = false from rfl]
  simp only [Bool.or_self, cond_false, Bool.false_or]
  rw [show idx [aCrash k [k]] 0 = some (aCrash k [k]) from rfl]
  simp only [bO_some, aCrash, bne_self_eq_false, cond_false, Bool.false_or, List.length_cons, List.length_nil]
  rw [show (((0 + 1 : Nat) : Int) != 1) = false from rfl]
  simp only [cond_false, bO_some]
  rw [show idx [k] 0 = some k from rfl]
  simp only [bO_some, bne_self_eq_false, Bool.or_self, cond_false]
  rw [app_lim (by simp; omega)]
  simp only [bO_some]
  have k1 : ∀ b : List UInt8, (b = 43 :: s ∨ b = [49, 48, 57, 57, 53, 49, 49, 54, 50, 55, 55, 55, 55] ∨ b = 45 :: 48 :: s) → g_law26_ScriptWholes_k1 how s b = some true := by
    intro b hb
    unfold g_law26_ScriptWholes_k1
    cases how.tmod 3 == 2 with
    | true =>
      simp only [cond_true]
      rw [app_lim (by simp; omega)]
      simp only [bO_some]
      exact key _ (.inr (.inr rfl))
    | false => exact key b hb
  cases how.tmod 3 == 1 with
  | true => exact k1 _ (.inr (.inl rfl))
  | false => exact k1 _ (.inl rfl)
end
section
open Go.RowKit

section
variable {H : Type} {enc : TypeId × Value → H} {w : World}
end
/-! The laws, as contracts. -/
theorem ScriptReads_any (b : List UInt8) (M : Nat → Option (List AV)) : ACall Tryz.prog 4 [.list false 5 (byteAVs b)] M (fun r M' => r = .lit (.bool true) ∧ M = M') :=
  (g_law26_ScriptReads_w (ScriptReads_ok b)).all M
theorem ScriptLines_any (a b : List UInt8) (M : Nat → Option (List AV)) : ACall Tryz.prog 8 [.list false 5 (byteAVs a), .list false 5 (byteAVs b)] M (fun r M' => r = .lit (.bool true) ∧ M = M') :=
  (g_law26_ScriptLines_w (ScriptLines_ok a b)).all M
theorem ScriptWholes_any (n how : Int) (M : Nat → Option (List AV)) : ACall Tryz.prog 7 [.lit (.int .i64 n), .lit (.int .u8 how)] M (fun r M' => r = .lit (.bool true) ∧ M = M') :=
  (g_law26_ScriptWholes_w (ScriptWholes_ok n how)).all M
end
end Go.Proofs.YtgphopeclplahaaGreatDoor
