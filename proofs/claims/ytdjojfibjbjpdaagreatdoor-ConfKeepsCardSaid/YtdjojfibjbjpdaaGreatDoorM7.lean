/- EvT, EvY, EvW, Bld, BldW, BldS, EvB, Ml, U. -/
import Derived.Test.YtdjojfibjbjpdaaGreatDoorM5
import Derived.Test.YtdjojfibjbjpdaaGreatDoorM2
import Derived.Test.YtdjojfibjbjpdaaGreatDoorProg
import Derived.Shelf.RegionOpenPlain
import Derived.Lib.UnsafeStr
import Derived.Lib.Builder
import Derived.Lib.Walk
import Derived.WalkKit
import Derived.Deep.MidRow
import Derived.Test.YtdjojfibjbjpdaaGreatDoorM6
set_option maxHeartbeats 2000000
namespace Go.Proofs.YtdjojfibjbjpdaaGreatDoor
section
open Go.RowKit

def hasS (f : Fr) (s : Nat) : Bool := f.any fun p => Nat.beq p.1 s
theorem getE_app (A B : Fr) (s : Nat) : getE (A ++ B) s = bif hasS A s then getE A s else getE B s := by
  induction A with
  | nil => rfl
  | cons p r ih =>
    obtain ⟨j, x⟩ := p
    simp only [List.cons_append, getE, hasS, List.any_cons]
    cases h : Nat.beq j s with
    | true => rfl
    | false => simpa [hasS] using ih
theorem flatB_app : ∀ {A B : Fr}, flatB A = true → flatB B = true → flatB (A ++ B) = true
  | [], _, _, h => h
  | (_, [], _) :: r, _, h, k => flatB_app (A := r) h k
  | (_, _ :: _, _) :: _, _, h, _ => by cases h
theorem noLB_app {d : Nat} : ∀ {A B : Fr}, noLB d A = true → noLB d B = true → noLB d (A ++ B) = true
  | [], _, _, h => h
  | p :: r, B, h, k => by
    obtain ⟨a, c, v⟩ := p
    simp only [List.cons_append, noLB] at h ⊢
    cases e : v.notL d with
    | true => rw [e] at h; exact noLB_app (A := r) h k
    | false => rw [e] at h; cases h
abbrev Lo := List (Nat × List AV)
theorem lookL_app (A B : Lo) (k : Nat) : lookL (A ++ B) k = (match lookL A k with | some c => some c | none => lookL B k) := by
  induction A with
  | nil => rfl
  | cons p r ih =>
    obtain ⟨j, x⟩ := p
    simp only [List.cons_append, lookL]
    split
    · rfl
    · exact ih
/-- What an operation reads and writes. -/
structure WE where
  rd : Fr
  wr : Fr
  rl : Lo
  wl : Lo
  al : Option Nat
  ro : Bool
  wo : Option Ob
def lkW {β : Type} (g : WE → Option β) (x : β) (L : Nat → Bool) : Nat → List WE → β
  | _, [] => x
  | i, w :: r => lkW g (bif L i then (g w).getD x else x) L (i + 1) r
def frW (L : Nat → Bool) : Fr → Nat → List WE → Fr
  | fr, _, [] => fr
  | fr, i, w :: r => frW L (bif L i then w.wr ++ fr else fr) (i + 1) r
def loW (L : Nat → Bool) : Lo → Nat → List WE → Lo
  | lo, _, [] => lo
  | lo, i, w :: r => loW L (bif L i then w.wl ++ lo else lo) (i + 1) r
def gS (s : Nat) (w : WE) : Option (Cnd × AV) := bif hasS w.wr s then some (getE w.wr s) else none
def gL (k : Nat) (w : WE) : Option (Option (List AV)) := (lookL w.wl k).map some
theorem getE_frW (L : Nat → Bool) (s : Nat) : ∀ (W : List WE) (fr : Fr) (i : Nat), getE (frW L fr i W) s = lkW (gS s) (getE fr s) L i W
  | [], _, _ => rfl
  | w :: r, fr, i => by
    simp only [frW, lkW]
    rw [getE_frW L s r]
    cases L i with
    | true =>
      simp only [cond_true]; rw [getE_app]; unfold gS
      cases hasS w.wr s <;> rfl
    | false => rfl
theorem look_loW (L : Nat → Bool) (k : Nat) : ∀ (W : List WE) (lo : Lo) (i : Nat), lookL (loW L lo i W) k = lkW (gL k) (lookL lo k) L i W
  | [], _, _ => rfl
  | w :: r, lo, i => by
    simp only [loW, lkW]
    rw [look_loW L k r]
    cases L i with
    | true =>
      simp only [cond_true]; rw [lookL_app]; unfold gL
      cases lookL w.wl k <;> rfl
    | false => rfl
section
variable {β : Type} {g : WE → Option β}
theorem lkW_congr {L L' : Nat → Bool} : ∀ {W : List WE} {x : β} {i : Nat}, (∀ j w, W[j]? = some w → (g w).isSome = true → L (i + j) = L' (i + j)) → lkW g x L i W = lkW g x L' i W
  | [], _, _, _ => rfl
  | w :: r, x, i, h => by
    simp only [lkW]
    have h0 : (bif L i then (g w).getD x else x) = bif L' i then (g w).getD x else x := by
      cases hs : g w with
      | some v => have := h 0 w rfl (by rw [hs]; rfl); rw [Nat.add_zero] at this; rw [this]
      | none => cases L i <;> cases L' i <;> rfl
    rw [h0]
    exact lkW_congr fun j w' hw hs => by have := h (j + 1) w' hw hs; rw [show i + 1 + j = i + (j + 1) by omega]; exact this
theorem lkW_none : ∀ {W : List WE} {x : β} {i : Nat} {L : Nat → Bool}, (∀ j w', W[j]? = some w' → (g w').isSome = true → L (i + j) = false) → lkW g x L i W = x
  | [], _, _, _, _ => rfl
  | w :: r, x, i, L, h => by
    simp only [lkW]
    have : (bif L i then (g w).getD x else x) = x := by
      cases hs : g w with
      | some v => have := h 0 w rfl (by rw [hs]; rfl); rw [Nat.add_zero] at this; rw [this]; rfl
      | none => cases L i <;> rfl
    rw [this]
    exact lkW_none fun j w' hw hs => by have := h (j + 1) w' hw hs; rw [show i + 1 + j = i + (j + 1) by omega]; exact this
theorem lkW_last {L : Nat → Bool} : ∀ {W : List WE} {x v : β} {i m : Nat} {w : WE}, W[m]? = some w → g w = some v → L (i + m) = true → (∀ j w', m < j → W[j]? = some w' → (g w').isSome = true → L (i + j) = false) → lkW g x L i W = v
  | [], _, _, _, _, _, h, _, _, _ => by simp at h
  | w0 :: r, x, v, i, 0, w, h, hs, hL, hj => by
    simp only [List.getElem?_cons_zero, Option.some.injEq] at h; subst h
    simp only [lkW]
    rw [Nat.add_zero] at hL
    rw [hL, hs]
    exact lkW_none fun j w' hw hs => by have := hj (j + 1) w' (by omega) hw hs; rw [show i + 1 + j = i + (j + 1) by omega]; exact this
  | w0 :: r, x, v, i, m + 1, w, h, hs, hL, hj => by
    simp only [lkW]
    exact lkW_last (m := m) h hs (by rw [show i + 1 + m = i + (m + 1) by omega]; exact hL) fun j w' hm hw hs' => by
      have := hj (j + 1) w' (by omega) hw hs'; rw [show i + 1 + j = i + (j + 1) by omega]; exact this
theorem lkW_take : ∀ {W : List WE} {x : β} {i k : Nat}, lkW g x (fun _ => true) i (W.take k) = lkW g x (fun j => decide (j < i + k)) i W
  | [], x, i, k => by simp [lkW]
  | w :: r, x, i, 0 => by
    rw [List.take_zero]
    have e := lkW_congr (g := g) (L := fun j => decide (j < i + 0)) (L' := fun _ => false) (W := w :: r) (x := x) (i := i) fun j w' _ _ => by simp
    rw [e]; exact (lkW_none (L := fun _ => false) fun _ _ _ _ => rfl).symm
  | w :: r, x, i, k + 1 => by
    rw [List.take_succ_cons]
    simp only [lkW]
    rw [lkW_take]
    have e : decide (i < i + (k + 1)) = true := by simp
    rw [e]
    exact lkW_congr fun j w' _ _ => by simp only [decide_eq_decide]; omega
theorem lkW_app (L : Nat → Bool) : ∀ (A B : List WE) (x : β) (i : Nat), lkW g x L i (A ++ B) = lkW g (lkW g x L i A) L (i + A.length) B
  | [], _, _, _ => rfl
  | w :: r, B, x, i => by
    simp only [List.cons_append, lkW, List.length_cons]
    rw [lkW_app L r B, show i + 1 + r.length = i + (r.length + 1) by omega]
end
theorem frW_app (L : Nat → Bool) : ∀ (A B : List WE) (fr : Fr) (i : Nat), frW L fr i (A ++ B) = frW L (frW L fr i A) (i + A.length) B
  | [], _, _, _ => rfl
  | w :: r, B, fr, i => by
    simp only [List.cons_append, frW, List.length_cons]
    rw [frW_app L r B, show i + 1 + r.length = i + (r.length + 1) by omega]
theorem loW_app (L : Nat → Bool) : ∀ (A B : List WE) (lo : Lo) (i : Nat), loW L lo i (A ++ B) = loW L (loW L lo i A) (i + A.length) B
  | [], _, _, _ => rfl
  | w :: r, B, lo, i => by
    simp only [List.cons_append, loW, List.length_cons]
    rw [loW_app L r B, show i + 1 + r.length = i + (r.length + 1) by omega]
theorem flatB_frW {L : Nat → Bool} : ∀ {W : List WE} {fr : Fr} {i : Nat}, flatB fr = true → (∀ w ∈ W, flatB w.wr = true) → flatB (frW L fr i W) = true
  | [], _, _, h, _ => h
  | w :: r, fr, i, h, k => by
    simp only [frW]
    refine flatB_frW (W := r) ?_ fun w' hw => k w' (List.mem_cons_of_mem _ hw)
    cases L i with
    | true => exact flatB_app (k w (List.mem_cons_self ..)) h
    | false => exact h
theorem noLB_frW {L : Nat → Bool} {d : Nat} : ∀ {W : List WE} {fr : Fr} {i : Nat}, noLB d fr = true → (∀ j w, W[j]? = some w → L (i + j) = true → noLB d w.wr = true) → noLB d (frW L fr i W) = true
  | [], _, _, h, _ => h
  | w :: r, fr, i, h, k => by
    simp only [frW]
    refine noLB_frW (W := r) ?_ fun j w' hw hL => k (j + 1) w' hw (by rw [show i + (j + 1) = i + 1 + j by omega]; exact hL)
    cases e : L i with
    | true => exact noLB_app (k 0 w rfl e) h
    | false => exact h

def preds (o : Oper) : List Nat := (o.after.toList.filter (Region.binds .any)).map (·.on)
def clos : List Oper → List (List Nat) → List (List Nat)
  | [], acc => acc
  | o :: r, acc => clos r (acc ++ [(preds o ++ (preds o).flatMap fun k => acc.getD k []).eraseDups])
def chk1 (dep : List (List Nat)) : Nat → List Oper → Bool
  | _, [] => true
  | i, o :: r => (preds o).all (fun k => Nat.blt k i) && (dep.getD i []).all (fun x => (preds o).any fun k => Nat.beq k x || (dep.getD k []).contains x) && chk1 dep (i + 1) r
def chk3 (dep : List (List Nat)) (m : Nat) : Nat → List Oper → Bool
  | _, [] => true
  | i, _ :: r => (Nat.blt i m || (List.range m).all fun x => (dep.getD i []).contains x) && chk3 dep m (i + 1) r
def hasL (f : Lo) (k : Nat) : Bool := f.any fun p => Nat.beq p.1 k
def confl (a b : WE) : Bool := a.wr.any (fun p => hasS b.rd p.1 || hasS b.wr p.1) || (a.rd.any (fun p => hasS b.wr p.1) || (a.wl.any (fun p => hasL b.rl p.1 || hasL b.wl p.1) || (a.rl.any (fun p => hasL b.wl p.1) || (a.wo.isSome && (b.ro || b.wo.isSome) || a.ro && b.wo.isSome))))
def chk2 (dep : List (List Nat)) (W : List WE) : Bool := (List.range W.length).all fun j => (List.range j).all fun i => !(match W[i]?, W[j]? with | some a, some b => confl a b | _, _ => false) || (dep.getD j []).contains i
def okA (d : Nat) (w : WE) : Bool := noLB d w.wr && !hasL w.wl d
def chkA (dep : List (List Nat)) (fr : Fr) (lo : Lo) (W : List WE) : Bool := (List.range W.length).all fun j => match W[j]? with
  | some w => match w.al with
    | some d => noLB d fr && !hasL lo d && (List.range W.length).all fun i => Nat.beq i j || (match W[i]? with | some w' => okA d w' | none => true) || (dep.getD i []).contains j
    | none => true
  | none => true
theorem chk1_at {dep : List (List Nat)} : ∀ {l : List Oper} {i j : Nat} {o : Oper}, chk1 dep i l = true → l[j]? = some o → (∀ k ∈ preds o, k < i + j) ∧ ∀ x ∈ dep.getD (i + j) [], ∃ k ∈ preds o, k = x ∨ x ∈ dep.getD k []
  | [], _, _, _, _, h => by simp at h
  | o' :: r, i, 0, o, h, ho => by
    simp only [List.getElem?_cons_zero, Option.some.injEq] at ho; subst ho
    simp only [chk1, Bool.and_eq_true, List.all_eq_true] at h
    refine ⟨fun k hk => Nat.le_of_ble_eq_true (h.1.1 k hk), fun x hx => ?_⟩
    have := h.1.2 x hx
    rw [List.any_eq_true] at this
    obtain ⟨k, hk, h2⟩ := this
    rw [Bool.or_eq_true] at h2
    refine ⟨k, hk, h2.imp Nat.eq_of_beq_eq_true fun h => List.contains_iff_mem.1 h⟩
  | o' :: r, i, j + 1, o, h, ho => by
    simp only [chk1, Bool.and_eq_true] at h
    have := chk1_at (j := j) h.2 ho
    rw [show i + 1 + j = i + (j + 1) by omega] at this
    exact this
theorem chk3_at {dep : List (List Nat)} {m : Nat} : ∀ {l : List Oper} {i j : Nat} {o : Oper}, chk3 dep m i l = true → l[j]? = some o → m ≤ i + j → ∀ x, x < m → x ∈ dep.getD (i + j) []
  | [], _, _, _, _, h, _ => by simp at h
  | o' :: r, i, 0, o, h, ho, hm => by
    simp only [chk3, Bool.and_eq_true, Bool.or_eq_true, List.all_eq_true] at h
    intro x hx
    rcases h.1 with h1 | h1
    · have := Nat.le_of_ble_eq_true h1; omega
    · exact List.contains_iff_mem.1 (h1 x (List.mem_range.2 hx))
  | o' :: r, i, j + 1, o, h, ho, hm => by
    simp only [chk3, Bool.and_eq_true] at h
    have := chk3_at (j := j) h.2 ho (by omega)
    rw [show i + 1 + j = i + (j + 1) by omega] at this
    exact this
theorem chk2_at {dep : List (List Nat)} {W : List WE} {i j : Nat} {a b : WE} (h : chk2 dep W = true) (hi : W[i]? = some a) (hj : W[j]? = some b) (hij : i < j) (hc : confl a b = true) : i ∈ dep.getD j [] := by
  unfold chk2 at h
  rw [List.all_eq_true] at h
  have h1 := h j (List.mem_range.2 (List.getElem?_eq_some_iff.1 hj).1)
  rw [List.all_eq_true] at h1
  have h2 := h1 i (List.mem_range.2 hij)
  rw [hi, hj] at h2
  simp only [hc, Bool.not_true, Bool.false_or] at h2
  exact List.contains_iff_mem.1 h2
theorem chkA_at {dep : List (List Nat)} {fr : Fr} {lo : Lo} {W : List WE} {j d : Nat} {w : WE} (h : chkA dep fr lo W = true) (hj : W[j]? = some w) (hd : w.al = some d) : noLB d fr = true ∧ hasL lo d = false ∧ ∀ i w', i ≠ j → W[i]? = some w' → (okA d w' = true) ∨ j ∈ dep.getD i [] := by
  unfold chkA at h
  rw [List.all_eq_true] at h
  have h1 := h j (List.mem_range.2 (List.getElem?_eq_some_iff.1 hj).1)
  rw [hj] at h1
  simp only [hd, Bool.and_eq_true, Bool.not_eq_true', List.all_eq_true] at h1
  obtain ⟨⟨a, b⟩, c⟩ := h1
  refine ⟨a, b, fun i w' hne hi => ?_⟩
  have := c i (List.mem_range.2 (List.getElem?_eq_some_iff.1 hi).1)
  rw [hi] at this
  simp only [Bool.or_eq_true] at this
  rcases this with (h | h) | h
  · exact absurd (Nat.eq_of_beq_eq_true h) hne
  · exact .inl h
  · exact .inr (List.contains_iff_mem.1 h)
theorem hasS_mem {f : Fr} {s : Nat} : hasS f s = true ↔ ∃ p ∈ f, p.1 = s := by
  unfold hasS
  rw [List.any_eq_true]
  exact ⟨fun ⟨p, h, e⟩ => ⟨p, h, Nat.eq_of_beq_eq_true e⟩, fun ⟨p, h, e⟩ => ⟨p, h, by rw [e]; exact Nat.beq_refl _⟩⟩
theorem hasL_mem {f : Lo} {s : Nat} : hasL f s = true ↔ ∃ p ∈ f, p.1 = s := by
  unfold hasL
  rw [List.any_eq_true]
  exact ⟨fun ⟨p, h, e⟩ => ⟨p, h, Nat.eq_of_beq_eq_true e⟩, fun ⟨p, h, e⟩ => ⟨p, h, by rw [e]; exact Nat.beq_refl _⟩⟩
theorem hasL_look : ∀ {f : Lo} {s : Nat}, hasL f s = (lookL f s).isSome
  | [], _ => rfl
  | (j, x) :: r, s => by
    simp only [hasL, List.any_cons, lookL]
    by_cases e : j = s
    · subst e; simp [Nat.beq_refl]
    · have : Nat.beq j s = false := by cases h : Nat.beq j s with | false => rfl | true => exact absurd (Nat.eq_of_beq_eq_true h) e
      rw [if_neg e, this, Bool.false_or]
      exact hasL_look (f := r)
theorem any_of {α : Type} {f : List α} {p : α → Bool} {x : α} (h : x ∈ f) (hp : p x = true) : f.any p = true := List.any_eq_true.2 ⟨x, h, hp⟩
theorem confl_s1 {a b : WE} {s : Nat} (h1 : hasS a.wr s = true) (h2 : hasS b.rd s = true ∨ hasS b.wr s = true) : confl a b = true := by
  obtain ⟨p, hp, e⟩ := hasS_mem.1 h1
  unfold confl
  rw [any_of hp (by rw [e]; rcases h2 with h | h <;> rw [h] <;> simp)]; rfl
theorem confl_s2 {a b : WE} {s : Nat} (h1 : hasS a.rd s = true) (h2 : hasS b.wr s = true) : confl a b = true := by
  obtain ⟨p, hp, e⟩ := hasS_mem.1 h1
  unfold confl
  rw [any_of (f := a.rd) hp (by rw [e]; exact h2)]; simp
theorem confl_l1 {a b : WE} {s : Nat} (h1 : hasL a.wl s = true) (h2 : hasL b.rl s = true ∨ hasL b.wl s = true) : confl a b = true := by
  obtain ⟨p, hp, e⟩ := hasL_mem.1 h1
  unfold confl
  rw [any_of (f := a.wl) hp (by rw [e]; rcases h2 with h | h <;> rw [h] <;> simp)]; simp
theorem confl_l2 {a b : WE} {s : Nat} (h1 : hasL a.rl s = true) (h2 : hasL b.wl s = true) : confl a b = true := by
  obtain ⟨p, hp, e⟩ := hasL_mem.1 h1
  unfold confl
  rw [any_of (f := a.rl) hp (by rw [e]; exact h2)]; simp
theorem confl_o1 {a b : WE} (h1 : a.wo.isSome = true) (h2 : b.ro = true ∨ b.wo.isSome = true) : confl a b = true := by
  unfold confl
  rw [h1]; rcases h2 with h | h <;> rw [h] <;> simp
theorem confl_o2 {a b : WE} (h1 : a.ro = true) (h2 : b.wo.isSome = true) : confl a b = true := by
  unfold confl
  rw [h1, h2]; simp

def rdOK (T : Fr) : Fr → Prop
  | [] => True
  | p :: r => p.2 = getE T p.1 ∧ rdOK T r
theorem rdOK_get {T : Fr} : ∀ {rd : Fr} {s : Nat}, rdOK T rd → hasS rd s = true → getE rd s = getE T s
  | [], _, _, h => by cases h
  | (j, x) :: r, s, h, hs => by
    simp only [getE]
    cases e : Nat.beq j s with
    | true => have := Nat.eq_of_beq_eq_true e; subst this; exact h.1
    | false =>
      refine rdOK_get h.2 ?_
      simpa [hasS, e] using hs
theorem rdOK_flat {T : Fr} (hT : flatB T = true) : ∀ {rd : Fr}, rdOK T rd → flatB rd = true
  | [], _ => rfl
  | (j, x) :: r, h => by
    have h1 := flatB_get hT j
    have h2 : x = getE T j := h.1
    obtain ⟨c, v⟩ := x
    rw [← h2] at h1
    cases (show c = [] from h1)
    exact rdOK_flat (rd := r) hT h.2

def rlOK (Y : Lo) : Lo → Prop
  | [] => True
  | p :: r => lookL Y p.1 = some p.2 ∧ rlOK Y r
theorem rlOK_get {Y : Lo} : ∀ {rl : Lo} {s : Nat}, rlOK Y rl → hasL rl s = true → lookL rl s = lookL Y s
  | [], _, _, h => by cases h
  | (j, x) :: r, s, h, hs => by
    simp only [lookL]
    by_cases e : j = s
    · subst e; rw [if_pos rfl]; exact h.1.symm
    · have : Nat.beq j s = false := by cases h : Nat.beq j s with | false => rfl | true => exact absurd (Nat.eq_of_beq_eq_true h) e
      rw [if_neg e]
      exact rlOK_get h.2 (by simpa [hasL, this] using hs)

section
variable {P : Program} {n : Nat} {ops : Array Oper} {base : Nat → Option (List AV)} {o : Oper} {QE : Exit → Es → Prop} {d i r : Nat} {T rd wr : Fr} {W : List WE} {Y rl : Lo} {O : Ob} {K : Fr → Lo → Ob → List WE → Prop} {v u : AV}
/-- The operation, whatever else stands beside. -/
def OpAt (P : Program) (n : Nat) (ops : Array Oper) (base : Nat → Option (List AV)) (O : Ob) (o : Oper) (w : WE) : Prop :=
  ∀ (fr : Fr) (X : Lo) (O' : Ob), flatB fr = true → (w.ro = true → O' = O) → (∀ d, w.al = some d → noLB d fr = true ∧ lookL X d = none) →
    COps P n ops [o] ⟨w.rd ++ fr, [], w.rl ++ X, O', base⟩ fun e' => ∃ X', e' = ⟨w.wr ++ (w.rd ++ fr), [], X', w.wo.getD O', base⟩ ∧ ∀ k, lookL X' k = lookL (w.wl ++ (w.rl ++ X)) k
def Conf (P : Program) (n : Nat) (ops : Array Oper) (base : Nat → Option (List AV)) : Nat → Nat → Fr → Lo → Ob → List WE → (Fr → Lo → Ob → List WE → Prop) → Prop
  | _, 0, T, Y, O, W, K => K T Y O W
  | i, r + 1, T, Y, O, W, K => ∃ w o, ops[i]? = some o ∧ rdOK T w.rd ∧ rlOK Y w.rl ∧ flatB w.wr = true ∧ OpAt P n ops base O o w ∧ Conf P n ops base (i + 1) r (w.wr ++ T) (w.wl ++ Y) (w.wo.getD O) (W ++ [w]) K
theorem Conf.out {fr0 : Fr} {lo0 : Lo} {O0 : Ob} : ∀ {r i : Nat} {T : Fr} {Y : Lo} {O : Ob} {W : List WE}, Conf P n ops base i r T Y O W K → T = frW (fun _ => true) fr0 0 W → Y = loW (fun _ => true) lo0 0 W → O = lkW (·.wo) O0 (fun _ => true) 0 W → i = W.length →
    ∃ V, V.length = r ∧ K (frW (fun _ => true) fr0 0 (W ++ V)) (loW (fun _ => true) lo0 0 (W ++ V)) (lkW (·.wo) O0 (fun _ => true) 0 (W ++ V)) (W ++ V) ∧ ∀ j w, V[j]? = some w → ∃ o, ops[i + j]? = some o ∧ rdOK (frW (fun _ => true) fr0 0 ((W ++ V).take (i + j))) w.rd ∧
      rlOK (loW (fun _ => true) lo0 0 ((W ++ V).take (i + j))) w.rl ∧ flatB w.wr = true ∧ OpAt P n ops base (lkW (·.wo) O0 (fun _ => true) 0 ((W ++ V).take (i + j))) o w
  | 0, i, T, Y, O, W, h, hT, hY, hO, hi => ⟨[], rfl, by rw [List.append_nil, ← hT, ← hY, ← hO]; exact h, fun j w hw => by simp at hw⟩
  | r + 1, i, T, Y, O, W, ⟨w0, o, h1, h2, h2', h3, h4, h5⟩, hT, hY, hO, hi => by
    obtain ⟨V, e1, e2, e3⟩ := Conf.out (fr0 := fr0) (lo0 := lo0) (O0 := O0) h5 (by rw [frW_app, ← hT]; rfl) (by rw [loW_app, ← hY]; rfl) (by rw [lkW_app, ← hO]; rfl) (by simp [hi])
    refine ⟨w0 :: V, by simp [e1], by simpa using e2, fun j w hw => ?_⟩
    match j with
    | 0 =>
      simp only [List.getElem?_cons_zero, Option.some.injEq] at hw; subst hw
      refine ⟨o, h1, ?_, ?_, h3, ?_⟩
      · rw [Nat.add_zero, hi, List.take_left, ← hT]; exact h2
      · rw [Nat.add_zero, hi, List.take_left, ← hY]; exact h2'
      · rw [Nat.add_zero, hi, List.take_left, ← hO]; exact h4
    | j + 1 =>
      obtain ⟨o', a1, a2, a3, a4, a5⟩ := e3 j w hw
      rw [show i + 1 + j = i + (j + 1) by omega] at a1 a2 a3 a5
      exact ⟨o', a1, by simpa using a2, by simpa using a3, a4, by simpa using a5⟩

theorem RelC.same {fr fr' : Fr} {lo lo' : Lo} {O O' : Ob} {G : Gh} {a : Act} {w : World} (h : RelC P G n ⟨fr, [], lo, O, base⟩ a w) (e : ∀ s, getE fr s = getE fr' s) (e2 : ∀ k, lookL lo k = lookL lo' k) (e3 : O = O') : RelC P G n ⟨fr', [], lo', O', base⟩ a w := by
  subst e3
  refine ⟨⟨h.1.size, h.1.defers, fun i => ?_, fun k cells hk => h.1.loc k cells ((e2 k).trans hk), h.1.mem⟩, h.2⟩
  have := h.1.slot i
  rw [st_get] at this ⊢
  unfold getV at this ⊢
  rw [← e i]; exact this

def cntA (m : Nat) (L : Array Bool) : Nat := ((List.range m).filter fun i => !L.getD i false).length
theorem cntA_zero {m : Nat} {L : Array Bool} : cntA m L = 0 ↔ ∀ i, i < m → L.getD i false = true := by
  unfold cntA
  rw [List.length_eq_zero_iff, List.filter_eq_nil_iff]
  constructor
  · intro h i hi
    have := h i (List.mem_range.2 hi)
    simpa using this
  · intro h i hi
    simp [h i (List.mem_range.1 hi)]
theorem cntA_set {m i : Nat} {L : Array Bool} {k : Nat} (hi : i < m) (hL : L.getD i false = false) (hs : i < L.size) (h : cntA m L = k + 1) : cntA m (L.setIfInBounds i true) = k := by
  have key : ∀ m, cntA m L = cntA m (L.setIfInBounds i true) + (if i < m then 1 else 0) := by
    intro m
    induction m with
    | zero => simp [cntA]
    | succ m ih =>
      unfold cntA at ih ⊢
      rw [List.range_succ, List.filter_append, List.filter_append, List.length_append, List.length_append, ih]
      by_cases e : m = i
      · subst e
        have h1 : (L.setIfInBounds m true).getD m false = true := by simp [hs]
        simp only [List.filter_cons, hL, h1, List.filter_nil]
        simp
      · have h1 : (L.setIfInBounds i true).getD m false = L.getD m false := getD_set_ne false (fun h => e h.symm)
        simp only [List.filter_cons, h1, List.filter_nil]
        split <;> split <;> split <;> simp <;> omega
  have := key m
  rw [if_pos hi] at this
  omega
theorem Conf.sound {l : List Oper} {dep : List (List Nat)} {m t : Nat} {fr0 : Fr} {lo0 : Lo} {O0 : Ob} {V : List WE} {Q : Exit → Act → World → Prop} (hlen : l.length = m + t) (hV : V.length = m) (h1 : chk1 dep 0 l = true) (h3 : chk3 dep m 0 l = true) (h2 : chk2 dep V = true) (hA : chkA dep fr0 lo0 V = true) (hf0 : flatB fr0 = true)
    (hat : ∀ j w, V[j]? = some w → ∃ o, l.toArray[j]? = some o ∧ rdOK (frW (fun _ => true) fr0 0 (V.take j)) w.rd ∧ rlOK (loW (fun _ => true) lo0 0 (V.take j)) w.rl ∧ flatB w.wr = true ∧ OpAt P n l.toArray base (lkW (·.wo) O0 (fun _ => true) 0 (V.take j)) o w) :
    ∀ (k : Nat) (L : Array Bool), L.size = l.length → (∀ i, m ≤ i → L.getD i false = false) → (∀ i, L.getD i false = true → ∀ x ∈ dep.getD i [], L.getD x false = true) → cntA m L = k →
    ∀ (G : Gh) (a : Act) (w : World), RelC P G n ⟨frW (fun i => L.getD i false) fr0 0 V, [], loW (fun i => L.getD i false) lo0 0 V, lkW (·.wo) O0 (fun i => L.getD i false) 0 V, base⟩ a w → Fix G w →
    (∀ G' a' w', RelC P G' n ⟨frW (fun _ => true) fr0 0 V, [], loW (fun _ => true) lo0 0 V, lkW (·.wo) O0 (fun _ => true) 0 V, base⟩ a' w' → Keep G w G' w' → wpAny P .any l.toArray Q t (List.replicate m true ++ List.replicate t false).toArray a' w') → wpAny P .any l.toArray Q (k + t) L a w := by
  have hwf : ∀ w ∈ V, flatB w.wr = true := fun w hw => by
    obtain ⟨j, hj⟩ := List.mem_iff_getElem?.1 hw
    obtain ⟨_, _, _, _, h, _⟩ := hat j w hj
    exact h
  intro k
  induction k with
  | zero =>
    intro L hs hT hD hc G a w hr hfx hK
    rw [Nat.zero_add]
    have hall := cntA_zero.1 hc
    have eL : L = (List.replicate m true ++ List.replicate t false).toArray := by
      apply Array.ext
      · simp [hs, hlen]
      · intro i hi1 hi2
        have e1 : L[i] = L.getD i false := by simp [hi1]
        rw [e1]
        simp only [List.getElem_toArray]
        rcases Nat.lt_or_ge i m with h | h
        · rw [hall i h, List.getElem_append_left (by simpa using h)]; simp
        · rw [hT i h, List.getElem_append_right (by simpa using h)]; simp
    rw [eL]
    have hcg : ∀ {β : Type} {g : WE → Option β} {x : β}, lkW g x (fun i => L.getD i false) 0 V = lkW g x (fun _ => true) 0 V := lkW_congr fun j w' hw _ => by
      have := (List.getElem?_eq_some_iff.1 hw).1
      rw [hV] at this
      rw [Nat.zero_add]
      exact hall j this
    exact hK G a w (hr.same (fun s => by rw [getE_frW, getE_frW]; exact hcg) (fun k => by rw [look_loW, look_loW]; exact hcg) hcg) (Keep.refl _ _)
  | succ k ih =>
    intro L hs hT hD hc G a w hr hfx hK
    rw [show k + 1 + t = (k + t) + 1 by omega]
    have hin : ∀ {i : Nat} {o : Oper}, l.toArray[i]? = some o → (∀ e ∈ o.after, Region.binds .any e = true → L.getD e.on false = true) → ∀ k ∈ preds o, L.getD k false = true := by
      intro i o _ h k hk
      unfold preds at hk
      obtain ⟨e, he, rfl⟩ := List.mem_map.1 hk
      obtain ⟨h4, h5⟩ := List.mem_filter.1 he
      exact h e (by simpa using h4) h5
    refine ⟨fun e0 => ?_, fun i hi => ?_⟩
    · exfalso
      have hall : ∀ i, i < m → L.getD i false = true := by
        intro i
        induction i using Nat.strongRecOn with
        | _ i ih2 =>
          intro hi
          refine Classical.byContradiction fun hne => ?_
          have hLf : L.getD i false = false := by simpa using hne
          have hil : i < l.length := by omega
          have ho : l[i]? = some l[i] := List.getElem?_eq_getElem hil
          have hp := (chk1_at h1 ho).1
          have : i ∈ Region.ready .any l.toArray L := by
            rw [mem_ready]
            refine ⟨?_, l[i], by simp, fun e he hb => ?_⟩
            · have : i < L.size := by omega
              simpa [this] using hLf
            · have hk : e.on ∈ preds l[i] := List.mem_map.2 ⟨e, List.mem_filter.2 ⟨by simpa using he, hb⟩, rfl⟩
              have := hp _ hk
              rw [Nat.zero_add] at this
              exact ih2 _ this (by omega)
          rw [e0] at this; cases this
      rw [cntA_zero.2 hall] at hc; cases hc
    · obtain ⟨hLt, o, ho, hpre⟩ := mem_ready.1 hi
      have hpreL := hin ho hpre
      have hil : i < l.length := by simpa using (Array.getElem?_eq_some_iff.1 ho).1
      have hLf : L.getD i false = false := by
        have : i < L.size := by omega
        simpa [this] using hLt
      have hol : l[i]? = some o := by simpa using ho
      have hdep : ∀ x ∈ dep.getD i [], L.getD x false = true := by
        intro x hx
        obtain ⟨k, hk, h⟩ := (chk1_at h1 hol).2 x (by rw [Nat.zero_add]; exact hx)
        rcases h with rfl | h
        · exact hpreL _ hk
        · exact hD k (hpreL _ hk) x h
      have him : i < m := by
        refine Classical.byContradiction fun hge => ?_
        have := chk3_at h3 hol (by omega)
        rw [cntA_zero.2 fun x hx => hdep x (by have := this x hx; rw [Nat.zero_add] at this; exact this)] at hc
        cases hc
      obtain ⟨wv, hw⟩ : ∃ wv, V[i]? = some wv := ⟨_, List.getElem?_eq_getElem (by omega)⟩
      obtain ⟨o', ho', hrd, hrl, hwrf, hop⟩ := hat i wv hw
      rw [ho] at ho'; cases ho'
      -- who wrote what is met
      have hbefore : ∀ j w', V[j]? = some w' → j ≠ i → confl w' wv = true → confl wv w' = true → L.getD j false = decide (j < i) := by
        intro j w' hj hne c1 c2
        rcases Nat.lt_or_ge j i with hlt | hge
        · rw [hdep j (chk2_at h2 hj hw hlt c1)]; simp [hlt]
        · have hgt : i < j := by omega
          have hd := chk2_at h2 hw hj hgt c2
          cases hLj : L.getD j false with
          | true => rw [hD j hLj i hd] at hLf; cases hLf
          | false => simp; omega
      have hpref : ∀ {β : Type} (g : WE → Option β) (x : β), (∀ w' : WE, (g w').isSome = true → confl w' wv = true ∧ confl wv w' = true) → lkW g x (fun _ => true) 0 (V.take i) = lkW g x (fun i => L.getD i false) 0 V := by
        intro β g x hg
        rw [lkW_take]
        exact lkW_congr fun j w' hj hsj => by
          rw [Nat.zero_add, Nat.zero_add]
          by_cases e : j = i
          · subst e; rw [hLf]; simp
          · exact (hbefore j w' hj e (hg w' hsj).1 (hg w' hsj).2).symm
      have gS_some : ∀ {s : Nat} {w' : WE}, (gS s w').isSome = true → hasS w'.wr s = true := by
        intro s w' h
        unfold gS at h
        cases e : hasS w'.wr s with | true => rfl | false => rw [e] at h; cases h
      have gL_some : ∀ {s : Nat} {w' : WE}, (gL s w').isSome = true → hasL w'.wl s = true := by
        intro s w' h
        unfold gL at h
        rw [Option.isSome_map] at h
        rw [hasL_look]; exact h
      have hgetrd : ∀ s, hasS wv.rd s = true → getE wv.rd s = getE (frW (fun i => L.getD i false) fr0 0 V) s := by
        intro s hs'
        rw [rdOK_get hrd hs', getE_frW, getE_frW]
        exact hpref _ _ fun w' h => ⟨confl_s1 (gS_some h) (.inl hs'), confl_s2 hs' (gS_some h)⟩
      have hgetrl : ∀ s, hasL wv.rl s = true → lookL wv.rl s = lookL (loW (fun i => L.getD i false) lo0 0 V) s := by
        intro s hs'
        rw [rlOK_get hrl hs', look_loW, look_loW]
        exact hpref _ _ fun w' h => ⟨confl_l1 (gL_some h) (.inl hs'), confl_l2 hs' (gL_some h)⟩
      have hrr : ∀ s, getE (wv.rd ++ frW (fun i => L.getD i false) fr0 0 V) s = getE (frW (fun i => L.getD i false) fr0 0 V) s := by
        intro s
        rw [getE_app]
        cases e : hasS wv.rd s with
        | true => exact hgetrd s e
        | false => rfl
      have hll : ∀ s, lookL (wv.rl ++ loW (fun i => L.getD i false) lo0 0 V) s = lookL (loW (fun i => L.getD i false) lo0 0 V) s := by
        intro s
        rw [lookL_app]
        cases e : lookL wv.rl s with
        | some c => rw [← hgetrl s (by rw [hasL_look, e]; rfl), e]
        | none => rfl
      have hfl : flatB (frW (fun i => L.getD i false) fr0 0 V) = true := flatB_frW hf0 hwf
      have hrdf : flatB wv.rd = true := rdOK_flat (flatB_frW hf0 fun w' hw' => hwf w' (List.mem_of_mem_take hw')) hrd
      have hr2 := hr.same (fr' := wv.rd ++ frW (fun i => L.getD i false) fr0 0 V) (lo' := wv.rl ++ loW (fun i => L.getD i false) lo0 0 V) (fun s => (hrr s).symm) (fun s => (hll s).symm) rfl
      have := hop _ (loW (fun i => L.getD i false) lo0 0 V) (lkW (·.wo) O0 (fun i => L.getD i false) 0 V) hfl (fun hro => (hpref _ _ fun w' h => ⟨confl_o1 h (.inl hro), confl_o2 hro h⟩).symm)
        (fun d hd => by
          obtain ⟨b1, b2, b3⟩ := chkA_at hA hw hd
          have hno : ∀ j w', V[j]? = some w' → L.getD j false = true → okA d w' = true := by
            intro j w' hj hL
            have hne : j ≠ i := fun e => by subst e; rw [hL] at hLf; cases hLf
            rcases b3 j w' hne hj with h | h
            · exact h
            · rw [hD j hL i h] at hLf; cases hLf
          refine ⟨noLB_frW b1 fun j w' hj hL => ?_, ?_⟩
          · have := hno j w' hj (by rw [Nat.zero_add] at hL; exact hL)
            unfold okA at this
            rw [Bool.and_eq_true] at this; exact this.1
          · rw [look_loW, lkW_none, ← Option.not_isSome_iff_eq_none, ← hasL_look, b2]
            · simp
            · intro j w' hj hsj
              rw [Nat.zero_add]
              cases hL : L.getD j false with
              | false => rfl
              | true =>
                have := hno j w' hj hL
                unfold okA at this
                rw [gL_some hsj] at this
                simp at this)
        G a w (fun e a w => match e with | .normal => wpAny P .any l.toArray Q (k + t) (L.setIfInBounds i true) a w | e => Q e a w) (RelE.of hr2.1 (flatB_app hrdf hfl) hr2.2) hfx
        (fun e' G' a' w' hq hr' hk' => by
          obtain ⟨X', rfl, hX'⟩ := hq
          have hset : ∀ j, (L.setIfInBounds i true).getD j false = (L.getD j false || Nat.beq j i) := by
            intro j
            by_cases e : j = i
            · subst e
              have : j < L.size := by omega
              simp [this, Nat.beq_refl]
            · rw [getD_set_ne false (fun h => e h.symm)]
              have : Nat.beq j i = false := by cases h : Nat.beq j i with | false => rfl | true => exact absurd (Nat.eq_of_beq_eq_true h) e
              rw [this, Bool.or_false]
          have hlast : ∀ {β : Type} (g : WE → Option β) (x v : β), g wv = some v → (∀ w' : WE, (g w').isSome = true → confl w' wv = true ∧ confl wv w' = true) → lkW g x (fun j => (L.setIfInBounds i true).getD j false) 0 V = v := by
            intro β g x v hg hc
            refine lkW_last (m := i) hw hg (by rw [Nat.zero_add, hset, Nat.beq_refl, Bool.or_true]) fun j w' hj hwj hsj => ?_
            rw [Nat.zero_add, hset, hbefore j w' hwj (by omega) (hc w' hsj).1 (hc w' hsj).2]
            have : Nat.beq j i = false := by cases h : Nat.beq j i with | false => rfl | true => have := Nat.eq_of_beq_eq_true h; omega
            rw [this]; simp; omega
          have hsame : ∀ {β : Type} (g : WE → Option β) (x : β), g wv = none → lkW g x (fun j => (L.setIfInBounds i true).getD j false) 0 V = lkW g x (fun j => L.getD j false) 0 V := by
            intro β g x hg
            exact lkW_congr fun j w' hj hsj => by
              rw [Nat.zero_add, hset]
              by_cases e2 : j = i
              · subst e2; rw [hw] at hj; cases hj; rw [hg] at hsj; cases hsj
              · have : Nat.beq j i = false := by cases h : Nat.beq j i with | false => rfl | true => exact absurd (Nat.eq_of_beq_eq_true h) e2
                rw [this, Bool.or_false]
          refine ih (L.setIfInBounds i true) (by simpa using hs) (fun j hj => ?_) (fun j hj x hx => ?_) (cntA_set him hLf (by omega) hc) G' a' w' (hr'.same (fun s => ?_) (fun s => ?_) ?_) (hfx.keep hk') fun G2 a2 w2 hr2 hk2 => hK G2 a2 w2 hr2 (hk'.trans hk2)
          · rw [getD_set_ne false (by omega)]; exact hT j hj
          · rw [hset] at hj ⊢
            rw [Bool.or_eq_true] at hj ⊢
            rcases hj with hj | hj
            · exact .inl (hD j hj x hx)
            · have := Nat.eq_of_beq_eq_true hj; subst this
              exact .inl (hdep x hx)
          · show getE (wv.wr ++ (wv.rd ++ frW (fun i => L.getD i false) fr0 0 V)) s = _
            rw [getE_app, hrr, getE_frW, getE_frW]
            cases e : hasS wv.wr s with
            | true =>
              rw [cond_true]
              exact (hlast (gS s) _ _ (by unfold gS; rw [e]; rfl) fun w' h => ⟨confl_s1 (gS_some h) (.inr e), confl_s1 e (.inr (gS_some h))⟩).symm
            | false =>
              rw [cond_false]
              exact (hsame (gS s) _ (by unfold gS; rw [e]; rfl)).symm
          · rw [hX', lookL_app, hll, look_loW, look_loW]
            cases e : lookL wv.wl s with
            | some c =>
              have e' : hasL wv.wl s = true := by rw [hasL_look, e]; rfl
              exact (hlast (gL s) _ _ (by unfold gL; rw [e]; rfl) fun w' h => ⟨confl_l1 (gL_some h) (.inr e'), confl_l1 e' (.inr (gL_some h))⟩).symm
            | none => exact (hsame (gL s) _ (by unfold gL; rw [e]; rfl)).symm
          · cases e : wv.wo with
            | some c => exact (hlast (·.wo) _ _ e fun w' h => ⟨confl_o1 h (.inr (by rw [e]; rfl)), confl_o1 (by rw [e]; rfl) (.inr h)⟩).symm
            | none => exact (hsame (·.wo) _ e).symm)
      unfold wpOp
      simp only [ho]
      simp only [wpList] at this
      split at this
      · rename_i hw2
        rw [if_pos hw2]
        rcases this with h1 | h1
        · left
          unfold Oper.wp at h1 ⊢
          generalize (execOp a.eval o).run P w = r at h1 ⊢
          cases r with
          | ok nx w' => cases nx <;> exact h1
          | halt x w' => cases x <;> exact h1
        · right; exact h1
      · rename_i hw2
        rw [if_neg hw2]; exact this
def confB (l : List Oper) (m : Nat) : Bool := Nat.ble m l.length && chk1 (clos l []) 0 l && chk3 (clos l []) m 0 l && Region.seqB .any l.toArray (l.length - m) m (List.replicate m true ++ List.replicate (l.length - m) false).toArray
/-- A region whose first m operations may come in any order. -/
theorem CWp.conf {l : List Oper} {fr : Fr} {lo : Lo} {O : Ob} {id : Nat} (m : Nat) (hB : confB l m = true) (h : Conf P n l.toArray base 0 m fr lo O [] fun T Y O W => (chk2 (clos l []) W && chkA (clos l []) fr lo W) = true ∧ COps P n l.toArray (l.drop m) ⟨T, [], Y, O, base⟩ (QE .normal)) (hm : P.follows .mixedOrders = true := by rfl) (hf : flatB fr = true := by rfl) : CWp P n (.region id l.toArray true) ⟨fr, [], lo, O, base⟩ QE := by
  intro G a w K hr hfx hK
  refine wp_region_any hm ?_
  unfold confB at hB
  simp only [Bool.and_eq_true] at hB
  obtain ⟨⟨⟨b1, b2⟩, b3⟩, b4⟩ := hB
  have hle := Nat.le_of_ble_eq_true b1
  obtain ⟨V, e1, ⟨e2, e3⟩, e4⟩ := Conf.out (fr0 := fr) (lo0 := lo) (O0 := O) h rfl rfl rfl rfl
  simp only [List.nil_append, Nat.zero_add] at e2 e3 e4
  rw [Bool.and_eq_true] at e2
  obtain ⟨hr1, hk1⟩ : RelC P G n ⟨fr, [], lo, O, base⟩ a { w with drawn := w.drawn + 1 } ∧ Keep G w G { w with drawn := w.drawn + 1 } := by
    obtain ⟨h1, h2⟩ := hr.1.later (world_drawn w)
    exact ⟨⟨h1, hr.2⟩, h2⟩
  have e5 : l.toArray.size = m + (l.length - m) := by simp; omega
  rw [e5]
  have hfl : flatB (frW (fun _ => true) fr 0 V) = true := flatB_frW hf fun w hw => by
    obtain ⟨j, hj⟩ := List.mem_iff_getElem?.1 hw
    obtain ⟨_, _, _, _, h, _⟩ := e4 j w hj
    exact h
  have hrep : ∀ i, (Array.replicate (m + (l.length - m)) false).getD i false = false := fun i => by simp [Array.getElem?_replicate]; split <;> rfl
  have h0 : ∀ {β : Type} {g : WE → Option β} {x : β}, lkW g x (fun i => (Array.replicate (m + (l.length - m)) false).getD i false) 0 V = x := lkW_none fun j _ _ _ => hrep _
  refine Conf.sound (t := l.length - m) (by omega) e1 b2 b3 e2.1 e2.2 hf e4 m _ (by simp; omega) (fun i _ => hrep i) (fun i hi => by rw [hrep] at hi; cases hi) ?_ G a _ (hr1.same (fun s => by rw [getE_frW, h0]) (fun s => by rw [look_loW, h0]) h0.symm) (hfx.keep hk1) fun G' a' w' hr' hk' => ?_
  · unfold cntA
    rw [List.filter_eq_self.2 fun i _ => by rw [hrep]; rfl]
    simp
  · have e6 : l.length - m = (l.drop m).length := by simp
    have := e3 G' a' w' K (RelE.of hr'.1 hfl hr'.2) ((hfx.keep hk1).keep hk') fun e' G2 a2 w2 hq hr2 hk2 => hK _ _ _ _ _ hq hr2 (hk1.trans (hk'.trans hk2))
    rw [e6] at b4 ⊢
    exact wpAny_of_seq (l.drop m) m _ a' w' (fun j => by simp) b4 this

theorem Conf.nil (h : K T Y O W) : Conf P n ops base i 0 T Y O W K := h
/-- One that writes slots alone. -/
theorem cfw (ho : ops[i]? = some o) (rd : Fr) (rl : Lo) (ro : Bool) (hr : rdOK T rd) (hl : rlOK Y rl) (h : ∀ fr X O', flatB fr = true → (ro = true → O' = O) → COps P n ops [o] ⟨rd ++ fr, [], rl ++ X, O', base⟩ fun e' => e' = ⟨wr ++ (rd ++ fr), [], rl ++ X, O', base⟩) (k : Conf P n ops base (i + 1) r (wr ++ T) Y O (W ++ [⟨rd, wr, rl, [], none, ro, none⟩]) K) (hw : flatB wr = true := by rfl) : Conf P n ops base i (r + 1) T Y O W K :=
  ⟨⟨rd, wr, rl, [], none, ro, none⟩, o, ho, hr, hl, hw, fun fr X O' hf hO _ => by
    intro G a w K' hr hfx hK
    exact h fr X O' hf hO G a w K' hr hfx fun e' G' a' w' hq => hK e' G' a' w' ⟨_, hq, fun _ => rfl⟩, k⟩
theorem cf1 (ho : ops[i]? = some o) (rd : Fr) (rl : Lo) (hr : rdOK T rd) (hl : rlOK Y rl) (h : ∀ fr X O', flatB fr = true → COps P n ops [o] ⟨rd ++ fr, [], rl ++ X, O', base⟩ fun e' => e' = ⟨(d, [], v) :: (rd ++ fr), [], rl ++ X, O', base⟩) (k : Conf P n ops base (i + 1) r ((d, [], v) :: T) Y O (W ++ [⟨rd, [(d, [], v)], rl, [], none, false, none⟩]) K) : Conf P n ops base i (r + 1) T Y O W K :=
  cfw (wr := [(d, [], v)]) ho rd rl false hr hl (fun fr X O' hf _ => h fr X O' hf) k
theorem cf2 {s : Nat} (ho : ops[i]? = some o) (rd : Fr) (rl : Lo) (hr : rdOK T rd) (hl : rlOK Y rl) (h : ∀ fr X O', flatB fr = true → COps P n ops [o] ⟨rd ++ fr, [], rl ++ X, O', base⟩ fun e' => e' = ⟨(d, [], v) :: (s, [], u) :: (rd ++ fr), [], rl ++ X, O', base⟩) (k : Conf P n ops base (i + 1) r ((d, [], v) :: (s, [], u) :: T) Y O (W ++ [⟨rd, [(d, [], v), (s, [], u)], rl, [], none, false, none⟩]) K) : Conf P n ops base i (r + 1) T Y O W K :=
  cfw (wr := [(d, [], v), (s, [], u)]) ho rd rl false hr hl (fun fr X O' hf _ => h fr X O' hf) k
/-- One that stores to a block. -/
theorem cfs {cs cs' : List AV} {k0 : Nat} (ho : ops[i]? = some o) (rd : Fr) (hr : rdOK T rd) (hl : lookL Y k0 = some cs) (h : ∀ fr X O', flatB fr = true → COps P n ops [o] ⟨rd ++ fr, [], (k0, cs) :: X, O', base⟩ fun e' => e' = ⟨wr ++ (rd ++ fr), [], (k0, cs') :: (k0, cs) :: X, O', base⟩) (k : Conf P n ops base (i + 1) r (wr ++ T) ((k0, cs') :: Y) O (W ++ [⟨rd, wr, [(k0, cs)], [(k0, cs')], none, false, none⟩]) K) (hw : flatB wr = true := by rfl) : Conf P n ops base i (r + 1) T Y O W K :=
  ⟨⟨rd, wr, [(k0, cs)], [(k0, cs')], none, false, none⟩, o, ho, hr, ⟨hl, trivial⟩, hw, fun fr X O' hf hO _ => by
    intro G a w K' hr hfx hK
    exact h fr X O' hf G a w K' hr hfx fun e' G' a' w' hq => hK e' G' a' w' ⟨_, hq, fun _ => rfl⟩, k⟩
def opSlots : List Operand → List Nat
  | [] => []
  | .tmp t :: r => t :: opSlots r
  | _ :: r => opSlots r
def rdsF {α : Type _} (T : Fr) : List Nat → (Fr → α) → α
  | [], k => k []
  | s :: r, k => (getV T [] s).force fun v => rdsF T r fun f => k ((s, [], v) :: f)
theorem rdsF_eq {α : Type _} (T : Fr) : ∀ (l : List Nat) (k : Fr → α), rdsF T l k = k (l.map fun s => (s, [], getV T [] s))
  | [], _ => rfl
  | s :: r, k => by simp only [rdsF, AV.force_eq, List.map_cons]; rw [rdsF_eq T r]
theorem rdOK_map (hT : flatB T = true) : ∀ l : List Nat, rdOK T (l.map fun s => (s, [], getV T [] s))
  | [] => trivial
  | s :: r => ⟨by
      have := flatB_get hT s
      show (([] : Cnd), getV T [] s) = getE T s
      unfold getV valE
      rw [show (subC (getE T s).1 [] = true) by rw [this]; rfl, cond_true]
      exact Prod.ext this.symm rfl, rdOK_map hT r⟩
/-- Plain ones; rl: the blocks that are read. -/
theorem cfp [I : HasTab P] {q : List (Nat × Nat)} {H' : List Nat} (ho : ops[i]? = some o) (H : List Nat) (rl : Lo) (hs : rdsF T (opSlots o.op.operands.toList) (fun f => some f) = some rd) (hl : rlOK Y rl) (h : ∀ fr X O', stepE (HasTab.T P) (HasTab.Z P) n ops [] H ⟨rd ++ fr, [], rl ++ X, O', base⟩ o = some (⟨(d, [], v) :: (rd ++ fr), [], rl ++ X, O', base⟩, q, H')) (hq : allEq q) (k : Conf P n ops base (i + 1) r ((d, [], v) :: T) Y O (W ++ [⟨rd, [(d, [], v)], rl, [], none, false, none⟩]) K) (hT : flatB T = true := by rfl) : Conf P n ops base i (r + 1) T Y O W K := by
  rw [rdsF_eq] at hs
  cases hs
  exact cfw (wr := [(d, [], v)]) ho _ rl false (rdOK_map hT _) hl (fun fr X O' _ _ => stepE_ok I.tok I.zok (h fr X O') hq (COps.nil rfl)) k
theorem cfq [I : HasTab P] {H' : List Nat} (ho : ops[i]? = some o) (hs : rdsF T (opSlots o.op.operands.toList) (fun f => some f) = some rd) (h : ∀ fr X O', stepE (HasTab.T P) (HasTab.Z P) n ops [] [] ⟨rd ++ fr, [], [] ++ X, O', base⟩ o = some (⟨(d, [], v) :: (rd ++ fr), [], [] ++ X, O', base⟩, [], H')) (k : Conf P n ops base (i + 1) r ((d, [], v) :: T) Y O (W ++ [⟨rd, [(d, [], v)], [], [], none, false, none⟩]) K) (hT : flatB T = true := by rfl) : Conf P n ops base i (r + 1) T Y O W K :=
  cfp ho [] [] hs trivial h trivial k hT
theorem sbF : ∀ {A B : Fr}, flatB A = true → flatB B = true → subF [] (A ++ B) = true
  | [], [], _, _ => rfl
  | [], (_, [], _) :: r, _, h => sbF (A := []) (B := r) rfl h
  | [], (_, _ :: _, _) :: _, _, h => by cases h
  | (_, [], _) :: r, B, h, k => sbF (A := r) h k
  | (_, _ :: _, _) :: _, _, h, _ => by cases h
/-- A list that is made. -/
theorem cfb [I : HasTab P] (ho : ops[i]? = some o) (hs : rdsF T (opSlots o.op.operands.toList) (fun f => some f) = some rd) (h : ∀ fr X O', stepE (HasTab.T P) (HasTab.Z P) n ops [] [] ⟨rd ++ fr, [], X, O', base⟩ o = ok0 (sPut n ⟨rd ++ fr, [], X, O', base⟩ d [] (some v)) []) (hp : ∀ fr X O', putE n ⟨rd ++ fr, [], X, O', base⟩ d [] (some v) = some ⟨(d, [], v) :: (rd ++ fr), [], X, O', base⟩) (k : Conf P n ops base (i + 1) r ((d, [], v) :: T) Y O (W ++ [⟨rd, [(d, [], v)], [], [], none, false, none⟩]) K) (hT : flatB T = true := by rfl) : Conf P n ops base i (r + 1) T Y O W K := by
  rw [rdsF_eq] at hs
  cases hs
  have hr := rdOK_map hT (opSlots o.op.operands.toList)
  refine cfw (wr := [(d, [], v)]) ho _ [] false hr trivial (fun fr X O' hf _ => stepE_ok I.tok I.zok (q := []) (H' := []) ((h fr X O').trans ?_) trivial (COps.nil rfl)) k
  unfold sPut
  have e : subF [] ((List.map (fun s => (s, [], getV T [] s)) (opSlots o.op.operands.toList)) ++ fr) = true := sbF (rdOK_flat hT hr) hf
  simp only [e, truths, Bool.and_self, cond_true]
  rw [hp]; rfl
end
end
section
open Go.RowKit

section
variable {P : Program} {n : Nat} {ops : Array Oper} {base : Nat → Option (List AV)} {o : Oper} {QE : Exit → Es → Prop} {d i r : Nat} {T rd wr fr0 : Fr} {W : List WE} {Y rl lo0 : Lo} {O O0 : Ob} {K : Fr → Lo → Ob → List WE → Prop} {v u : AV} {π : List Nat} {dep : List (List Nat)} {Q : Exit → Act → World → Prop}
def at' (π : List Nat) (k : Nat) : Nat := π.getD k 0
def chkP (π : List Nat) (m : Nat) : Bool := (Nat.beq π.length m && (List.range m).all (fun k => Nat.blt (at' π k) m)) && (List.range m).all (fun i => π.contains i) && (List.range m).all fun k => (List.range k).all fun j => !Nat.beq (at' π j) (at' π k)
def chk2P (π : List Nat) (dep : List (List Nat)) (W : List WE) : Bool := (List.range W.length).all fun j => (List.range j).all fun i => !(match W[i]?, W[j]? with | some a, some b => confl a b | _, _ => false) || (dep.getD (at' π j) []).contains (at' π i)
def chkAP (π : List Nat) (dep : List (List Nat)) (fr : Fr) (lo : Lo) (W : List WE) : Bool := (List.range W.length).all fun j => match W[j]? with
  | some w => match w.al with
    | some d => noLB d fr && !hasL lo d && (List.range W.length).all fun i => Nat.beq i j || (match W[i]? with | some w' => okA d w' | none => true) || (dep.getD (at' π i) []).contains (at' π j)
    | none => true
  | none => true
def chkN (π : List Nat) (dep : List (List Nat)) (m k : Nat) : Bool := (List.range m).all fun j => Nat.ble j k || (dep.getD (at' π j) []).contains (at' π k)
theorem chk2P_at {i j : Nat} {a b : WE} (h : chk2P π dep W = true) (hi : W[i]? = some a) (hj : W[j]? = some b) (hij : i < j) (hc : confl a b = true) : at' π i ∈ dep.getD (at' π j) [] := by
  unfold chk2P at h
  rw [List.all_eq_true] at h
  have h1 := h j (List.mem_range.2 (List.getElem?_eq_some_iff.1 hj).1)
  rw [List.all_eq_true] at h1
  have h2 := h1 i (List.mem_range.2 hij)
  rw [hi, hj] at h2
  simp only [hc, Bool.not_true, Bool.false_or] at h2
  exact List.contains_iff_mem.1 h2
theorem chkAP_at {fr : Fr} {lo : Lo} {j d : Nat} {w : WE} (h : chkAP π dep fr lo W = true) (hj : W[j]? = some w) (hd : w.al = some d) : noLB d fr = true ∧ hasL lo d = false ∧ ∀ i w', i ≠ j → W[i]? = some w' → (okA d w' = true) ∨ at' π j ∈ dep.getD (at' π i) [] := by
  unfold chkAP at h
  rw [List.all_eq_true] at h
  have h1 := h j (List.mem_range.2 (List.getElem?_eq_some_iff.1 hj).1)
  rw [hj] at h1
  simp only [hd, Bool.and_eq_true, Bool.not_eq_true', List.all_eq_true] at h1
  obtain ⟨⟨a, b⟩, c⟩ := h1
  refine ⟨a, b, fun i w' hne hi => ?_⟩
  have := c i (List.mem_range.2 (List.getElem?_eq_some_iff.1 hi).1)
  rw [hi] at this
  simp only [Bool.or_eq_true] at this
  rcases this with (h | h) | h
  · exact absurd (Nat.eq_of_beq_eq_true h) hne
  · exact .inl h
  · exact .inr (List.contains_iff_mem.1 h)
theorem chkP_at {m : Nat} (h : chkP π m = true) : (π.length = m ∧ ∀ k, k < m → at' π k < m) ∧ (∀ i, i < m → ∃ k, k < m ∧ at' π k = i) ∧ ∀ j k, j < m → k < m → at' π j = at' π k → j = k := by
  unfold chkP at h
  simp only [Bool.and_eq_true, List.all_eq_true, Bool.not_eq_true'] at h
  obtain ⟨⟨⟨h1, h1'⟩, h2⟩, h3⟩ := h
  have hl := Nat.eq_of_beq_eq_true h1
  refine ⟨⟨hl, fun k hk => Nat.le_of_ble_eq_true (h1' k (List.mem_range.2 hk))⟩, fun i hi => ?_, fun j k hj hk e => ?_⟩
  · have := List.contains_iff_mem.1 (h2 i (List.mem_range.2 hi))
    obtain ⟨k, hk⟩ := List.mem_iff_getElem?.1 this
    have hkl := (List.getElem?_eq_some_iff.1 hk).1
    exact ⟨k, by omega, by unfold at'; rw [List.getD_eq_getElem?_getD, hk]; rfl⟩
  · have key : ∀ {j k : Nat}, j < k → k < m → at' π j ≠ at' π k := fun {j k} hjk hk e => by
      have := h3 k (List.mem_range.2 hk) j (List.mem_range.2 hjk)
      rw [e, Nat.beq_refl] at this; cases this
    rcases Nat.lt_trichotomy j k with h | h | h
    · exact absurd e (key h hk)
    · exact h
    · exact absurd e.symm (key h hj)
theorem chkN_at {m k j : Nat} (h : chkN π dep m k = true) (hj : j < m) (hk : k < j) : at' π k ∈ dep.getD (at' π j) [] := by
  unfold chkN at h
  rw [List.all_eq_true] at h
  have := h j (List.mem_range.2 hj)
  rw [Bool.or_eq_true] at this
  rcases this with h | h
  · have := Nat.le_of_ble_eq_true h; omega
  · exact List.contains_iff_mem.1 h
/-- What is done, by our places. -/
def Lp (π : List Nat) (L : Array Bool) (k : Nat) : Bool := L.getD (at' π k) false
/-- What a place's operation is told to do. -/
def Fact (P : Program) (n : Nat) (ops : Array Oper) (base : Nat → Option (List AV)) (π : List Nat) (fr0 : Fr) (lo0 : Lo) (O0 : Ob) (W : List WE) (j : Nat) (w : WE) : Prop := ∃ o, ops[at' π j]? = some o ∧ rdOK (frW (fun _ => true) fr0 0 (W.take j)) w.rd ∧ rlOK (loW (fun _ => true) lo0 0 (W.take j)) w.rl ∧ OpAt P n ops base (lkW (·.wo) O0 (fun _ => true) 0 (W.take j)) o w
/-- The known operations, in any order. -/
structure YInv (π : List Nat) (dep : List (List Nat)) (m : Nat) (W : List WE) (L : Array Bool) : Prop where
  size : L.size = m
  sub : ∀ k, k < m → W.length ≤ k → Lp π L k = false
  dep : ∀ i, L.getD i false = true → ∀ x ∈ dep.getD i [], L.getD x false = true
/-- What may be read of an operation's places, is there. -/
theorem reads_there {l : List Oper} {L : Array Bool} {k : Nat} {wv : WE} (_h1 : chk1 dep 0 l = true) {W' : List WE} (hk : W'[k]? = some wv) (h2 : chk2P π dep W' = true) (hI : YInv π dep l.length W' L) (hnot : Lp π L k = false) (hd : ∀ x ∈ dep.getD (at' π k) [], L.getD x false = true) :
    (∀ {β : Type} (g : WE → Option β) (x : β), (∀ w' : WE, (g w').isSome = true → confl w' wv = true ∧ confl wv w' = true) → lkW g x (fun _ => true) 0 (W'.take k) = lkW g x (Lp π L) 0 W') ∧
    (∀ j w', W'[j]? = some w' → j ≠ k → confl w' wv = true → confl wv w' = true → Lp π L j = decide (j < k)) := by
  have hbefore : ∀ j w', W'[j]? = some w' → j ≠ k → confl w' wv = true → confl wv w' = true → Lp π L j = decide (j < k) := by
    intro j w' hj hne c1 c2
    rcases Nat.lt_or_ge j k with hlt | hge
    · have := hd _ (chk2P_at h2 hj hk hlt c1)
      unfold Lp; rw [this]; simp [hlt]
    · have hgt : k < j := by omega
      have hdj := chk2P_at h2 hk hj hgt c2
      cases hLj : Lp π L j with
      | true =>
        have := hI.dep _ hLj _ hdj
        unfold Lp at hnot; rw [this] at hnot; cases hnot
      | false => simp; omega
  refine ⟨fun {β} g x hg => ?_, hbefore⟩
  rw [lkW_take]
  exact lkW_congr fun j w' hj hsj => by
    rw [Nat.zero_add, Nat.zero_add]
    by_cases e : j = k
    · subst e; rw [hnot]; simp
    · exact (hbefore j w' hj e (hg w' hsj).1 (hg w' hsj).2).symm
theorem gS_some {s : Nat} {w' : WE} (h : (gS s w').isSome = true) : hasS w'.wr s = true := by
  unfold gS at h
  cases e : hasS w'.wr s with | true => rfl | false => rw [e] at h; cases h
theorem gL_some {s : Nat} {w' : WE} (h : (gL s w').isSome = true) : hasL w'.wl s = true := by
  unfold gL at h
  rw [Option.isSome_map] at h
  rw [hasL_look]; exact h
/-- The step of an operation that is known or new: the state it meets. -/
theorem meets {l : List Oper} {L : Array Bool} {k : Nat} {wv : WE} {W' : List WE} (h1 : chk1 dep 0 l = true) (hk : W'[k]? = some wv) (h2 : chk2P π dep W' = true) (hI : YInv π dep l.length W' L) (hnot : Lp π L k = false) (hd : ∀ x ∈ dep.getD (at' π k) [], L.getD x false = true) (hf0 : flatB fr0 = true) (hwf : ∀ w ∈ W', flatB w.wr = true)
    (hrd : rdOK (frW (fun _ => true) fr0 0 (W'.take k)) wv.rd) (hrl : rlOK (loW (fun _ => true) lo0 0 (W'.take k)) wv.rl) :
    (∀ s, getE (wv.rd ++ frW (Lp π L) fr0 0 W') s = getE (frW (Lp π L) fr0 0 W') s) ∧ (∀ s, lookL (wv.rl ++ loW (Lp π L) lo0 0 W') s = lookL (loW (Lp π L) lo0 0 W') s) ∧ flatB (wv.rd ++ frW (Lp π L) fr0 0 W') = true ∧ (wv.ro = true → lkW (·.wo) O0 (Lp π L) 0 W' = lkW (·.wo) O0 (fun _ => true) 0 (W'.take k)) := by
  have hpref : ∀ {β : Type} (g : WE → Option β) (x : β), (∀ w' : WE, (g w').isSome = true → confl w' wv = true ∧ confl wv w' = true) → lkW g x (fun _ => true) 0 (W'.take k) = lkW g x (Lp π L) 0 W' := fun g x hg => (reads_there h1 hk h2 hI hnot hd).1 g x hg
  have hgetrd : ∀ s, hasS wv.rd s = true → getE wv.rd s = getE (frW (Lp π L) fr0 0 W') s := by
    intro s hs'
    rw [rdOK_get hrd hs', getE_frW, getE_frW]
    exact hpref _ _ fun w' h => ⟨confl_s1 (gS_some h) (.inl hs'), confl_s2 hs' (gS_some h)⟩
  have hgetrl : ∀ s, hasL wv.rl s = true → lookL wv.rl s = lookL (loW (Lp π L) lo0 0 W') s := by
    intro s hs'
    rw [rlOK_get hrl hs', look_loW, look_loW]
    exact hpref _ _ fun w' h => ⟨confl_l1 (gL_some h) (.inl hs'), confl_l2 hs' (gL_some h)⟩
  refine ⟨fun s => ?_, fun s => ?_, flatB_app (rdOK_flat (flatB_frW hf0 fun w' hw' => hwf w' (List.mem_of_mem_take hw')) hrd) (flatB_frW hf0 hwf), fun hro => (hpref _ _ fun w' h => ⟨confl_o1 h (.inl hro), confl_o2 hro h⟩).symm⟩
  · rw [getE_app]
    cases e : hasS wv.rd s with
    | true => exact hgetrd s e
    | false => rfl
  · rw [lookL_app]
    cases e : lookL wv.rl s with
    | some c => rw [← hgetrl s (by rw [hasL_look, e]; rfl), e]
    | none => rfl
/-- The state behind it. -/
theorem yleaves {l : List Oper} {L : Array Bool} {k : Nat} {wv : WE} {W' : List WE} (hP : chkP π l.length = true) (h1 : chk1 dep 0 l = true) (hk : W'[k]? = some wv) (hkl : k < l.length) (hWl : W'.length ≤ l.length) (h2 : chk2P π dep W' = true) (hI : YInv π dep l.length W' L) (hnot : Lp π L k = false) (hd : ∀ x ∈ dep.getD (at' π k) [], L.getD x false = true) :
    (∀ s, (bif hasS wv.wr s then getE wv.wr s else getE (frW (Lp π L) fr0 0 W') s) = getE (frW (Lp π (L.setIfInBounds (at' π k) true)) fr0 0 W') s) ∧ (∀ s, (match lookL wv.wl s with | some c => some c | none => lookL (loW (Lp π L) lo0 0 W') s) = lookL (loW (Lp π (L.setIfInBounds (at' π k) true)) lo0 0 W') s) ∧
      wv.wo.getD (lkW (·.wo) O0 (Lp π L) 0 W') = lkW (·.wo) O0 (Lp π (L.setIfInBounds (at' π k) true)) 0 W' ∧ YInv π dep l.length W' (L.setIfInBounds (at' π k) true) := by
  obtain ⟨hpl, hps, hpi⟩ := chkP_at hP
  have hbefore := (reads_there h1 hk h2 hI hnot hd).2
  have hsz : at' π k < L.size := by
    rw [hI.size]; exact hpl.2 k hkl
  have hset : ∀ j, j < l.length → Lp π (L.setIfInBounds (at' π k) true) j = (Lp π L j || Nat.beq j k) := by
    intro j hj
    unfold Lp
    by_cases e : j = k
    · subst e; simp [hsz, Nat.beq_refl]
    · rw [getD_set_ne false (fun h => e (hpi _ _ hj hkl h.symm))]
      have : Nat.beq j k = false := by cases h : Nat.beq j k with | false => rfl | true => exact absurd (Nat.eq_of_beq_eq_true h) e
      rw [this, Bool.or_false]
  have hlt : ∀ {j : Nat} {w' : WE}, W'[j]? = some w' → j < l.length := fun h => by have := (List.getElem?_eq_some_iff.1 h).1; omega
  have hlast : ∀ {β : Type} (g : WE → Option β) (x v : β), g wv = some v → (∀ w' : WE, (g w').isSome = true → confl w' wv = true ∧ confl wv w' = true) → lkW g x (Lp π (L.setIfInBounds (at' π k) true)) 0 W' = v := by
    intro β g x v hg hc
    refine lkW_last (m := k) hk hg (by rw [Nat.zero_add, hset k hkl, Nat.beq_refl, Bool.or_true]) fun j w' hj hwj hsj => ?_
    rw [Nat.zero_add, hset j (hlt hwj), hbefore j w' hwj (by omega) (hc w' hsj).1 (hc w' hsj).2]
    have : Nat.beq j k = false := by cases h : Nat.beq j k with | false => rfl | true => have := Nat.eq_of_beq_eq_true h; omega
    rw [this]; simp; omega
  have hsame : ∀ {β : Type} (g : WE → Option β) (x : β), g wv = none → lkW g x (Lp π (L.setIfInBounds (at' π k) true)) 0 W' = lkW g x (Lp π L) 0 W' := by
    intro β g x hg
    exact lkW_congr fun j w' hj hsj => by
      rw [Nat.zero_add, hset j (hlt hj)]
      by_cases e2 : j = k
      · subst e2; rw [hk] at hj; cases hj; rw [hg] at hsj; cases hsj
      · have : Nat.beq j k = false := by cases h : Nat.beq j k with | false => rfl | true => exact absurd (Nat.eq_of_beq_eq_true h) e2
        rw [this, Bool.or_false]
  refine ⟨fun s => ?_, fun s => ?_, ?_, ⟨by simpa using hI.size, fun j hj hge => ?_, fun j hj x hx => ?_⟩⟩
  · rw [getE_frW, getE_frW]
    cases e : hasS wv.wr s with
    | true => exact (hlast (gS s) _ _ (by unfold gS; rw [e]; rfl) fun w' h => ⟨confl_s1 (gS_some h) (.inr e), confl_s1 e (.inr (gS_some h))⟩).symm
    | false => exact (hsame (gS s) _ (by unfold gS; rw [e]; rfl)).symm
  · rw [look_loW, look_loW]
    cases e : lookL wv.wl s with
    | some c =>
      have e' : hasL wv.wl s = true := by rw [hasL_look, e]; rfl
      exact (hlast (gL s) _ _ (by unfold gL; rw [e]; rfl) fun w' h => ⟨confl_l1 (gL_some h) (.inr e'), confl_l1 e' (.inr (gL_some h))⟩).symm
    | none => exact (hsame (gL s) _ (by unfold gL; rw [e]; rfl)).symm
  · cases e : wv.wo with
    | some c => exact (hlast (·.wo) _ _ e fun w' h => ⟨confl_o1 h (.inr (by rw [e]; rfl)), confl_o1 (by rw [e]; rfl) (.inr h)⟩).symm
    | none => exact (hsame (·.wo) _ e).symm
  · rw [hset j hj, hI.sub j hj hge]
    have hkW := (List.getElem?_eq_some_iff.1 hk).1
    have : Nat.beq j k = false := by cases h : Nat.beq j k with | false => rfl | true => have := Nat.eq_of_beq_eq_true h; omega
    rw [this]; rfl
  · by_cases e : j = at' π k
    · subst e
      exact getD_set_true (hd x hx)
    · rw [getD_set_ne false (fun h => e h.symm)] at hj
      exact getD_set_true (hI.dep j hj x hx)
/-- The operation, which makes names. -/
def OpAtG (P : Program) (n : Nat) (ops : Array Oper) (base : Nat → Option (List AV)) (O : Ob) (o : Oper) {ι : Type} (g0 : ι) (w : ι → WE) : Prop :=
  ∀ (fr : Fr) (X : Lo) (O' : Ob), flatB fr = true → ((w g0).ro = true → O' = O) →
    COps P n ops [o] ⟨(w g0).rd ++ fr, [], (w g0).rl ++ X, O', base⟩ fun e' => ∃ g X', e' = ⟨(w g).wr ++ ((w g0).rd ++ fr), [], X', (w g).wo.getD O', base⟩ ∧ ∀ k, lookL X' k = lookL ((w g).wl ++ ((w g0).rl ++ X)) k
def ConfG (P : Program) (n : Nat) (ops : Array Oper) (base : Nat → Option (List AV)) (π : List Nat) (dep : List (List Nat)) (fr0 : Fr) (lo0 : Lo) : Nat → Fr → Lo → Ob → List WE → (Fr → Lo → Ob → Prop) → Prop
  | 0, T, Y, O, W, K => (chk2P π dep W && chkAP π dep fr0 lo0 W) = true ∧ K T Y O
  | r + 1, T, Y, O, W, K => (∃ w o, ops[at' π W.length]? = some o ∧ rdOK T w.rd ∧ rlOK Y w.rl ∧ flatB w.wr = true ∧ OpAt P n ops base O o w ∧ ConfG P n ops base π dep fr0 lo0 r (w.wr ++ T) (w.wl ++ Y) (w.wo.getD O) (W ++ [w]) K) ∨
    (∃ (ι : Type) (g0 : ι) (w : ι → WE) (o : Oper), ops[at' π W.length]? = some o ∧ rdOK T (w g0).rd ∧ rlOK Y (w g0).rl ∧ OpAtG P n ops base O o g0 w ∧ chkN π dep (W.length + r + 1) W.length = true ∧
      (∀ g, (w g).rd = (w g0).rd ∧ (w g).rl = (w g0).rl ∧ (w g).ro = (w g0).ro ∧ flatB (w g).wr = true ∧ (chk2P π dep (W ++ [w g]) && chkAP π dep fr0 lo0 (W ++ [w g])) = true) ∧ ∀ g, ConfG P n ops base π dep fr0 lo0 r ((w g).wr ++ T) ((w g).wl ++ Y) ((w g).wo.getD O) (W ++ [w g]) K)
theorem chk2P_pre {wv : WE} (h : chk2P π dep (W ++ [wv]) = true) : chk2P π dep W = true := by
  unfold chk2P at h ⊢
  rw [List.all_eq_true] at h ⊢
  intro j hj
  have hjl := List.mem_range.1 hj
  have h1 := h j (List.mem_range.2 (by simp; omega))
  rw [List.all_eq_true] at h1 ⊢
  intro i hi
  have hil := List.mem_range.1 hi
  have h2 := h1 i hi
  rw [List.getElem?_append_left (by omega), List.getElem?_append_left (by omega)] at h2
  exact h2
theorem chkAP_pre {wv : WE} {fr : Fr} {lo : Lo} (h : chkAP π dep fr lo (W ++ [wv]) = true) : chkAP π dep fr lo W = true := by
  unfold chkAP at h ⊢
  rw [List.all_eq_true] at h ⊢
  intro j hj
  have hjl := List.mem_range.1 hj
  have h1 := h j (List.mem_range.2 (by simp; omega))
  rw [List.getElem?_append_left hjl] at h1
  split
  · rename_i w hw
    rw [hw] at h1
    simp only at h1
    split
    · rename_i d hd
      rw [hd] at h1
      simp only [Bool.and_eq_true, List.all_eq_true] at h1 ⊢
      refine ⟨h1.1, fun i hi => ?_⟩
      have hil := List.mem_range.1 hi
      have := h1.2 i (List.mem_range.2 (by simp; omega))
      rw [List.getElem?_append_left hil] at this
      exact this
    · rfl
  · rfl
/-- All that is known runs, in any order; and what comes when all is done, or when a new name is made. -/
theorem known {l : List Oper} {W : List WE} {K : Fr → Lo → Ob → Prop} {Q : Exit → Act → World → Prop} (hP : chkP π l.length = true) (h1 : chk1 dep 0 l = true) (hWl : W.length ≤ l.length) (h2 : chk2P π dep W = true) (hA : chkAP π dep fr0 lo0 W = true) (hf0 : flatB fr0 = true) (hwf : ∀ w ∈ W, flatB w.wr = true)
    (hN : W.length < l.length → chkN π dep l.length W.length = true)
    (hG : W.length < l.length → ∀ (L : Array Bool) (k : Nat), YInv π dep l.length W L → (∀ x ∈ dep.getD (at' π W.length) [], L.getD x false = true) → cntA l.length L = k + 1 → (∀ j w, W[j]? = some w → Lp π L j = false → Fact P n l.toArray base π fr0 lo0 O0 W j w) → ∀ (G : Gh) (a : Act) (w : World), RelC P G n ⟨frW (Lp π L) fr0 0 W, [], loW (Lp π L) lo0 0 W, lkW (·.wo) O0 (Lp π L) 0 W, base⟩ a w → Fix G w →
      (∀ T Y O G' a' w', RelC P G' n ⟨T, [], Y, O, base⟩ a' w' → Keep G w G' w' → K T Y O → Q .normal a' w') → wpOp P l.toArray Q (at' π W.length) (wpAny P .any l.toArray Q k (L.setIfInBounds (at' π W.length) true)) a w)
    (hE : W.length = l.length → K (frW (fun _ => true) fr0 0 W) (loW (fun _ => true) lo0 0 W) (lkW (·.wo) O0 (fun _ => true) 0 W)) :
    ∀ (k : Nat) (L : Array Bool), YInv π dep l.length W L → cntA l.length L = k → (∀ j w, W[j]? = some w → Lp π L j = false → Fact P n l.toArray base π fr0 lo0 O0 W j w) →
    ∀ (G : Gh) (a : Act) (w : World), RelC P G n ⟨frW (Lp π L) fr0 0 W, [], loW (Lp π L) lo0 0 W, lkW (·.wo) O0 (Lp π L) 0 W, base⟩ a w → Fix G w →
    (∀ T Y O G' a' w', RelC P G' n ⟨T, [], Y, O, base⟩ a' w' → Keep G w G' w' → K T Y O → Q .normal a' w') → wpAny P .any l.toArray Q k L a w := by
  obtain ⟨hpl, hps, hpi⟩ := chkP_at hP
  intro k
  induction k with
  | zero =>
    intro L hI hc hF G a w hr hfx hK
    have hall := cntA_zero.1 hc
    have hWe : W.length = l.length := Classical.byContradiction fun hne => by
      have hk : W.length < l.length := by omega
      have h3 := hI.sub W.length hk (Nat.le_refl _)
      have h4 := hall _ (hpl.2 _ hk)
      unfold Lp at h3; rw [h3] at h4; cases h4
    have hcg : ∀ {β : Type} {g : WE → Option β} {x : β}, lkW g x (Lp π L) 0 W = lkW g x (fun _ => true) 0 W := lkW_congr fun j w' hw _ => by
      have := (List.getElem?_eq_some_iff.1 hw).1
      rw [Nat.zero_add]
      exact hall _ (hpl.2 j (by omega))
    refine ⟨?_, hK _ _ _ G a w (hr.same (fun s => by rw [getE_frW, getE_frW]; exact hcg) (fun k => by rw [look_loW, look_loW]; exact hcg) hcg) (Keep.refl _ _) (hE hWe)⟩
    cases e : Region.ready .any l.toArray L with
    | nil => rfl
    | cons i r =>
      have hi : i ∈ Region.ready .any l.toArray L := by rw [e]; exact List.mem_cons_self ..
      obtain ⟨hLt, o, ho, _⟩ := mem_ready.1 hi
      have hil : i < l.length := by simpa using (Array.getElem?_eq_some_iff.1 ho).1
      have := hall i hil
      have hs : i < L.size := by rw [hI.size]; exact hil
      have : L.getD i true = true := by simpa [hs] using this
      rw [this] at hLt; cases hLt
  | succ k ih =>
    intro L hI hc hF G a w hr hfx hK
    have hin : ∀ {i : Nat} {o : Oper}, l.toArray[i]? = some o → (∀ e ∈ o.after, Region.binds .any e = true → L.getD e.on false = true) → ∀ k ∈ preds o, L.getD k false = true := by
      intro i o _ h k hk
      unfold preds at hk
      obtain ⟨e, he, rfl⟩ := List.mem_map.1 hk
      obtain ⟨h4, h5⟩ := List.mem_filter.1 he
      exact h e (by simpa using h4) h5
    refine ⟨fun e0 => ?_, fun i hi => ?_⟩
    · exfalso
      have hall : ∀ i, i < l.length → L.getD i false = true := by
        intro i
        induction i using Nat.strongRecOn with
        | _ i ih2 =>
          intro hil
          refine Classical.byContradiction fun hne => ?_
          have hLf : L.getD i false = false := by simpa using hne
          have ho : l[i]? = some l[i] := List.getElem?_eq_getElem hil
          have hp := (chk1_at h1 ho).1
          have : i ∈ Region.ready .any l.toArray L := by
            rw [mem_ready]
            refine ⟨?_, l[i], by simp, fun e he hb => ?_⟩
            · have : i < L.size := by rw [hI.size]; exact hil
              simpa [this] using hLf
            · have hk : e.on ∈ preds l[i] := List.mem_map.2 ⟨e, List.mem_filter.2 ⟨by simpa using he, hb⟩, rfl⟩
              have := hp _ hk
              rw [Nat.zero_add] at this
              exact ih2 _ this (by omega)
          rw [e0] at this; cases this
      rw [cntA_zero.2 hall] at hc; cases hc
    · obtain ⟨hLt, o, ho, hpre⟩ := mem_ready.1 hi
      have hpreL := hin ho hpre
      have hil : i < l.length := by simpa using (Array.getElem?_eq_some_iff.1 ho).1
      have hLf : L.getD i false = false := by
        have : i < L.size := by rw [hI.size]; exact hil
        simpa [this] using hLt
      have hol : l[i]? = some o := by simpa using ho
      have hdep : ∀ x ∈ dep.getD i [], L.getD x false = true := by
        intro x hx
        obtain ⟨k, hk, h⟩ := (chk1_at h1 hol).2 x (by rw [Nat.zero_add]; exact hx)
        rcases h with rfl | h
        · exact hpreL _ hk
        · exact hI.dep k (hpreL _ hk) x h
      obtain ⟨p, hpm, rfl⟩ := hps i hil
      rcases Nat.lt_trichotomy p W.length with hp | hp | hp
      · -- a known one
        obtain ⟨wv, hw⟩ : ∃ wv, W[p]? = some wv := ⟨_, List.getElem?_eq_getElem hp⟩
        obtain ⟨o', ho', hrd, hrl, hop⟩ := hF p wv hw hLf
        rw [ho] at ho'; cases ho'
        obtain ⟨m1, m2, m3, m4⟩ := meets (l := l) (fr0 := fr0) (lo0 := lo0) (O0 := O0) h1 hw h2 hI hLf hdep hf0 hwf hrd hrl
        obtain ⟨q1, q2, q3, q4⟩ := yleaves (l := l) (fr0 := fr0) (lo0 := lo0) (O0 := O0) hP h1 hw hpm hWl h2 hI hLf hdep
        have hr2 := hr.same (fr' := wv.rd ++ frW (Lp π L) fr0 0 W) (lo' := wv.rl ++ loW (Lp π L) lo0 0 W) (fun s => (m1 s).symm) (fun s => (m2 s).symm) rfl
        have := hop (frW (Lp π L) fr0 0 W) (loW (Lp π L) lo0 0 W) (lkW (·.wo) O0 (Lp π L) 0 W) (flatB_frW hf0 hwf) m4
          (fun d hd => by
            obtain ⟨b1, b2, b3⟩ := chkAP_at hA hw hd
            have hno : ∀ j w', W[j]? = some w' → Lp π L j = true → okA d w' = true := by
              intro j w' hj hL
              have hne : j ≠ p := fun e => by subst e; unfold Lp at hL; rw [hL] at hLf; cases hLf
              rcases b3 j w' hne hj with h | h
              · exact h
              · rw [hI.dep _ hL _ h] at hLf; cases hLf
            refine ⟨noLB_frW b1 fun j w' hj hL => ?_, ?_⟩
            · have := hno j w' hj (by rw [Nat.zero_add] at hL; exact hL)
              unfold okA at this
              rw [Bool.and_eq_true] at this; exact this.1
            · rw [look_loW, lkW_none, ← Option.not_isSome_iff_eq_none, ← hasL_look, b2]
              · simp
              · intro j w' hj hsj
                rw [Nat.zero_add]
                cases hL : Lp π L j with
                | false => rfl
                | true =>
                  have := hno j w' hj hL
                  unfold okA at this
                  rw [gL_some hsj] at this
                  simp at this)
          G a w (fun e a w => match e with | .normal => wpAny P .any l.toArray Q k (L.setIfInBounds (at' π p) true) a w | e => Q e a w) (RelE.of hr2.1 m3 hr2.2) hfx
          (fun e' G' a' w' hq hr' hk' => by
            obtain ⟨X', rfl, hX'⟩ := hq
            refine ih (L.setIfInBounds (at' π p) true) q4 (cntA_set hil hLf (by rw [hI.size]; exact hil) hc) (fun j w' hj hL => hF j w' hj (by
              unfold Lp at hL ⊢
              by_cases e : at' π j = at' π p
              · rw [e]; exact hLf
              · rw [getD_set_ne false (fun h => e h.symm)] at hL; exact hL)) G' a' w' (hr'.same (fun s => ?_) (fun s => ?_) q3) (hfx.keep hk') fun T Y O G2 a2 w2 hr2 hk2 hh => hK T Y O G2 a2 w2 hr2 (hk'.trans hk2) hh
            · rw [← q1 s, getE_app, m1]
            · rw [hX', lookL_app, m2]; exact q2 s)
        unfold wpOp
        simp only [ho]
        simp only [wpList] at this
        split at this
        · rename_i hw2
          rw [if_pos hw2]
          rcases this with h1 | h1
          · left
            unfold Oper.wp at h1 ⊢
            generalize (execOp a.eval o).run P w = r at h1 ⊢
            cases r with
            | ok nx w' => cases nx <;> exact h1
            | halt x w' => cases x <;> exact h1
          · right; exact h1
        · rename_i hw2
          rw [if_neg hw2]; exact this
      · subst hp
        exact hG hpm L k hI hdep hc hF G a w hr hfx hK
      · have hWlt : W.length < l.length := by omega
        have := hdep _ (chkN_at (hN hWlt) hpm hp)
        have h3 := hI.sub W.length hWlt (Nat.le_refl _)
        unfold Lp at h3; rw [h3] at this; cases this
theorem lkW_snoc {β : Type} {g : WE → Option β} {x : β} {L : Nat → Bool} {W : List WE} {wv : WE} (h : L W.length = false) : lkW g x L 0 (W ++ [wv]) = lkW g x L 0 W := by
  rw [lkW_app]
  simp only [lkW, Nat.zero_add, h, cond_false]
theorem stateSnoc {L : Array Bool} {wv : WE} {G : Gh} {a : Act} {w : World} (h : Lp π L W.length = false) (hr : RelC P G n ⟨frW (Lp π L) fr0 0 W, [], loW (Lp π L) lo0 0 W, lkW (·.wo) O0 (Lp π L) 0 W, base⟩ a w) : RelC P G n ⟨frW (Lp π L) fr0 0 (W ++ [wv]), [], loW (Lp π L) lo0 0 (W ++ [wv]), lkW (·.wo) O0 (Lp π L) 0 (W ++ [wv]), base⟩ a w :=
  hr.same (fun s => by rw [getE_frW, getE_frW, lkW_snoc h]) (fun s => by rw [look_loW, look_loW, lkW_snoc h]) (lkW_snoc h).symm
theorem YInv.snoc {m : Nat} {L : Array Bool} {wv : WE} (h : YInv π dep m W L) : YInv π dep m (W ++ [wv]) L := ⟨h.size, fun k hk hge => h.sub k hk (by simp at hge; omega), h.dep⟩
theorem Fact.snoc {l : List Oper} {j : Nat} {w' wv : WE} (hj : j < W.length) (h : Fact P n l.toArray base π fr0 lo0 O0 W j w') : Fact P n l.toArray base π fr0 lo0 O0 (W ++ [wv]) j w' := by
  obtain ⟨o, a1, a2, a3, a4⟩ := h
  have e : (W ++ [wv]).take j = W.take j := List.take_append_of_le_length (by omega)
  exact ⟨o, a1, by rw [e]; exact a2, by rw [e]; exact a3, by rw [e]; exact a4⟩
theorem ConfG.sound {l : List Oper} {K : Fr → Lo → Ob → Prop} (hP : chkP π l.length = true) (h1 : chk1 dep 0 l = true) (hf0 : flatB fr0 = true) :
    ∀ (r : Nat) (T : Fr) (Y : Lo) (O : Ob) (W : List WE), ConfG P n l.toArray base π dep fr0 lo0 r T Y O W K → T = frW (fun _ => true) fr0 0 W → Y = loW (fun _ => true) lo0 0 W → O = lkW (·.wo) O0 (fun _ => true) 0 W → W.length + r = l.length → (∀ w ∈ W, flatB w.wr = true) →
    ∀ (k : Nat) (L : Array Bool), YInv π dep l.length W L → cntA l.length L = k → (∀ j w, W[j]? = some w → Lp π L j = false → Fact P n l.toArray base π fr0 lo0 O0 W j w) →
    ∀ (G : Gh) (a : Act) (w : World), RelC P G n ⟨frW (Lp π L) fr0 0 W, [], loW (Lp π L) lo0 0 W, lkW (·.wo) O0 (Lp π L) 0 W, base⟩ a w → Fix G w →
    (∀ T Y O G' a' w', RelC P G' n ⟨T, [], Y, O, base⟩ a' w' → Keep G w G' w' → K T Y O → Q .normal a' w') → wpAny P .any l.toArray Q k L a w := by
  intro r
  induction r with
  | zero =>
    intro T Y O W hC hT hY hO hlen hwf k L hI hc hF G a w hr hfx hK
    obtain ⟨hck, hKK⟩ := hC
    rw [Bool.and_eq_true] at hck
    subst hT hY hO
    exact known (K := K) hP h1 (by omega) hck.1 hck.2 hf0 hwf (fun h => by omega) (fun h => by omega) (fun _ => hKK) k L hI hc hF G a w hr hfx hK
  | succ r ihr =>
    intro T Y O W hC hT hY hO hlen hwf k L hI hc hF G a w hr hfx hK
    have hWlt : W.length < l.length := by omega
    rcases hC with ⟨w1, o, e1, e2, e3, e4, e5, e6⟩ | ⟨ι, g0, w1, o, e1, e2, e3, e5, eN, eg, e6⟩
    · refine ihr _ _ _ (W ++ [w1]) e6 (by rw [frW_app, ← hT]; rfl) (by rw [loW_app, ← hY]; rfl) (by rw [lkW_app, ← hO]; rfl) (by simp; omega) (fun w' hw' => ?_) k L hI.snoc hc (fun j w' hj hL => ?_) G a w (stateSnoc (hI.sub _ hWlt (Nat.le_refl _)) hr) hfx hK
      · rcases List.mem_append.1 hw' with h | h
        · exact hwf w' h
        · rw [List.mem_singleton.1 h]; exact e4
      · rcases Nat.lt_or_ge j W.length with h | h
        · rw [List.getElem?_append_left h] at hj
          exact (hF j w' hj hL).snoc h
        · have hje : j = W.length := by
            have := (List.getElem?_eq_some_iff.1 hj).1
            simp at this; omega
          subst hje
          simp at hj
          subst hj
          refine ⟨o, e1, ?_, ?_, ?_⟩
          · rw [List.take_left, ← hT]; exact e2
          · rw [List.take_left, ← hY]; exact e3
          · rw [List.take_left, ← hO]; exact e5
    · have hck := (eg g0).2.2.2.2
      rw [Bool.and_eq_true] at hck
      refine known (K := K) hP h1 (by omega) (chk2P_pre hck.1) (chkAP_pre hck.2) hf0 hwf (fun _ => by rw [← hlen, ← Nat.add_assoc]; exact eN) (fun _ => ?_) (fun h => by omega) k L hI hc hF G a w hr hfx hK
      intro L' k' hI' hd' hc' hF1 G1 a1 wd1 hr1 hfx1 hK1
      have hLf : Lp π L' W.length = false := hI'.sub _ hWlt (Nat.le_refl _)
      have hpl := chkP_at hP
      have hW0 : (W ++ [w1 g0])[W.length]? = some (w1 g0) := by simp
      obtain ⟨m1, m2, m3, m4⟩ := meets (l := l) (fr0 := fr0) (lo0 := lo0) (O0 := O0) h1 hW0 hck.1 hI'.snoc hLf hd' hf0 (fun w' hw' => by
        rcases List.mem_append.1 hw' with h | h
        · exact hwf w' h
        · rw [List.mem_singleton.1 h]; exact (eg g0).2.2.2.1) (by rw [List.take_left, ← hT]; exact e2) (by rw [List.take_left, ← hY]; exact e3)
      have hr2 := stateSnoc (wv := w1 g0) hLf hr1
      have hr3 := hr2.same (fr' := (w1 g0).rd ++ frW (Lp π L') fr0 0 (W ++ [w1 g0])) (lo' := (w1 g0).rl ++ loW (Lp π L') lo0 0 (W ++ [w1 g0])) (fun s => (m1 s).symm) (fun s => (m2 s).symm) rfl
      have hwf0 : ∀ w' ∈ W ++ [w1 g0], flatB w'.wr = true := fun w' hw' => by
        rcases List.mem_append.1 hw' with h | h
        · exact hwf w' h
        · rw [List.mem_singleton.1 h]; exact (eg g0).2.2.2.1
      have := e5 (frW (Lp π L') fr0 0 (W ++ [w1 g0])) (loW (Lp π L') lo0 0 (W ++ [w1 g0])) (lkW (·.wo) O0 (Lp π L') 0 (W ++ [w1 g0])) (flatB_frW hf0 hwf0) (fun hro => by rw [m4 hro, List.take_left, ← hO])
        G1 a1 wd1 (fun e a w => match e with | .normal => wpAny P .any l.toArray Q k' (L'.setIfInBounds (at' π W.length) true) a w | e => Q e a w) (RelE.of hr3.1 m3 hr3.2) hfx1
        (fun e' G' a' w' hq hr' hk' => by
          obtain ⟨g, X', rfl, hX'⟩ := hq
          obtain ⟨g1, g2, g3, g4, g5⟩ := eg g
          rw [Bool.and_eq_true] at g5
          have hWg : (W ++ [w1 g])[W.length]? = some (w1 g) := by simp
          obtain ⟨q1, q2, q3, q4⟩ := yleaves (l := l) (fr0 := fr0) (lo0 := lo0) (O0 := O0) hP h1 hWg hWlt (by simp; omega) g5.1 hI'.snoc hLf hd'
          refine ihr _ _ _ (W ++ [w1 g]) (e6 g) (by rw [frW_app, ← hT]; rfl) (by rw [loW_app, ← hY]; rfl) (by rw [lkW_app, ← hO]; rfl) (by simp; omega) (fun w' hw' => ?_) k' (L'.setIfInBounds (at' π W.length) true) q4 ?_ (fun j w' hj hL => ?_) G' a' w' (hr'.same (fun s => ?_) (fun s => ?_) ?_) (hfx1.keep hk') fun T Y O G2 a2 w2 hr2 hk2 hh => hK1 T Y O G2 a2 w2 hr2 (hk'.trans hk2) hh
          · rcases List.mem_append.1 hw' with h | h
            · exact hwf w' h
            · rw [List.mem_singleton.1 h]; exact g4
          · exact cntA_set (hpl.1.2 _ hWlt) hLf (by rw [hI'.size]; exact hpl.1.2 _ hWlt) hc'
          · rcases Nat.lt_or_ge j W.length with h | h
            · rw [List.getElem?_append_left h] at hj
              exact (hF1 j w' hj (by
                unfold Lp at hL ⊢
                by_cases e : at' π j = at' π W.length
                · rw [e]; exact hLf
                · rw [getD_set_ne false (fun h => e h.symm)] at hL; exact hL)).snoc h
            · have hje : j = W.length := by
                have := (List.getElem?_eq_some_iff.1 hj).1
                simp at this; omega
              subst hje
              have hs : at' π W.length < L'.size := by rw [hI'.size]; exact hpl.1.2 _ hWlt
              unfold Lp at hL
              simp [hs] at hL
          · rw [← q1 s, getE_app, m1]
            rw [getE_frW, getE_frW, lkW_snoc hLf, lkW_snoc hLf]
          · rw [hX', lookL_app, m2, ← q2 s, look_loW, look_loW, lkW_snoc hLf, lkW_snoc hLf]
            try (cases lookL (w1 g).wl s <;> rfl)
          · rw [← q3, lkW_snoc hLf, lkW_snoc hLf])
      unfold wpOp
      simp only [e1]
      simp only [wpList] at this
      split at this
      · rename_i hw2
        rw [if_pos hw2]
        rcases this with h1 | h1
        · left
          unfold Oper.wp at h1 ⊢
          generalize (execOp a1.eval o).run P wd1 = r at h1 ⊢
          cases r with
          | ok nx w' => cases nx <;> exact h1
          | halt x w' => cases x <;> exact h1
        · right; exact h1
      · rename_i hw2
        rw [if_neg hw2]; exact this
end
section
variable {P : Program} {n : Nat} {ops : Array Oper} {base : Nat → Option (List AV)} {o : Oper} {QE : Exit → Es → Prop} {d r : Nat} {T rd wr fr0 : Fr} {W : List WE} {Y rl lo0 : Lo} {O : Ob} {K : Fr → Lo → Ob → Prop} {v u : AV} {π : List Nat} {dep : List (List Nat)}
def confGB (π : List Nat) (l : List Oper) : Bool := chkP π l.length && chk1 (clos l []) 0 l
/-- A region whose operations may come in any order, told of in an order of ours; some make new names. -/
theorem CWp.confG {l : List Oper} {fr : Fr} {lo : Lo} {O : Ob} {id : Nat} (π : List Nat) (hB : confGB π l = true) (h : ConfG P n l.toArray base π (clos l []) fr lo l.length fr lo O [] fun T Y O => flatB T = true ∧ COps P n l.toArray [] ⟨T, [], Y, O, base⟩ (QE .normal)) (hm : P.follows .mixedOrders = true := by rfl) (hf : flatB fr = true := by rfl) : CWp P n (.region id l.toArray true) ⟨fr, [], lo, O, base⟩ QE := by
  intro G a w K hr hfx hK
  refine wp_region_any hm ?_
  unfold confGB at hB
  rw [Bool.and_eq_true] at hB
  obtain ⟨hr1, hk1⟩ : RelC P G n ⟨fr, [], lo, O, base⟩ a { w with drawn := w.drawn + 1 } ∧ Keep G w G { w with drawn := w.drawn + 1 } := by
    obtain ⟨h1, h2⟩ := hr.1.later (world_drawn w)
    exact ⟨⟨h1, hr.2⟩, h2⟩
  have hrep : ∀ i, (Array.replicate l.toArray.size false).getD i false = false := fun i => by simp [Array.getElem?_replicate]; split <;> rfl
  refine ConfG.sound hB.1 hB.2 hf l.length fr lo O [] h rfl rfl rfl (by simp) (fun _ h => by cases h) l.toArray.size _ ⟨by simp, fun k _ _ => hrep _, fun i hi => by rw [hrep] at hi; cases hi⟩ ?_ (fun j w h => by simp at h) G a _ hr1 (hfx.keep hk1) fun T Y O G' a' w' hr' hk' hh => ?_
  · unfold cntA
    rw [List.filter_eq_self.2 fun i _ => by rw [hrep]; rfl]
    simp
  · have := hh.2 G' a' w' K (RelE.of hr'.1 hh.1 hr'.2) ((hfx.keep hk1).keep hk') fun e' G2 a2 w2 hq hr2 hk2 => hK _ _ _ _ _ hq hr2 (hk1.trans (hk'.trans hk2))
    exact this
theorem oAt (i : Nat) (h : ops[i]? = some o) (hi : at' π W.length = i := by rfl) : ops[at' π W.length]? = some o := by rw [hi]; exact h
/-- One that makes new names. -/
theorem gcg {ι : Type} (g0 : ι) (wr : ι → Fr) (O1 : ι → Ob) (ho : ops[at' π W.length]? = some o) (rd : Fr) (hr : rdOK T rd) (h : ∀ fr X, flatB fr = true → COps P n ops [o] ⟨rd ++ fr, [], X, O, base⟩ fun e' => ∃ g, e' = ⟨wr g ++ (rd ++ fr), [], X, O1 g, base⟩) (hN : chkN π dep (W.length + r + 1) W.length = true)
    (hc : ∀ g, flatB (wr g) = true ∧ (chk2P π dep (W ++ [⟨rd, wr g, [], [], none, true, some (O1 g)⟩]) && chkAP π dep fr0 lo0 (W ++ [⟨rd, wr g, [], [], none, true, some (O1 g)⟩])) = true) (k : ∀ g, ConfG P n ops base π dep fr0 lo0 r (wr g ++ T) Y (O1 g) (W ++ [⟨rd, wr g, [], [], none, true, some (O1 g)⟩]) K) : ConfG P n ops base π dep fr0 lo0 (r + 1) T Y O W K :=
  .inr ⟨ι, g0, fun g => ⟨rd, wr g, [], [], none, true, some (O1 g)⟩, o, ho, hr, trivial, fun fr X O' hf hO => by
    cases hO rfl
    intro G a w K' hr hfx hK
    exact h fr X hf G a w K' hr hfx fun e' G' a' w' hq => by
      obtain ⟨g, rfl⟩ := hq
      exact hK _ G' a' w' ⟨g, _, rfl, fun _ => rfl⟩, hN, fun g => ⟨rfl, rfl, rfl, (hc g).1, (hc g).2⟩, k⟩
/-- One that writes slots alone. -/
theorem gcfw (ho : ops[at' π W.length]? = some o) (rd : Fr) (rl : Lo) (ro : Bool) (hr : rdOK T rd) (hl : rlOK Y rl) (h : ∀ fr X O', flatB fr = true → (ro = true → O' = O) → COps P n ops [o] ⟨rd ++ fr, [], rl ++ X, O', base⟩ fun e' => e' = ⟨wr ++ (rd ++ fr), [], rl ++ X, O', base⟩) (k : ConfG P n ops base π dep fr0 lo0 r (wr ++ T) Y O (W ++ [⟨rd, wr, rl, [], none, ro, none⟩]) K) (hw : flatB wr = true := by rfl) : ConfG P n ops base π dep fr0 lo0 (r + 1) T Y O W K :=
  .inl ⟨⟨rd, wr, rl, [], none, ro, none⟩, o, ho, hr, hl, hw, fun fr X O' hf hO _ => by
    intro G a w K' hr hfx hK
    exact h fr X O' hf hO G a w K' hr hfx fun e' G' a' w' hq => hK e' G' a' w' ⟨_, hq, fun _ => rfl⟩, k⟩
/-- One that looks at objects. -/
theorem gcf1o (ho : ops[at' π W.length]? = some o) (rd : Fr) (hr : rdOK T rd) (h : ∀ fr X, flatB fr = true → COps P n ops [o] ⟨rd ++ fr, [], X, O, base⟩ fun e' => e' = ⟨(d, [], v) :: (rd ++ fr), [], X, O, base⟩) (k : ConfG P n ops base π dep fr0 lo0 r ((d, [], v) :: T) Y O (W ++ [⟨rd, [(d, [], v)], [], [], none, true, none⟩]) K) : ConfG P n ops base π dep fr0 lo0 (r + 1) T Y O W K :=
  gcfw (wr := [(d, [], v)]) ho rd [] true hr trivial (fun fr X O' hf hO => by cases hO rfl; exact h fr X hf) k
/-- One that changes objects. -/
theorem gcfo {O1 : Ob} (ho : ops[at' π W.length]? = some o) (rd : Fr) (hr : rdOK T rd) (h : ∀ fr X, flatB fr = true → COps P n ops [o] ⟨rd ++ fr, [], X, O, base⟩ fun e' => e' = ⟨wr ++ (rd ++ fr), [], X, O1, base⟩) (k : ConfG P n ops base π dep fr0 lo0 r (wr ++ T) Y O1 (W ++ [⟨rd, wr, [], [], none, true, some O1⟩]) K) (hw : flatB wr = true := by rfl) : ConfG P n ops base π dep fr0 lo0 (r + 1) T Y O W K :=
  .inl ⟨⟨rd, wr, [], [], none, true, some O1⟩, o, ho, hr, trivial, hw, fun fr X O' hf hO _ => by
    cases hO rfl
    intro G a w K' hr hfx hK
    exact h fr X hf G a w K' hr hfx fun e' G' a' w' hq => hK e' G' a' w' ⟨_, hq, fun _ => rfl⟩, k⟩
/-- Plain ones; rl: the blocks that are read. -/
theorem gcfp [I : HasTab P] {q : List (Nat × Nat)} {H' : List Nat} (ho : ops[at' π W.length]? = some o) (H : List Nat) (rl : Lo) (hs : rdsF T (opSlots o.op.operands.toList) (fun f => some f) = some rd) (hl : rlOK Y rl) (h : ∀ fr X O', stepE (HasTab.T P) (HasTab.Z P) n ops [] H ⟨rd ++ fr, [], rl ++ X, O', base⟩ o = some (⟨(d, [], v) :: (rd ++ fr), [], rl ++ X, O', base⟩, q, H')) (hq : allEq q) (k : ConfG P n ops base π dep fr0 lo0 r ((d, [], v) :: T) Y O (W ++ [⟨rd, [(d, [], v)], rl, [], none, false, none⟩]) K) (hT : flatB T = true := by rfl) : ConfG P n ops base π dep fr0 lo0 (r + 1) T Y O W K := by
  rw [rdsF_eq] at hs
  cases hs
  exact gcfw (wr := [(d, [], v)]) ho _ rl false (rdOK_map hT _) hl (fun fr X O' _ _ => stepE_ok I.tok I.zok (h fr X O') hq (COps.nil rfl)) k
theorem gcfpo [I : HasTab P] {q : List (Nat × Nat)} {H' : List Nat} (ho : ops[at' π W.length]? = some o) (H : List Nat) (hs : rdsF T (opSlots o.op.operands.toList) (fun f => some f) = some rd) (h : ∀ fr X, stepE (HasTab.T P) (HasTab.Z P) n ops [] H ⟨rd ++ fr, [], X, O, base⟩ o = some (⟨(d, [], v) :: (rd ++ fr), [], X, O, base⟩, q, H')) (hq : allEq q) (k : ConfG P n ops base π dep fr0 lo0 r ((d, [], v) :: T) Y O (W ++ [⟨rd, [(d, [], v)], [], [], none, true, none⟩]) K) (hT : flatB T = true := by rfl) : ConfG P n ops base π dep fr0 lo0 (r + 1) T Y O W K := by
  rw [rdsF_eq] at hs
  cases hs
  exact gcf1o ho _ (rdOK_map hT _) (fun fr X _ => stepE_ok I.tok I.zok (h fr X) hq (COps.nil rfl)) k
/-- A list that is made. -/
theorem gcfb [I : HasTab P] (ho : ops[at' π W.length]? = some o) (hs : rdsF T (opSlots o.op.operands.toList) (fun f => some f) = some rd) (h : ∀ fr X O', stepE (HasTab.T P) (HasTab.Z P) n ops [] [] ⟨rd ++ fr, [], X, O', base⟩ o = ok0 (sPut n ⟨rd ++ fr, [], X, O', base⟩ d [] (some v)) []) (hp : ∀ fr X O', putE n ⟨rd ++ fr, [], X, O', base⟩ d [] (some v) = some ⟨(d, [], v) :: (rd ++ fr), [], X, O', base⟩) (k : ConfG P n ops base π dep fr0 lo0 r ((d, [], v) :: T) Y O (W ++ [⟨rd, [(d, [], v)], [], [], none, false, none⟩]) K) (hT : flatB T = true := by rfl) : ConfG P n ops base π dep fr0 lo0 (r + 1) T Y O W K := by
  rw [rdsF_eq] at hs
  cases hs
  have hr := rdOK_map hT (opSlots o.op.operands.toList)
  refine gcfw (wr := [(d, [], v)]) ho _ [] false hr trivial (fun fr X O' hf _ => stepE_ok I.tok I.zok (q := []) (H' := []) ((h fr X O').trans ?_) trivial (COps.nil rfl)) k
  unfold sPut
  have e : subF [] ((List.map (fun s => (s, [], getV T [] s)) (opSlots o.op.operands.toList)) ++ fr) = true := sbF (rdOK_flat hT hr) hf
  simp only [e, truths, Bool.and_self, cond_true]
  rw [hp]; rfl
/-! With a counter. -/
section
variable {m : Nat}
def ConfK (m : Nat) (P : Program) (n : Nat) (ops : Array Oper) (base : Nat → Option (List AV)) (π : List Nat) (dep : List (List Nat)) (fr0 : Fr) (lo0 : Lo) (r : Nat) (T : Fr) (Y : Lo) (O : Ob) (W : List WE) (K : Fr → Lo → Ob → Prop) : Prop := W.length = m → ConfG P n ops base π dep fr0 lo0 r T Y O W K
theorem ConfK.of (h : ConfK 0 P n ops base π dep fr0 lo0 r T Y O [] K) : ConfG P n ops base π dep fr0 lo0 r T Y O [] K := h rfl
theorem ConfK.nil (hc : (chk2P π dep W && chkAP π dep fr0 lo0 W) = true) (h : K T Y O) : ConfK m P n ops base π dep fr0 lo0 0 T Y O W K := fun _ => ⟨hc, h⟩
theorem kcg {ι : Type} (g0 : ι) (wr : ι → Fr) (O1 : ι → Ob) (i : Nat) (ho : ops[i]? = some o) (rd : Fr) (hr : rdOK T rd) (h : ∀ fr X, flatB fr = true → COps P n ops [o] ⟨rd ++ fr, [], X, O, base⟩ fun e' => ∃ g, e' = ⟨wr g ++ (rd ++ fr), [], X, O1 g, base⟩) (hN : chkN π dep (W.length + r + 1) W.length = true)
    (hc : ∀ g, flatB (wr g) = true ∧ (chk2P π dep (W ++ [⟨rd, wr g, [], [], none, true, some (O1 g)⟩]) && chkAP π dep fr0 lo0 (W ++ [⟨rd, wr g, [], [], none, true, some (O1 g)⟩])) = true) (k : ∀ g, ConfK (m + 1) P n ops base π dep fr0 lo0 r (wr g ++ T) Y (O1 g) (W ++ [⟨rd, wr g, [], [], none, true, some (O1 g)⟩]) K) (hi : at' π m = i := by rfl) : ConfK m P n ops base π dep fr0 lo0 (r + 1) T Y O W K := fun hm => gcg (g0 := g0) (wr := wr) (O1 := O1) (ho := oAt i ho (by rw [hm]; exact hi)) (rd := rd) (hr := hr) (h := h) (hN := hN) (hc := hc) (k := fun g => k g (by rw [List.length_append, hm]; rfl))
theorem kcfo {O1 : Ob} (i : Nat) (ho : ops[i]? = some o) (rd : Fr) (hr : rdOK T rd) (h : ∀ fr X, flatB fr = true → COps P n ops [o] ⟨rd ++ fr, [], X, O, base⟩ fun e' => e' = ⟨wr ++ (rd ++ fr), [], X, O1, base⟩) (k : ConfK (m + 1) P n ops base π dep fr0 lo0 r (wr ++ T) Y O1 (W ++ [⟨rd, wr, [], [], none, true, some O1⟩]) K) (hw : flatB wr = true := by rfl) (hi : at' π m = i := by rfl) : ConfK m P n ops base π dep fr0 lo0 (r + 1) T Y O W K := fun hm => gcfo (ho := oAt i ho (by rw [hm]; exact hi)) (rd := rd) (hr := hr) (h := h) (k := k (by rw [List.length_append, hm]; rfl)) (hw := hw)
theorem kcfp [I : HasTab P] {q : List (Nat × Nat)} {H' : List Nat} (i : Nat) (ho : ops[i]? = some o) (H : List Nat) (rl : Lo) (hs : rdsF T (opSlots o.op.operands.toList) (fun f => some f) = some rd) (hl : rlOK Y rl) (h : ∀ fr X O', stepE (HasTab.T P) (HasTab.Z P) n ops [] H ⟨rd ++ fr, [], rl ++ X, O', base⟩ o = some (⟨(d, [], v) :: (rd ++ fr), [], rl ++ X, O', base⟩, q, H')) (hq : allEq q) (k : ConfK (m + 1) P n ops base π dep fr0 lo0 r ((d, [], v) :: T) Y O (W ++ [⟨rd, [(d, [], v)], rl, [], none, false, none⟩]) K) (hT : flatB T = true := by rfl) (hi : at' π m = i := by rfl) : ConfK m P n ops base π dep fr0 lo0 (r + 1) T Y O W K := fun hm => gcfp (ho := oAt i ho (by rw [hm]; exact hi)) (H := H) (rl := rl) (hs := hs) (hl := hl) (h := h) (hq := hq) (k := k (by rw [List.length_append, hm]; rfl)) (hT := hT)
theorem kcfpo [I : HasTab P] {q : List (Nat × Nat)} {H' : List Nat} (i : Nat) (ho : ops[i]? = some o) (H : List Nat) (hs : rdsF T (opSlots o.op.operands.toList) (fun f => some f) = some rd) (h : ∀ fr X, stepE (HasTab.T P) (HasTab.Z P) n ops [] H ⟨rd ++ fr, [], X, O, base⟩ o = some (⟨(d, [], v) :: (rd ++ fr), [], X, O, base⟩, q, H')) (hq : allEq q) (k : ConfK (m + 1) P n ops base π dep fr0 lo0 r ((d, [], v) :: T) Y O (W ++ [⟨rd, [(d, [], v)], [], [], none, true, none⟩]) K) (hT : flatB T = true := by rfl) (hi : at' π m = i := by rfl) : ConfK m P n ops base π dep fr0 lo0 (r + 1) T Y O W K := fun hm => gcfpo (ho := oAt i ho (by rw [hm]; exact hi)) (H := H) (hs := hs) (h := h) (hq := hq) (k := k (by rw [List.length_append, hm]; rfl)) (hT := hT)
theorem kcfb [I : HasTab P] (i : Nat) (ho : ops[i]? = some o) (hs : rdsF T (opSlots o.op.operands.toList) (fun f => some f) = some rd) (h : ∀ fr X O', stepE (HasTab.T P) (HasTab.Z P) n ops [] [] ⟨rd ++ fr, [], X, O', base⟩ o = ok0 (sPut n ⟨rd ++ fr, [], X, O', base⟩ d [] (some v)) []) (hp : ∀ fr X O', putE n ⟨rd ++ fr, [], X, O', base⟩ d [] (some v) = some ⟨(d, [], v) :: (rd ++ fr), [], X, O', base⟩) (k : ConfK (m + 1) P n ops base π dep fr0 lo0 r ((d, [], v) :: T) Y O (W ++ [⟨rd, [(d, [], v)], [], [], none, false, none⟩]) K) (hT : flatB T = true := by rfl) (hi : at' π m = i := by rfl) : ConfK m P n ops base π dep fr0 lo0 (r + 1) T Y O W K := fun hm => gcfb (ho := oAt i ho (by rw [hm]; exact hi)) (hs := hs) (h := h) (hp := hp) (k := k (by rw [List.length_append, hm]; rfl)) (hT := hT)
end
end
end
section
open Go.RowKit

def sufO (s p : List UInt8) : Option (List UInt8 × Bool) := if s.length ≤ 4294967280 then some (Lib.trimSuffix s p, Lib.hasSuffix s p) else none
theorem sufO_w {s p : List UInt8} {r : List UInt8 × Bool} (h : sufO s p = some r) : PCall Tryz.prog 49 [.str s, .str p] (.tuple [.str r.1, zB r.2]) := by
  unfold sufO at h
  split at h
  · rename_i hl
    cases h
    refine PCall.of fun M => ACall.mono (ACall.ofBelowT (C := fun cs => cs = [.str (Lib.trimSuffix s p), .lit (.bool (Lib.hasSuffix s p))]) ?_) ?_
    · intro G w vs hm hfx hlen hrel
      obtain ⟨v, u, rfl, h1, h2⟩ := arg2 hlen hrel
      have e1 := relV_str h1
      have e2 := relV_str h2
      subst e1; subst e2
      refine (Tryz.strings_CutSuffix ⟨s.toArray⟩ ⟨p.toArray⟩ w (by rw [bsize]; omega)).mono ?_
      rintro e w' ⟨rfl, rfl⟩
      refine ⟨_, [_, _], rfl, by simp [AV.flat], rfl, rfl, fun j x u hx hu => ?_, Below.refl _ _⟩
      match j, hx, hu with
      | 0, hx, hu => cases hx; cases hu; exact .str _
      | 1, hx, hu => cases hx; cases hu; exact .lit _
      | _ + 2, hx, hu => cases hx
    · rintro r M' ⟨⟨cs, rfl, rfl⟩, rfl⟩; exact ⟨rfl, rfl⟩
  · cases h

def cutO (s p : List UInt8) : Option (List UInt8 × List UInt8 × Bool) := if s.length ≤ 4294967280 then some (Lib.cut s p) else none
theorem cutO_w {s p : List UInt8} {r : List UInt8 × List UInt8 × Bool} (h : cutO s p = some r) : PCall Tryz.prog 46 [.str s, .str p] (.tuple [.str r.1, .str r.2.1, zB r.2.2]) := by
  unfold cutO at h
  split at h
  · rename_i hl
    cases h
    refine PCall.of fun M => ACall.mono (ACall.ofBelowT (C := fun cs => cs = [.str (Lib.cut s p).1, .str (Lib.cut s p).2.1, .lit (.bool (Lib.cut s p).2.2)]) ?_) ?_
    · intro G w vs hm hfx hlen hrel
      obtain ⟨v, u, rfl, h1, h2⟩ := arg2 hlen hrel
      have e1 := relV_str h1
      have e2 := relV_str h2
      subst e1; subst e2
      refine (Tryz.strings_Cut_shaped ⟨s.toArray⟩ ⟨p.toArray⟩ w hfx.shaped (by rw [bsize]; omega)).mono ?_
      rintro e w' ⟨rfl, n, rfl⟩
      refine ⟨_, [_, _, _], rfl, by simp [AV.flat], rfl, rfl, fun j x u hx hu => ?_, (below_drewN (Below.refl _ _) n)⟩
      match j, hx, hu with
      | 0, hx, hu => cases hx; cases hu; exact .str _
      | 1, hx, hu => cases hx; cases hu; exact .str _
      | 2, hx, hu => cases hx; cases hu; exact .lit _
      | _ + 3, hx, hu => cases hx
    · rintro r M' ⟨⟨cs, rfl, rfl⟩, rfl⟩; exact ⟨rfl, rfl⟩
  · cases h
end
section
open Go.RowKit
theorem noEscape_run : ∀ (v : Value) (w : World), (callFunc 65 #[v]).run Tryz.prog w = .ok (.value v) w := fun _ _ => by kernel_rfl
set_option maxRecDepth 20000 in
theorem copyCheck_nil (M : Nat → Option (List AV)) (id : Nat) (hid : id % 10000 = 77) (c : AV) (hcs : c.scalar = true) (M' : Nat → Option (List AV)) (hM : M id = some [.lit (.pointer none), c]) (hM' : setM M id [.gptr id 0, c] = M')  : ACall Tryz.prog 52 [.gptr id 0] M (fun r M1 => r = .tuple [] ∧ M1 = M') := by
  refine ACall.of Tryz.func52 rfl (n := 20) rfl rfl rfl ?_
  refine zg ?_
  refine zM (.gptr id 0) ?_
  refine zr (znc (.gptr id 0)) ?_
  refine zr (zfG Tryz.underlying77 sizeOf_75) ?_
  refine zr (zlG (.lit (.pointer none)) Tryz.underlying75 sizeOf_75 hM) ?_
  refine zr (Reader.eqPtr (b := true) (xv := .lit (.pointer none)) (yv := .lit (.pointer none)) rfl Tryz.underlying75 sizeOf_77 (by decide) rfl rfl (by simp [ptrEq]) (.inl ⟨rfl, rfl⟩)) ?_
  refine zN ?_
  refine AWp.cond (b := true) rfl (fun hx => ?_) (fun hx => by cases hx)
  refine AWp.region ?_
  refine zM (.gptr id 0) ?_
  refine zM (.gptr id 0) ?_
  refine zr (Reader.toUnsafe rfl Tryz.underlying75 Tryz.underlying101 sizeOf_77 (by decide) rfl hM (Nat.le_of_ble_eq_true rfl)) ?_
  refine zr (Reader.same rfl rfl rfl noEscape_run rfl) ?_
  refine zr (Reader.fromUnsafe rfl Tryz.underlying101 Tryz.underlying75 sizeOf_77 rfl hM (by assumption) (by kernel_rfl)) ?_
  refine zr (znc (.gptr id 0)) ?_
  refine zr (zfG Tryz.underlying77 sizeOf_75) ?_
  refine AOps.storeG trivial rfl rfl rfl hM sizeOf_75 (.inl ⟨rfl, rfl⟩) rfl (v := .gptr id 0) rfl (all_flat rfl) rfl (Nat.le_of_ble_eq_true rfl) rfl ?_
  refine zN ?_
  exact ⟨.inr rfl, _, ResOf.none, ⟨rfl, hM'⟩⟩

set_option maxRecDepth 20000 in
theorem copyCheck_used (M : Nat → Option (List AV)) (id : Nat) (_hid : id % 10000 = 77) (c : AV) (hcs : c.scalar = true) (hM : M id = some [.gptr id 0, c])  : ACall Tryz.prog 52 [.gptr id 0] M (fun r M1 => r = .tuple [] ∧ M1 = M) := by
  refine ACall.of Tryz.func52 rfl (n := 20) rfl rfl rfl ?_
  refine zg ?_
  refine zM (.gptr id 0) ?_
  refine zr (znc (.gptr id 0)) ?_
  refine zr (zfG Tryz.underlying77 sizeOf_75) ?_
  refine zr (zlG (.gptr id 0) Tryz.underlying75 sizeOf_75 hM) ?_
  refine zr (Reader.eqPtr (b := false) (xv := .gptr id 0) (yv := .lit (.pointer none)) rfl Tryz.underlying75 sizeOf_77 (by decide) rfl rfl (by simp [ptrEq]) (.inl ⟨rfl, rfl⟩)) ?_
  refine zN ?_
  refine AWp.cond (b := false) rfl (fun hx => by cases hx) (fun hx => ?_)
  refine zg ?_
  refine zM (.gptr id 0) ?_
  refine zr (znc (.gptr id 0)) ?_
  refine zr (zfG Tryz.underlying77 sizeOf_75) ?_
  refine zr (zlG (.gptr id 0) Tryz.underlying75 sizeOf_75 hM) ?_
  refine zM (.gptr id 0) ?_
  refine zr (Reader.eqPtr (b := true) (xv := .gptr id 0) (yv := .gptr id 0) rfl Tryz.underlying75 sizeOf_77 (by decide) rfl rfl (by simp [ptrEq]) (.inr ⟨rfl, rfl⟩)) ?_
  refine zN ?_
  refine AWp.cond (b := false) rfl (fun hx => by cases hx) (fun hx => ?_)
  refine AWp.skip ?_
  exact ⟨.inr rfl, _, ResOf.none, ⟨rfl, rfl⟩⟩

theorem copyCheck_any (id : Nat) (hid : id % 10000 = 77) (p c : AV) (hcs : c.scalar = true) (hp : p = .lit (.pointer none) ∨ p = .gptr id 0) (M M' : Nat → Option (List AV)) (hM : M id = some [p, c]) (hM' : setM M id [.gptr id 0, c] = M') : ACall Tryz.prog 52 [.gptr id 0] M (fun r M1 => r = .tuple [] ∧ M1 = M') := by
  rcases hp with rfl | rfl
  · exact copyCheck_nil M id hid c hcs M' hM hM'
  · rw [setM_same hM] at hM'
    subst hM'
    exact copyCheck_used M id hid c hcs hM

set_option maxRecDepth 20000 in
theorem WriteByte_nil (M : Nat → Option (List AV)) (id : Nat) (hid : id % 10000 = 77) (ch : UInt8) (p : AV) (hp : p = .lit (.pointer none) ∨ p = .gptr id 0) (M' : Nat → Option (List AV)) (hM : M id = some [p, .lit (.slice none 0 0)]) (hM' : setM M id [.gptr id 0, .list true 5 (byteAVs (([] : List UInt8) ++ [ch]))] = M')  : ACall Tryz.prog 41 [.gptr id 0, .lit (.int .u8 (ch.toNat : Int))] M (fun r M1 => r = .lit .nilIface ∧ M1 = M') := by
  have hps : p.scalar = true := by rcases hp with rfl | rfl <;> rfl
  refine ACall.of Tryz.func41 rfl (n := 17) rfl rfl rfl ?_
  refine zg ?_
  refine zM (.lit .nilIface) ?_
  refine zN ?_
  refine zg ?_
  refine zM (.gptr id 0) ?_
  refine zc [.gptr id 0] Tryz.call52 (copyCheck_any id hid p (.lit (.slice none 0 0)) rfl hp M (setM M id [.gptr id 0, .lit (.slice none 0 0)]) hM rfl) ?_
  rintro _ _ ⟨rfl, rfl⟩
  refine zN ?_
  refine zg ?_
  refine zM (.gptr id 0) ?_
  refine zM (.gptr id 0) ?_
  refine zr (znc (.gptr id 0)) ?_
  refine zr (zfG Tryz.underlying77 sizeOf_28) ?_
  refine zr (zlG (.lit (.slice none 0 0)) Tryz.underlying28 sizeOf_28 setM_get) ?_
  refine zM (.lit (.int .u8 (ch.toNat : Int))) ?_
  refine zbS [] (byteAVs [ch]) Tryz.underlying28 Tryz.i5 ?_
  refine AOps.asList (r := 11) 5 rfl ?_
  refine zap (m1 := 0) (m2 := 1) 1 (byteAVs ([] : List UInt8)) (byteAVs [ch]) (byteAVs (([] : List UInt8) ++ [ch])) Tryz.underlying28 Tryz.underlying28 Tryz.i5 rfl rfl (by simp [byteAVs]) ?_
  refine zr (znc (.gptr id 0)) ?_
  refine zr (zfG Tryz.underlying77 sizeOf_28) ?_
  refine AOps.storeOwn trivial rfl rfl rfl setM_get sizeOf_28 rfl (Nat.le_of_ble_eq_true rfl) setM_setM ?_
  refine zN ?_
  refine zg ?_
  refine zM (.lit .nilIface) ?_
  refine zN ?_
  refine AWp.ret ?_
  exact ⟨.inl rfl, _, ResOf.one 4 (.lit .nilIface) rfl rfl, ⟨rfl, hM'⟩⟩

set_option maxRecDepth 20000 in
theorem WriteByte_list (M : Nat → Option (List AV)) (id : Nat) (hid : id % 10000 = 77) (l : List UInt8) (hl : l.length < 140737488355328) (ch : UInt8) (p : AV) (hp : p = .lit (.pointer none) ∨ p = .gptr id 0) (M' : Nat → Option (List AV)) (hM : M id = some [p, .list true 5 (byteAVs l)]) (hM' : setM M id [.gptr id 0, .list true 5 (byteAVs (l ++ [ch]))] = M')  : ACall Tryz.prog 41 [.gptr id 0, .lit (.int .u8 (ch.toNat : Int))] M (fun r M1 => r = .lit .nilIface ∧ M1 = M') := by
  have hps : p.scalar = true := by rcases hp with rfl | rfl <;> rfl
  refine ACall.of Tryz.func41 rfl (n := 17) rfl rfl rfl ?_
  refine zg ?_
  refine zM (.lit .nilIface) ?_
  refine zN ?_
  refine zg ?_
  refine zM (.gptr id 0) ?_
  refine zc [.gptr id 0] Tryz.call52 (copyCheck_any id hid p (.list true 5 (byteAVs l)) rfl hp M (setM M id [.gptr id 0, .list true 5 (byteAVs l)]) hM rfl) ?_
  rintro _ _ ⟨rfl, rfl⟩
  refine zN ?_
  refine zg ?_
  refine zM (.gptr id 0) ?_
  refine zM (.gptr id 0) ?_
  refine zr (znc (.gptr id 0)) ?_
  refine zr (zfG Tryz.underlying77 sizeOf_28) ?_
  refine AOps.grabG trivial rfl (by decide) rfl Tryz.underlying28 rfl setM_get rfl rfl setM_setM ?_
  refine zM (.lit (.int .u8 (ch.toNat : Int))) ?_
  refine zbS [] (byteAVs [ch]) Tryz.underlying28 Tryz.i5 ?_
  refine zap (m1 := l.length) (m2 := 1) 1 (byteAVs l) (byteAVs [ch]) (byteAVs (l ++ [ch])) Tryz.underlying28 Tryz.underlying28 Tryz.i5 (byteAVs_len _) rfl (by simp [byteAVs]) ?_
  refine zr (znc (.gptr id 0)) ?_
  refine zr (zfG Tryz.underlying77 sizeOf_28) ?_
  refine AOps.storeOwn trivial rfl rfl rfl setM_get sizeOf_28 rfl (Nat.le_of_ble_eq_true rfl) setM_setM ?_
  refine zN ?_
  refine zg ?_
  refine zM (.lit .nilIface) ?_
  refine zN ?_
  refine AWp.ret ?_
  exact ⟨.inl rfl, _, ResOf.one 4 (.lit .nilIface) rfl rfl, ⟨rfl, hM'⟩⟩

set_option maxRecDepth 20000 in
theorem WriteString_nil (M : Nat → Option (List AV)) (id : Nat) (hid : id % 10000 = 77) (t : List UInt8) (hl : t.length ≤ 140737488355328) (p : AV) (hp : p = .lit (.pointer none) ∨ p = .gptr id 0) (M' : Nat → Option (List AV)) (hM : M id = some [p, .lit (.slice none 0 0)]) (hM' : setM M id [.gptr id 0, .list true 5 (byteAVs (([] : List UInt8) ++ t))] = M')  : ACall Tryz.prog 42 [.gptr id 0, .str t] M (fun r M1 => r = .tuple [zI t.length, .lit .nilIface] ∧ M1 = M') := by
  have hps : p.scalar = true := by rcases hp with rfl | rfl <;> rfl
  refine ACall.of Tryz.func42 rfl (n := 19) rfl rfl rfl ?_
  refine zg ?_
  refine zM (zI 0) ?_
  refine zM (.lit .nilIface) ?_
  refine zN ?_
  refine zg ?_
  refine zM (.gptr id 0) ?_
  refine zc [.gptr id 0] Tryz.call52 (copyCheck_any id hid p (.lit (.slice none 0 0)) rfl hp M (setM M id [.gptr id 0, .lit (.slice none 0 0)]) hM rfl) ?_
  rintro _ _ ⟨rfl, rfl⟩
  refine zN ?_
  refine zg ?_
  refine zM (.gptr id 0) ?_
  refine zM (.gptr id 0) ?_
  refine zr (znc (.gptr id 0)) ?_
  refine zr (zfG Tryz.underlying77 sizeOf_28) ?_
  refine zr (zlG (.lit (.slice none 0 0)) Tryz.underlying28 sizeOf_28 setM_get) ?_
  refine zM (.str t) ?_
  refine AOps.asList (r := 12) 5 rfl ?_
  refine AOps.appS (bytes := 1) trivial rfl (by decide) (by decide) rfl rfl rfl rfl Tryz.underlying28 Tryz.underlying9 Tryz.i5 rfl rfl rfl rfl (xs := (byteAVs ([] : List UInt8))) (l := t) (zs := (byteAVs (([] : List UInt8) ++ t))) rfl rfl (m1 := 0) (m2 := t.length) rfl rfl (by first | omega | (unfold maxLen; omega)) (by omega) (by simp [byteAVs]) ?_
  refine zr (znc (.gptr id 0)) ?_
  refine zr (zfG Tryz.underlying77 sizeOf_28) ?_
  refine AOps.storeOwn trivial rfl rfl rfl setM_get sizeOf_28 rfl (Nat.le_of_ble_eq_true rfl) setM_setM ?_
  refine zN ?_
  refine zg ?_
  refine zM (.str t) ?_
  refine zr (zS t t.length Tryz.underlying9) ?_
  refine zM (zI (t.length : Int)) ?_
  refine zM (.lit .nilIface) ?_
  refine zN ?_
  refine AWp.ret ?_
  exact ⟨.inl rfl, _, ResOf.two 4 5 (zI (t.length : Int)) (.lit .nilIface) rfl rfl (.inl rfl) (.inl rfl) (by decide), ⟨rfl, hM'⟩⟩

set_option maxRecDepth 20000 in
theorem WriteString_list (M : Nat → Option (List AV)) (id : Nat) (hid : id % 10000 = 77) (l t : List UInt8) (hl : l.length + t.length ≤ 140737488355328) (p : AV) (hp : p = .lit (.pointer none) ∨ p = .gptr id 0) (M' : Nat → Option (List AV)) (hM : M id = some [p, .list true 5 (byteAVs l)]) (hM' : setM M id [.gptr id 0, .list true 5 (byteAVs (l ++ t))] = M')  : ACall Tryz.prog 42 [.gptr id 0, .str t] M (fun r M1 => r = .tuple [zI t.length, .lit .nilIface] ∧ M1 = M') := by
  have hps : p.scalar = true := by rcases hp with rfl | rfl <;> rfl
  refine ACall.of Tryz.func42 rfl (n := 19) rfl rfl rfl ?_
  refine zg ?_
  refine zM (zI 0) ?_
  refine zM (.lit .nilIface) ?_
  refine zN ?_
  refine zg ?_
  refine zM (.gptr id 0) ?_
  refine zc [.gptr id 0] Tryz.call52 (copyCheck_any id hid p (.list true 5 (byteAVs l)) rfl hp M (setM M id [.gptr id 0, .list true 5 (byteAVs l)]) hM rfl) ?_
  rintro _ _ ⟨rfl, rfl⟩
  refine zN ?_
  refine zg ?_
  refine zM (.gptr id 0) ?_
  refine zM (.gptr id 0) ?_
  refine zr (znc (.gptr id 0)) ?_
  refine zr (zfG Tryz.underlying77 sizeOf_28) ?_
  refine AOps.grabG trivial rfl (by decide) rfl Tryz.underlying28 rfl setM_get rfl rfl setM_setM ?_
  refine zM (.str t) ?_
  refine AOps.appS (bytes := 1) trivial rfl (by decide) (by decide) rfl rfl rfl rfl Tryz.underlying28 Tryz.underlying9 Tryz.i5 rfl rfl rfl rfl (xs := (byteAVs l)) (l := t) (zs := (byteAVs (l ++ t))) rfl rfl (m1 := l.length) (m2 := t.length) (byteAVs_len _) rfl (by first | omega | (unfold maxLen; omega)) (by omega) (by simp [byteAVs]) ?_
  refine zr (znc (.gptr id 0)) ?_
  refine zr (zfG Tryz.underlying77 sizeOf_28) ?_
  refine AOps.storeOwn trivial rfl rfl rfl setM_get sizeOf_28 rfl (Nat.le_of_ble_eq_true rfl) setM_setM ?_
  refine zN ?_
  refine zg ?_
  refine zM (.str t) ?_
  refine zr (zS t t.length Tryz.underlying9) ?_
  refine zM (zI (t.length : Int)) ?_
  refine zM (.lit .nilIface) ?_
  refine zN ?_
  refine AWp.ret ?_
  exact ⟨.inl rfl, _, ResOf.two 4 5 (zI (t.length : Int)) (.lit .nilIface) rfl rfl (.inl rfl) (.inl rfl) (by decide), ⟨rfl, hM'⟩⟩

/-- What a builder's buffer reads as. -/
def bufAV (l : List UInt8) : AV := if l = [] then .lit (.slice none 0 0) else .list true 5 (byteAVs l)
theorem bufAV_ne {l : List UInt8} (h : l ≠ []) : bufAV l = .list true 5 (byteAVs l) := if_neg h
theorem WriteByte_any (id : Nat) (hid : id % 10000 = 77) (l : List UInt8) (hl : l.length < 140737488355328) (ch : UInt8) (p : AV) (hp : p = .lit (.pointer none) ∨ p = .gptr id 0) (M M' : Nat → Option (List AV)) (hM : M id = some [p, bufAV l]) (hM' : setM M id [.gptr id 0, bufAV (l ++ [ch])] = M') :
    ACall Tryz.prog 41 [.gptr id 0, .lit (.int .u8 (ch.toNat : Int))] M (fun r M1 => r = .lit .nilIface ∧ M1 = M') := by
  rw [bufAV_ne (by simp)] at hM'
  by_cases h : l = []
  · subst h
    exact WriteByte_nil M id hid ch p hp M' hM hM'
  · rw [bufAV_ne h] at hM
    exact WriteByte_list M id hid l hl ch p hp M' hM hM'
theorem WriteString_any (id : Nat) (hid : id % 10000 = 77) (l t : List UInt8) (hl : l.length + t.length ≤ 140737488355328) (hne : l ++ t ≠ []) (p : AV) (hp : p = .lit (.pointer none) ∨ p = .gptr id 0) (M M' : Nat → Option (List AV)) (hM : M id = some [p, bufAV l]) (hM' : setM M id [.gptr id 0, bufAV (l ++ t)] = M') :
    ACall Tryz.prog 42 [.gptr id 0, .str t] M (fun r M1 => r = .tuple [zI t.length, .lit .nilIface] ∧ M1 = M') := by
  rw [bufAV_ne hne] at hM'
  by_cases h : l = []
  · subst h
    exact WriteString_nil M id hid t (by simpa using hl) p hp M' hM hM'
  · rw [bufAV_ne h] at hM
    exact WriteString_list M id hid l t hl p hp M' hM hM'
end
section
open Go.RowKit

set_option maxHeartbeats 2000000 in
set_option maxRecDepth 100000 in
theorem String_row (b g cap : Nat) (pv : Value) (cur : Array Value) (l : List UInt8) (w : World) (hbk : w.heap[b]? = some (.cells #[pv, .slice (some ⟨g, 0, none⟩) l.length cap] 77 (0, 0)))
    (hg : w.heap[g]? = some (.cells cur 5 (0, 0))) (h0 : l ≠ []) (hn : l.length ≤ cur.size) (hcap : cap ≠ 0) (h63 : l.length ≤ 9223372036854775807) (hc : ∀ j x, l[j]? = some x → w.cell? ⟨g, j, none⟩ = some (.int .u8 x.toNat)) :
    Calls Tryz.prog 43 #[.pointer (some ⟨b, 0, none⟩)] w fun e w' => e = .returned (.string ⟨l.toArray⟩) ∧ w' = w.drew.freeze ⟨g, 0, none⟩ l.length := by
  have c1 : w.drew.cell? ⟨b, 1, none⟩ = some (.slice (some ⟨g, 0, none⟩) l.length cap) := by
    have : w.drew.heap[b]? = some (.cells #[pv, .slice (some ⟨g, 0, none⟩) l.length cap] 77 (0, 0)) := hbk
    rw [Lib.cell_of_heap this]; rfl
  have hSD : (Builtin.unsafeSliceData_ #[28] 94 #[.slice (some ⟨g, 0, none⟩) l.length cap]).run Tryz.prog w.drew = .ok (.pointer (some ⟨g, 0, none⟩)) w.drew :=
    Lib.run_unsafeSliceData_row _ _ _ _ _ _ hcap
  have hUS : (Builtin.unsafeString_ #[94, 3] 9 #[.pointer (some ⟨g, 0, none⟩), .int .i64 l.length]).run Tryz.prog w.drew = .ok (.string ⟨l.toArray⟩) (w.drew.freeze ⟨g, 0, none⟩ l.length) := by
    refine Lib.run_unsafeString_row w.drew _ _ _ 5 Tryz.underlying94 (by kernel_rfl) g cur.size (by have hg' : w.drew.heap[g]? = some (.cells cur 5 (0, 0)) := hg; simp [World.shape?, hg']) l h0 hn h63 ?_
    intro j x hx
    rw [Addr.add_mid, Nat.zero_add]
    exact hc j x hx
  have mixed : Tryz.prog.follows .mixedOrders = true := by kernel_rfl
  go_enter Tryz.func43, Tryz.ntmps43
  go_wp2
  go_region_o
  all_goals (go_wp2; go_ret; exact ⟨rfl, rfl⟩)

set_option maxHeartbeats 2000000 in
set_option maxRecDepth 100000 in
theorem String_nil (b : Nat) (pv : Value) (w : World) (hbk : w.heap[b]? = some (.cells #[pv, .slice none 0 0] 77 (0, 0))) :
    Calls Tryz.prog 43 #[.pointer (some ⟨b, 0, none⟩)] w fun e w' => e = .returned (.string ⟨#[]⟩) ∧ w' = w.drew := by
  have c1 : w.drew.cell? ⟨b, 1, none⟩ = some (.slice none 0 0) := by
    have : w.drew.heap[b]? = some (.cells #[pv, .slice none 0 0] 77 (0, 0)) := hbk
    rw [Lib.cell_of_heap this]; rfl
  have hSD : (Builtin.unsafeSliceData_ #[28] 94 #[.slice none 0 0]).run Tryz.prog w.drew = .ok (.pointer none) w.drew := rfl
  have hUS : ∀ W : World, (Builtin.unsafeString_ #[94, 3] 9 #[.pointer none, .int .i64 0]).run Tryz.prog W = .ok (.string .empty) W := fun W => Lib.run_unsafeString_none W _ _ _ none
  have mixed : Tryz.prog.follows .mixedOrders = true := by kernel_rfl
  go_enter Tryz.func43, Tryz.ntmps43
  go_wp2
  go_region_o
  all_goals (go_wp2; go_ret; exact ⟨rfl, rfl⟩)
end
section
open Go.RowKit

/-- An object less. -/
def delM (M : Nat → Option (List AV)) (id : Nat) : Nat → Option (List AV) := fun i => if i = id then none else M i
theorem delM_ne {M : Nat → Option (List AV)} {id i : Nat} (h : i ≠ id) : delM M id i = M i := by simp [delM, h]
theorem delM_set {M : Nat → Option (List AV)} {id : Nat} {cs : List AV} (h : M id = none) : delM (setM M id cs) id = M := by
  funext i; simp only [delM, setM]
  by_cases e : i = id
  · subst e; simp [h]
  · simp [e]
/-- Nobody owns what the object owned. -/
def Gh.forget (G : Gh) (id : Nat) : Gh := { G with owner := fun b => match G.owner b with | some (.mb i) => if i = id then none else some (.mb i) | some (.mc i j) => if i = id then none else some (.mc i j) | q => q }
theorem forget_own {G : Gh} {id b : Nat} {q : Pos} (h : G.owner b = some q) (h1 : q ≠ .mb id) (h2 : ∀ j, q ≠ .mc id j) : (G.forget id).owner b = some q := by
  show (match G.owner b with | some (.mb i) => if i = id then none else some (Pos.mb i) | some (.mc i j) => if i = id then none else some (.mc i j) | q => q) = some q
  rw [h]
  cases q with
  | mb i => simp only; rw [if_neg (fun e => h1 (by rw [e]))]
  | mc i j => simp only; rw [if_neg (fun e => h2 j (by rw [e]))]
  | _ => rfl
theorem forget_none {G : Gh} {id b : Nat} (h : G.owner b = none) : (G.forget id).owner b = none := by
  show (match G.owner b with | some (.mb i) => if i = id then none else some (Pos.mb i) | some (.mc i j) => if i = id then none else some (.mc i j) | q => q) = none
  rw [h]

theorem String_any (id : Nat) (hid : id % 10000 = 77) (l : List UInt8) (hl : l.length ≤ 140737488355328) (p : AV) (M M' : Nat → Option (List AV)) (hM : M id = some [p, bufAV l]) (hM' : delM M id = M') :
    ACall Tryz.prog 43 [.gptr id 0] M (fun r M1 => r = .str l ∧ M1 = M') := by
  subst hM'
  intro G w vs hm hfx hlen hrel
  obtain ⟨v, rfl, hv⟩ := arg1 hlen hrel
  cases hv with
  | gptr _ _ b hb =>
  obtain ⟨b', hb', hX⟩ := hm.obj id _ hM
  rcases hX with ⟨hH, arr0, hty⟩ | ⟨S, e, _⟩ | e | ⟨S, e, _⟩ | ⟨_, _, e, _⟩
  rotate_left
  · simp [mapA] at e
  · cases e
  · simp [mapG] at e
  · simp [bytA] at e
  rw [hb] at hb'
  cases hb'
  obtain ⟨arr, T, hh, hsz, ho1, ht1, hsc, hrr⟩ := hH
  rw [hh] at hty
  injection hty with hty
  injection hty with _ hT _
  rw [hid] at hT
  subst hT
  obtain ⟨pv, sv, rfl⟩ : ∃ pv sv, arr = #[pv, sv] := by
    obtain ⟨la⟩ := arr
    match la, hsz with
    | [x, y], _ => exact ⟨x, y, rfl⟩
  have hs1 := hrr 1 (bufAV l) sv rfl rfl
  -- what is to be shown of whatever world behind that keeps all but the row
  have key : ∀ (w' : World) (g : Nat), (∀ a, w'.cell? a = w.cell? a) → w'.heap.size = w.heap.size → w'.os = w.os → w'.tape = w.tape → w'.output = w.output → (∀ b, (G.owner b = none ∨ ∃ q, G.owner b = some q ∧ q ≠ .mb id ∧ ∀ j, q ≠ .mc id j) → w'.heap[b]? = w.heap[b]?) →
      ∃ r M1 G' u, Ending.returned (.string ⟨l.toArray⟩) = .returned u ∧ (r = .str l ∧ M1 = delM M id) ∧ r.isL = false ∧ RelS Tryz.prog G' w' .res r u ∧ RelM Tryz.prog G' w' M1 ∧ Keep G w G' w' := by
    intro w' g hcell hz hos htp hout hoth
    have st : Stab G w (G.forget id) w' := ⟨fun _ => Nat.le_refl _, fun b o _ => hcell _, fun _ _ h => h⟩
    refine ⟨_, _, G.forget id, _, rfl, ⟨rfl, rfl⟩, rfl, RelV.str _, ⟨fun i cs hi => ?_, fun b hb => ?_, hm.fin⟩, ⟨hos, htp, hout, by omega, fun b hb hn => ⟨forget_none hn, hoth b (.inl hn), rfl⟩, st⟩⟩
    · by_cases e : i = id
      · subst e; simp [delM] at hi
      · rw [delM_ne e] at hi
        obtain ⟨b2, hb2, hh2⟩ := hm.obj i cs hi
        have n1 : (Pos.mb i) ≠ .mb id := fun h => e (by injection h)
        refine ⟨b2, hb2, hh2.move st (by omega) (fun _ how => ⟨hoth b2 (.inr ⟨_, how, n1, fun j h => by cases h⟩), (forget_own how n1 (fun j h => by cases h)).trans how.symm, rfl⟩) (fun c b h1 h2 => ?_)⟩
        have n2 : ∀ j, (Pos.mc i c) ≠ .mc id j := fun j h => e (by injection h)
        exact ⟨forget_own h2 (fun h => by cases h) n2, hoth b (.inr ⟨_, h2, (fun h => by cases h), n2⟩), rfl⟩
    · exact ⟨(hm.far b (by omega)).1, forget_none (hm.far b (by omega)).2⟩
  have hd : ∀ B : Nat, Below B w w.drew := fun B => Below.drew (Below.refl B w)
  by_cases h0 : l = []
  · subst h0
    have hs : sv = .slice none 0 0 := relO_lit hs1
    subst hs
    refine (String_nil b pv w hh).mono ?_
    rintro e w' ⟨rfl, rfl⟩
    exact key w.drew 0 (fun _ => rfl) rfl rfl (hd 0).tape rfl (fun _ _ => rfl)
  · rw [bufAV_ne h0] at hs1
    rcases hs1 with ⟨size, us, hsE, hle, hsc2, hown, hr, hbk⟩ | ⟨he, _⟩
    · obtain ⟨hul, hown2⟩ := hown
      have hsize : size = 1 := by
        have := (sizeOf_5 : SizeOf _ _ _)
        unfold SizeOf at hsE this
        rw [hsE] at this
        simpa using this
      subst hsize
      rw [byteAVs_len] at hul hown2
      have hl0 : l.length ≠ 0 := by simpa using h0
      rcases hown2 with ⟨_, hz⟩ | ⟨g, cap, cur, rfl, _, hg, hcap, hcm, hcs, htk⟩
      · exact absurd hz hl0
      · obtain ⟨hb1, hb2, hb3⟩ := hbk g rfl
        have hcell : ∀ j x, l[j]? = some x → w.cell? ⟨g, j, none⟩ = some (.int .u8 x.toNat) := by
          intro j x hx
          have hjl := (List.getElem?_eq_some_iff.1 hx).1
          have hav : ((byteAVs l).flatMap AV.cells)[j]? = some (.lit (.int .u8 x.toNat)) := by rw [byteAVs_flat, byteAVs_get, hx]; rfl
          have hju : j < us.length := by omega
          have e1 := relV_lit (hr j _ us[j] hav (List.getElem?_eq_getElem hju))
          have e2 : cur.toList[j]? = some us[j] := by
            have : (cur.toList.take (l.length * 1))[j]? = some us[j] := by rw [htk]; exact List.getElem?_eq_getElem hju
            rwa [List.getElem?_take_of_lt (by omega)] at this
          rw [Lib.cell_of_heap hg, ← e1]
          simpa using e2
        refine (String_row b g cap pv cur l w hh hg h0 (by omega) (by omega) (by omega) hcell).mono ?_
        rintro e w' ⟨rfl, rfl⟩
        refine key _ g (fun a => by rw [cell_freeze]; rfl) (by rw [size_freeze]; rfl) ?_ ?_ ?_ (fun b hb => ?_)
        · unfold World.freeze; split <;> rfl
        · unfold World.freeze; split <;> exact (hd 0).tape
        · unfold World.freeze; split <;> rfl
        · rw [heap_freeze (fun e => ?_)]
          · rfl
          · subst e
            rcases hb with hb | ⟨q, hq, _, h2⟩
            · rw [hb2] at hb; cases hb
            · rw [hb2] at hq; cases hq; exact h2 1 rfl
    · exact absurd (by simpa [byteAVs] using he) h0
end
section
open Go.RowKit

/-- The builder's own mark: none, or itself. -/
def bldP (o : Nat) (u : Bool) : AV := bif u then .gptr o 0 else .lit (.pointer none)
theorem bldP_or (o : Nat) (u : Bool) : bldP o u = .lit (.pointer none) ∨ bldP o u = .gptr o 0 := by
  cases u
  · exact .inl rfl
  · exact .inr rfl
def wrO (l t : List UInt8) : Option (List UInt8) := if l ++ t = [] then none else appO l t
theorem wrO_ok {l t r : List UInt8} (h : wrO l t = some r) : l ++ t ≠ [] ∧ l.length + t.length ≤ lim ∧ r = l ++ t := by
  unfold wrO at h
  split at h
  · cases h
  · exact ⟨‹_›, appO_ok h⟩
theorem lim_le {n : Nat} (h : n ≤ lim) : n < 140737488355328 := by
  unfold lim at h; omega
theorem ndO_one {i : Nat} {c c' : List AV} {base : Nat → Option (List AV)} (h : ndO [(i, c)] base) : ndO [(i, c')] base := h
theorem bldByte_w {i : Nat} {u : Bool} {c : UInt8} {l r : List UInt8} (hid : i % 10000 = 77) (h : wrO l [c] = some r) :
    FCall Tryz.prog 41 [.gptr i 0, zU8 c] [(i, [bldP i u, bufAV l])] fun v outs => v = .lit .nilIface ∧ outs = [(i, [bldP i true, bufAV r])] := by
  obtain ⟨_, h1, rfl⟩ := wrO_ok h
  intro base hnd
  refine (WriteByte_any i hid l (by have := lim_le h1; simp at this; omega) c (bldP i u) (bldP_or i u) _ _ setM_get rfl).mono ?_
  rintro r M ⟨rfl, rfl⟩
  exact ⟨_, ⟨rfl, rfl⟩, setM_setM, ndO_one hnd⟩
theorem bldStr_w {i : Nat} {u : Bool} {l t r : List UInt8} (hid : i % 10000 = 77) (h : wrO l t = some r) :
    FCall Tryz.prog 42 [.gptr i 0, .str t] [(i, [bldP i u, bufAV l])] fun v outs => v = .tuple [zI t.length, .lit .nilIface] ∧ outs = [(i, [bldP i true, bufAV r])] := by
  obtain ⟨h0, h1, rfl⟩ := wrO_ok h
  intro base hnd
  refine (WriteString_any i hid l t (Nat.le_of_lt (lim_le h1)) h0 (bldP i u) (bldP_or i u) _ _ setM_get rfl).mono ?_
  rintro r M ⟨rfl, rfl⟩
  exact ⟨_, ⟨rfl, rfl⟩, setM_setM, ndO_one hnd⟩
theorem bldOut_w {i : Nat} {u : Bool} {l r : List UInt8} (hid : i % 10000 = 77) (h : bytesO l = some r) :
    FCall Tryz.prog 43 [.gptr i 0] [(i, [bldP i u, bufAV l])] fun v outs => v = .str r ∧ outs = [] := by
  obtain ⟨h1, rfl⟩ := bytesO_ok h
  intro base hnd
  refine (String_any i hid r (Nat.le_of_lt (lim_le h1)) (bldP i u) _ base setM_get (delM_set (hnd.2 i (by simp)))).mono ?_
  rintro r M ⟨rfl, rfl⟩
  exact ⟨[], ⟨rfl, rfl⟩, rfl, List.nodup_nil, fun i hi => by cases hi⟩
end
section
open Go.RowKit
theorem sz_3 : SizeOf Tryz.prog 3 1 := by unfold SizeOf; kernel_rfl
theorem sz_22 : SizeOf Tryz.prog 22 3 := by unfold SizeOf; kernel_rfl
theorem i_70 : Tryz.prog.info? 70 = some Tryz.t70 := by kernel_rfl
def nmbL : List (List UInt8 × List Nat) := [([99, 97, 112, 97, 99, 105, 116, 121], [0, 1, 2]), ([97, 108, 108, 111, 99, 97, 116, 97, 98, 108, 101], [3, 4, 5]), ([112, 101, 114, 105, 111, 100], [7]), ([114, 101, 116, 114, 105, 101, 115], [8]), ([109, 97, 120, 97, 103, 101], [9]), ([100, 101, 97, 100], [10])]
set_option maxRecDepth 20000 in
theorem numbers_any (i0 : Nat) (M : Nat → Option (List AV)) : ACall Tryz.prog 18 [.gptr i0 0] M (fun r M' => ∃ id T, r = .gmap id ∧ M id = none ∧ T.Perm nmbL ∧ M' = setM M id (mapO keS (fun (x : List Nat) => AV.list false 70 (x.map fun k => .gptr i0 k)) T)) := by
  refine ACall.of Tryz.func18 rfl (n := 47) rfl rfl rfl ?_
  refine zg ?_
  refine zM (.lit (.map none)) ?_
  refine zN ?_
  refine AWp.seq (AWp.anyGs (κ := List UInt8) (β := List Nat) (ke := keS) (vf := (fun (x : List Nat) => AV.list false 70 (x.map fun k => .gptr i0 k))) [0, 2] [] 0 (fun id => [[(3, .gmap id)], [(4, .gptr i0 0)], [(5, .gptr i0 0)], [(6, .gptr i0 0)], [(7, .gptr i0 0)], [(8, .gptr i0 0)], [(9, .gptr i0 0)], [(10, .gptr i0 0)], [(11, .gptr i0 1)], [(12, .gptr i0 0)], [(13, .gptr i0 0)], [(14, .gptr i0 0)], [(15, .gptr i0 2)], [(16, .list true 70 [.gptr i0 0, .gptr i0 1, .gptr i0 2])], [], [(17, .gptr i0 0)], [(18, .gptr i0 0)], [(19, .gptr i0 3)], [(20, .gptr i0 3)], [(21, .gptr i0 0)], [(22, .gptr i0 0)], [(23, .gptr i0 3)], [(24, .gptr i0 4)], [(25, .gptr i0 0)], [(26, .gptr i0 0)], [(27, .gptr i0 3)], [(28, .gptr i0 5)], [(29, .list true 70 [.gptr i0 3, .gptr i0 4, .gptr i0 5])], [], [(30, .gptr i0 0)], [(31, .gptr i0 0)], [(32, .gptr i0 7)], [(33, .list true 70 [.gptr i0 7])], [], [(34, .gptr i0 0)], [(35, .gptr i0 0)], [(36, .gptr i0 8)], [(37, .list true 70 [.gptr i0 8])], [], [(38, .gptr i0 0)], [(39, .gptr i0 0)], [(40, .gptr i0 9)], [(41, .list true 70 [.gptr i0 9])], [], [(42, .gptr i0 0)], [(43, .gptr i0 0)], [(44, .gptr i0 10)], [(45, .list true 70 [.gptr i0 10])], [], [(46, .gmap id)], [(2, .gmap id)]]) (fun id => [[], [(0, none, .gptr i0 0)], [(4, some 1, .gptr i0 0)], [(5, some 2, .gptr i0 0)], [(6, some 3, .gptr i0 0)], [(0, none, .gptr i0 0)], [(8, some 5, .gptr i0 0)], [(9, some 6, .gptr i0 0)], [(10, some 7, .gptr i0 0)], [(0, none, .gptr i0 0)], [(12, some 9, .gptr i0 0)], [(13, some 10, .gptr i0 0)], [(14, some 11, .gptr i0 0)], [(7, some 4, .gptr i0 0), (11, some 8, .gptr i0 1), (15, some 12, .gptr i0 2)], [(3, some 0, .gmap id), (16, some 13, .list true 70 [.gptr i0 0, .gptr i0 1, .gptr i0 2])], [(0, none, .gptr i0 0)], [(17, some 15, .gptr i0 0)], [(18, some 16, .gptr i0 0)], [(19, some 17, .gptr i0 3)], [(0, none, .gptr i0 0)], [(21, some 19, .gptr i0 0)], [(22, some 20, .gptr i0 0)], [(23, some 21, .gptr i0 3)], [(0, none, .gptr i0 0)], [(25, some 23, .gptr i0 0)], [(26, some 24, .gptr i0 0)], [(27, some 25, .gptr i0 3)], [(20, some 18, .gptr i0 3), (24, some 22, .gptr i0 4), (28, some 26, .gptr i0 5)], [(3, some 0, .gmap id), (29, some 27, .list true 70 [.gptr i0 3, .gptr i0 4, .gptr i0 5])], [(0, none, .gptr i0 0)], [(30, some 29, .gptr i0 0)], [(31, some 30, .gptr i0 0)], [(32, some 31, .gptr i0 7)], [(3, some 0, .gmap id), (33, some 32, .list true 70 [.gptr i0 7])], [(0, none, .gptr i0 0)], [(34, some 34, .gptr i0 0)], [(35, some 35, .gptr i0 0)], [(36, some 36, .gptr i0 8)], [(3, some 0, .gmap id), (37, some 37, .list true 70 [.gptr i0 8])], [(0, none, .gptr i0 0)], [(38, some 39, .gptr i0 0)], [(39, some 40, .gptr i0 0)], [(40, some 41, .gptr i0 9)], [(3, some 0, .gmap id), (41, some 42, .list true 70 [.gptr i0 9])], [(0, none, .gptr i0 0)], [(42, some 44, .gptr i0 0)], [(43, some 45, .gptr i0 0)], [(44, some 46, .gptr i0 10)], [(3, some 0, .gmap id), (45, some 47, .list true 70 [.gptr i0 10])], [(3, some 0, .gmap id)], [(46, some 49, .gmap id)]]) [(14, [99, 97, 112, 97, 99, 105, 116, 121], [0, 1, 2]), (28, [97, 108, 108, 111, 99, 97, 116, 97, 98, 108, 101], [3, 4, 5]), (33, [112, 101, 114, 105, 111, 100], [7]), (38, [114, 101, 116, 114, 105, 101, 115], [8]), (43, [109, 97, 120, 97, 103, 101], [9]), (48, [100, 101, 97, 100], [10])] ?_ ?_)
  · refine hgN ?_
    refine hgV (fun id fr mem h => ?_) ?_
    · obtain ⟨_h0, -⟩ := h
      refine zM (.gptr i0 0) ?_
      exact zN rfl
    refine hgV (fun id fr mem h => ?_) ?_
    · obtain ⟨_h0, -⟩ := h
      refine zr (znc (.gptr i0 0)) ?_
      exact zN rfl
    refine hgV (fun id fr mem h => ?_) ?_
    · obtain ⟨_h0, -⟩ := h
      refine zr (zfG Tryz.underlying25 sz_22) ?_
      exact zN rfl
    refine hgV (fun id fr mem h => ?_) ?_
    · obtain ⟨_h0, -⟩ := h
      refine zr (ziG 0 Tryz.underlying22 sz_3) ?_
      exact zN rfl
    refine hgV (fun id fr mem h => ?_) ?_
    · obtain ⟨_h0, -⟩ := h
      refine zM (.gptr i0 0) ?_
      exact zN rfl
    refine hgV (fun id fr mem h => ?_) ?_
    · obtain ⟨_h0, -⟩ := h
      refine zr (znc (.gptr i0 0)) ?_
      exact zN rfl
    refine hgV (fun id fr mem h => ?_) ?_
    · obtain ⟨_h0, -⟩ := h
      refine zr (zfG Tryz.underlying25 sz_22) ?_
      exact zN rfl
    refine hgV (fun id fr mem h => ?_) ?_
    · obtain ⟨_h0, -⟩ := h
      refine zr (ziG 1 Tryz.underlying22 sz_3) ?_
      exact zN rfl
    refine hgV (fun id fr mem h => ?_) ?_
    · obtain ⟨_h0, -⟩ := h
      refine zM (.gptr i0 0) ?_
      exact zN rfl
    refine hgV (fun id fr mem h => ?_) ?_
    · obtain ⟨_h0, -⟩ := h
      refine zr (znc (.gptr i0 0)) ?_
      exact zN rfl
    refine hgV (fun id fr mem h => ?_) ?_
    · obtain ⟨_h0, -⟩ := h
      refine zr (zfG Tryz.underlying25 sz_22) ?_
      exact zN rfl
    refine hgV (fun id fr mem h => ?_) ?_
    · obtain ⟨_h0, -⟩ := h
      refine zr (ziG 2 Tryz.underlying22 sz_3) ?_
      exact zN rfl
    refine hgV (fun id fr mem h => ?_) ?_
    · obtain ⟨_h0, _h1, _h2, -⟩ := h
      refine zbS [] [.gptr i0 0, .gptr i0 1, .gptr i0 2] Tryz.underlying67 i_70 ?_
      exact zN rfl
    refine hgI (ky := .const (keS [99, 97, 112, 97, 99, 105, 116, 121])) (vz := .tmp 16) (fun _ => [(16, some 13, .list true 70 [.gptr i0 0, .gptr i0 1, .gptr i0 2])]) 0 (keyS Tryz.underlying9) Tryz.underlying50 (fun _ _ _ _ _ _ _ _ => rfl) (fun id fr mem h => .inl ⟨un_of h.1 rfl, rfl⟩) ?_
    refine hgV (fun id fr mem h => ?_) ?_
    · obtain ⟨_h0, -⟩ := h
      refine zM (.gptr i0 0) ?_
      exact zN rfl
    refine hgV (fun id fr mem h => ?_) ?_
    · obtain ⟨_h0, -⟩ := h
      refine zr (znc (.gptr i0 0)) ?_
      exact zN rfl
    refine hgV (fun id fr mem h => ?_) ?_
    · obtain ⟨_h0, -⟩ := h
      refine zr (zfG Tryz.underlying25 sz_22) ?_
      exact zN rfl
    refine hgV (fun id fr mem h => ?_) ?_
    · obtain ⟨_h0, -⟩ := h
      refine zr (ziG 0 Tryz.underlying22 sz_3) ?_
      exact zN rfl
    refine hgV (fun id fr mem h => ?_) ?_
    · obtain ⟨_h0, -⟩ := h
      refine zM (.gptr i0 0) ?_
      exact zN rfl
    refine hgV (fun id fr mem h => ?_) ?_
    · obtain ⟨_h0, -⟩ := h
      refine zr (znc (.gptr i0 0)) ?_
      exact zN rfl
    refine hgV (fun id fr mem h => ?_) ?_
    · obtain ⟨_h0, -⟩ := h
      refine zr (zfG Tryz.underlying25 sz_22) ?_
      exact zN rfl
    refine hgV (fun id fr mem h => ?_) ?_
    · obtain ⟨_h0, -⟩ := h
      refine zr (ziG 1 Tryz.underlying22 sz_3) ?_
      exact zN rfl
    refine hgV (fun id fr mem h => ?_) ?_
    · obtain ⟨_h0, -⟩ := h
      refine zM (.gptr i0 0) ?_
      exact zN rfl
    refine hgV (fun id fr mem h => ?_) ?_
    · obtain ⟨_h0, -⟩ := h
      refine zr (znc (.gptr i0 0)) ?_
      exact zN rfl
    refine hgV (fun id fr mem h => ?_) ?_
    · obtain ⟨_h0, -⟩ := h
      refine zr (zfG Tryz.underlying25 sz_22) ?_
      exact zN rfl
    refine hgV (fun id fr mem h => ?_) ?_
    · obtain ⟨_h0, -⟩ := h
      refine zr (ziG 2 Tryz.underlying22 sz_3) ?_
      exact zN rfl
    refine hgV (fun id fr mem h => ?_) ?_
    · obtain ⟨_h0, _h1, _h2, -⟩ := h
      refine zbS [] [.gptr i0 3, .gptr i0 4, .gptr i0 5] Tryz.underlying67 i_70 ?_
      exact zN rfl
    refine hgI (ky := .const (keS [97, 108, 108, 111, 99, 97, 116, 97, 98, 108, 101])) (vz := .tmp 29) (fun _ => [(29, some 27, .list true 70 [.gptr i0 3, .gptr i0 4, .gptr i0 5])]) 1 (keyS Tryz.underlying9) Tryz.underlying50 (fun _ _ _ _ _ _ _ _ => rfl) (fun id fr mem h => .inl ⟨un_of h.1 rfl, rfl⟩) ?_
    refine hgV (fun id fr mem h => ?_) ?_
    · obtain ⟨_h0, -⟩ := h
      refine zM (.gptr i0 0) ?_
      exact zN rfl
    refine hgV (fun id fr mem h => ?_) ?_
    · obtain ⟨_h0, -⟩ := h
      refine zr (znc (.gptr i0 0)) ?_
      exact zN rfl
    refine hgV (fun id fr mem h => ?_) ?_
    · obtain ⟨_h0, -⟩ := h
      refine zr (zfG Tryz.underlying25 sz_3) ?_
      exact zN rfl
    refine hgV (fun id fr mem h => ?_) ?_
    · obtain ⟨_h0, -⟩ := h
      refine zbS [] [.gptr i0 7] Tryz.underlying67 i_70 ?_
      exact zN rfl
    refine hgI (ky := .const (keS [112, 101, 114, 105, 111, 100])) (vz := .tmp 33) (fun _ => [(33, some 32, .list true 70 [.gptr i0 7])]) 2 (keyS Tryz.underlying9) Tryz.underlying50 (fun _ _ _ _ _ _ _ _ => rfl) (fun id fr mem h => .inl ⟨un_of h.1 rfl, rfl⟩) ?_
    refine hgV (fun id fr mem h => ?_) ?_
    · obtain ⟨_h0, -⟩ := h
      refine zM (.gptr i0 0) ?_
      exact zN rfl
    refine hgV (fun id fr mem h => ?_) ?_
    · obtain ⟨_h0, -⟩ := h
      refine zr (znc (.gptr i0 0)) ?_
      exact zN rfl
    refine hgV (fun id fr mem h => ?_) ?_
    · obtain ⟨_h0, -⟩ := h
      refine zr (zfG Tryz.underlying25 sz_3) ?_
      exact zN rfl
    refine hgV (fun id fr mem h => ?_) ?_
    · obtain ⟨_h0, -⟩ := h
      refine zbS [] [.gptr i0 8] Tryz.underlying67 i_70 ?_
      exact zN rfl
    refine hgI (ky := .const (keS [114, 101, 116, 114, 105, 101, 115])) (vz := .tmp 37) (fun _ => [(37, some 37, .list true 70 [.gptr i0 8])]) 3 (keyS Tryz.underlying9) Tryz.underlying50 (fun _ _ _ _ _ _ _ _ => rfl) (fun id fr mem h => .inl ⟨un_of h.1 rfl, rfl⟩) ?_
    refine hgV (fun id fr mem h => ?_) ?_
    · obtain ⟨_h0, -⟩ := h
      refine zM (.gptr i0 0) ?_
      exact zN rfl
    refine hgV (fun id fr mem h => ?_) ?_
    · obtain ⟨_h0, -⟩ := h
      refine zr (znc (.gptr i0 0)) ?_
      exact zN rfl
    refine hgV (fun id fr mem h => ?_) ?_
    · obtain ⟨_h0, -⟩ := h
      refine zr (zfG Tryz.underlying25 sz_3) ?_
      exact zN rfl
    refine hgV (fun id fr mem h => ?_) ?_
    · obtain ⟨_h0, -⟩ := h
      refine zbS [] [.gptr i0 9] Tryz.underlying67 i_70 ?_
      exact zN rfl
    refine hgI (ky := .const (keS [109, 97, 120, 97, 103, 101])) (vz := .tmp 41) (fun _ => [(41, some 42, .list true 70 [.gptr i0 9])]) 4 (keyS Tryz.underlying9) Tryz.underlying50 (fun _ _ _ _ _ _ _ _ => rfl) (fun id fr mem h => .inl ⟨un_of h.1 rfl, rfl⟩) ?_
    refine hgV (fun id fr mem h => ?_) ?_
    · obtain ⟨_h0, -⟩ := h
      refine zM (.gptr i0 0) ?_
      exact zN rfl
    refine hgV (fun id fr mem h => ?_) ?_
    · obtain ⟨_h0, -⟩ := h
      refine zr (znc (.gptr i0 0)) ?_
      exact zN rfl
    refine hgV (fun id fr mem h => ?_) ?_
    · obtain ⟨_h0, -⟩ := h
      refine zr (zfG Tryz.underlying25 sz_3) ?_
      exact zN rfl
    refine hgV (fun id fr mem h => ?_) ?_
    · obtain ⟨_h0, -⟩ := h
      refine zbS [] [.gptr i0 10] Tryz.underlying67 i_70 ?_
      exact zN rfl
    refine hgI (ky := .const (keS [100, 101, 97, 100])) (vz := .tmp 45) (fun _ => [(45, some 47, .list true 70 [.gptr i0 10])]) 5 (keyS Tryz.underlying9) Tryz.underlying50 (fun _ _ _ _ _ _ _ _ => rfl) (fun id fr mem h => .inl ⟨un_of h.1 rfl, rfl⟩) ?_
    refine hgV (fun id fr mem h => ?_) ?_
    · obtain ⟨_h0, -⟩ := h
      refine zM (.gmap id) ?_
      exact zN rfl
    refine hgV (fun id fr mem h => ?_) ?_
    · obtain ⟨_h0, -⟩ := h
      refine zM (.gmap id) ?_
      exact zN rfl
    exact hg0
  intro id T hid hT
  refine ⟨⟨[(0, .gptr i0 0), (2, .gmap id)], [], setM M id (mapO keS (fun (x : List Nat) => AV.list false 70 (x.map fun k => .gptr i0 k)) T)⟩, rfl, ?_⟩
  refine AWp.ret ?_
  exact ⟨.inl rfl, _, ResOf.one 2 (.gmap id) rfl rfl, ⟨id, T, rfl, hid, hT, rfl⟩⟩
theorem numbers_w {i0 : Nat} {cells : List AV} : FCall Tryz.prog 18 [.gptr i0 0] [(i0, cells)] (fun v outs => ∃ (h0_ : Nat) (T : List (List UInt8 × List Nat)), (∀ k, getL k T = getL k nmbL) ∧ T.length = 6 ∧ v = .gmap h0_ ∧ outs = [(h0_, mapO keS (fun (x : List Nat) => AV.list false 70 (x.map fun k => .gptr i0 k)) T), (i0, cells)]) := by
  intro base hnd
  refine (numbers_any i0 (lay [(i0, cells)] base)).mono ?_
  rintro r M' ⟨id, T, rfl, hid, hT, rfl⟩
  exact ⟨_, ⟨id, T, getL_perm hT (by decide), hT.length_eq, rfl, rfl⟩, rfl, ndO_cons hnd hid⟩
end
section
open Go.RowKit
structure SField where
  text : List UInt8
  line : Int
  col : Int
  deriving Inhabited
abbrev cSField (x : SField) : List AV := [.str x.text, zI x.line, zI x.col]
abbrev eSField (x : SField) : AV := .agg (cSField x)
structure Sunit where
  name : List UInt8
  n : Int
  deriving Inhabited
abbrev cSunit (x : Sunit) : List AV := [.str x.name, zI x.n]
abbrev eSunit (x : Sunit) : AV := .agg (cSunit x)
structure SThreshold where
  signal : Int
  percent : Int
  amount : Int
  soft : Bool
  grace : Int
  deriving Inhabited
abbrev cSThreshold (x : SThreshold) : List AV := [zI x.signal, zI x.percent, zI x.amount, zB x.soft, zI x.grace]
abbrev eSThreshold (x : SThreshold) : AV := .agg (cSThreshold x)
structure SConfig where
  capacity : V3 Int
  allocatable : V3 Int
  thresholds : List SThreshold
  period : Int
  retries : Int
  maxAge : Int
  dead : Int
  deriving Inhabited
abbrev cSConfig (x : SConfig) : List AV := [zI x.capacity.a, zI x.capacity.b, zI x.capacity.c, zI x.allocatable.a, zI x.allocatable.b, zI x.allocatable.c, .list false 35 (x.thresholds.map eSThreshold), zI x.period, zI x.retries, zI x.maxAge, zI x.dead]
abbrev eSConfig (x : SConfig) : AV := .agg (cSConfig x)
def gF_SConfig (x : SConfig) : Nat → Option Int
  | 0 => some x.capacity.a
  | 1 => some x.capacity.b
  | 2 => some x.capacity.c
  | 3 => some x.allocatable.a
  | 4 => some x.allocatable.b
  | 5 => some x.allocatable.c
  | 7 => some x.period
  | 8 => some x.retries
  | 9 => some x.maxAge
  | 10 => some x.dead
  | _ => none
def sF_SConfig (x : SConfig) (n : Int) : Nat → Option SConfig
  | 0 => some (⟨(⟨n, x.capacity.b, x.capacity.c⟩ : V3 Int), x.allocatable, x.thresholds, x.period, x.retries, x.maxAge, x.dead⟩ : SConfig)
  | 1 => some (⟨(⟨x.capacity.a, n, x.capacity.c⟩ : V3 Int), x.allocatable, x.thresholds, x.period, x.retries, x.maxAge, x.dead⟩ : SConfig)
  | 2 => some (⟨(⟨x.capacity.a, x.capacity.b, n⟩ : V3 Int), x.allocatable, x.thresholds, x.period, x.retries, x.maxAge, x.dead⟩ : SConfig)
  | 3 => some (⟨x.capacity, (⟨n, x.allocatable.b, x.allocatable.c⟩ : V3 Int), x.thresholds, x.period, x.retries, x.maxAge, x.dead⟩ : SConfig)
  | 4 => some (⟨x.capacity, (⟨x.allocatable.a, n, x.allocatable.c⟩ : V3 Int), x.thresholds, x.period, x.retries, x.maxAge, x.dead⟩ : SConfig)
  | 5 => some (⟨x.capacity, (⟨x.allocatable.a, x.allocatable.b, n⟩ : V3 Int), x.thresholds, x.period, x.retries, x.maxAge, x.dead⟩ : SConfig)
  | 7 => some (⟨x.capacity, x.allocatable, x.thresholds, n, x.retries, x.maxAge, x.dead⟩ : SConfig)
  | 8 => some (⟨x.capacity, x.allocatable, x.thresholds, x.period, n, x.maxAge, x.dead⟩ : SConfig)
  | 9 => some (⟨x.capacity, x.allocatable, x.thresholds, x.period, x.retries, n, x.dead⟩ : SConfig)
  | 10 => some (⟨x.capacity, x.allocatable, x.thresholds, x.period, x.retries, x.maxAge, n⟩ : SConfig)
  | _ => none
def uSThreshold (a : SThreshold) : List Value := [.int .i64 a.signal, .int .i64 a.percent, .int .i64 a.amount, .bool a.soft, .int .i64 a.grace]
def qSThreshold (a b : SThreshold) : Bool := ((a.signal == b.signal) && ((a.percent == b.percent) && ((a.amount == b.amount) && ((a.soft == b.soft) && ((a.grace == b.grace) && true)))))
abbrev c3_Int (x : V3 Int) : List AV := [zI x.a, zI x.b, zI x.c]
def u3_Int (a : (V3 Int)) : List Value := [.int .i64 a.a, .int .i64 a.b, .int .i64 a.c]
def q3_Int (a b : (V3 Int)) : Bool := ((a.a == b.a) && ((a.b == b.b) && ((a.c == b.c) && true)))
def tabT : Tab := [(3, .int .i64, 1), (4, .bool, 1), (5, .int .u8, 1), (9, .str, 1), (22, .arr 3 3, 3), (23, .slice 35, 1), (25, .struct [(0, 22), (3, 22), (6, 23), (7, 3), (8, 3), (9, 3), (10, 3)], 11), (28, .slice 5, 1), (30, .int .i64, 1), (35, .struct [(0, 3), (1, 3), (2, 3), (3, 4), (4, 3)], 5), (38, .other, 1), (41, .slice 45, 1), (44, .other, 1), (45, .slice 49, 1), (47, .ptr 25, 1), (49, .struct [(0, 9), (1, 3), (2, 3)], 3), (50, .other, 1), (55, .slice 3, 1), (59, .slice 9, 1), (67, .slice 70, 1), (70, .ptr 3, 1), (71, .slice 74, 1), (74, .struct [(0, 9), (1, 3)], 2), (75, .ptr 77, 1), (77, .struct [(0, 75), (1, 28)], 2), (116, .other, 1)]
theorem tabT_ok : TabOK Tryz.prog tabT := ⟨zTab Tryz.underlying3 rfl (by kernel_rfl), zTab Tryz.underlying4 rfl (by kernel_rfl), zTab Tryz.underlying5 rfl (by kernel_rfl), zTab Tryz.underlying9 rfl (by kernel_rfl), zTab Tryz.underlying22 rfl (by kernel_rfl), zTab Tryz.underlying23 rfl (by kernel_rfl), zTab Tryz.underlying25 rfl (by kernel_rfl), zTab Tryz.underlying28 rfl (by kernel_rfl), zTab Tryz.underlying30 rfl (by kernel_rfl), zTab Tryz.underlying35 rfl (by kernel_rfl), zTab Tryz.underlying38 rfl (by kernel_rfl), zTab Tryz.underlying41 rfl (by kernel_rfl), zTab Tryz.underlying44 rfl (by kernel_rfl), zTab Tryz.underlying45 rfl (by kernel_rfl), zTab Tryz.underlying47 rfl (by kernel_rfl), zTab Tryz.underlying49 rfl (by kernel_rfl), zTab Tryz.underlying50 rfl (by kernel_rfl), zTab Tryz.underlying55 rfl (by kernel_rfl), zTab Tryz.underlying59 rfl (by kernel_rfl), zTab Tryz.underlying67 rfl (by kernel_rfl), zTab Tryz.underlying70 rfl (by kernel_rfl), zTab Tryz.underlying71 rfl (by kernel_rfl), zTab Tryz.underlying74 rfl (by kernel_rfl), zTab Tryz.underlying75 rfl (by kernel_rfl), zTab Tryz.underlying77 rfl (by kernel_rfl), zTab Tryz.underlying116 rfl (by kernel_rfl), trivial⟩
def tabZ : Zt := [(3, [zI 0], [zI 0]), (4, [zB false], [zB false]), (5, [.lit (.int .u8 0)], [.lit (.int .u8 0)]), (9, [.str ([] : List UInt8)], [.str ([] : List UInt8)]), (22, [zI 0, zI 0, zI 0], [zI 0, zI 0, zI 0]), (23, [.list false 35 []], [.lit (.slice none 0 0)]), (25, [zI 0, zI 0, zI 0, zI 0, zI 0, zI 0, .list false 35 [], zI 0, zI 0, zI 0, zI 0], [zI 0, zI 0, zI 0, zI 0, zI 0, zI 0, .lit (.slice none 0 0), zI 0, zI 0, zI 0, zI 0]), (28, [.list false 5 []], [.lit (.slice none 0 0)]), (35, [zI 0, zI 0, zI 0, zB false, zI 0], [zI 0, zI 0, zI 0, zB false, zI 0]), (45, [.list false 49 []], [.lit (.slice none 0 0)]), (49, [.str ([] : List UInt8), zI 0, zI 0], [.str ([] : List UInt8), zI 0, zI 0]), (74, [.str ([] : List UInt8), zI 0], [.str ([] : List UInt8), zI 0]), (75, [.lit (.pointer none)], [.lit (.pointer none)]), (77, [.lit (.pointer none), .list false 5 []], [.lit (.pointer none), .lit (.slice none 0 0)])]
theorem tabZ_ok : ZtOK Tryz.prog tabZ := ⟨zz (.int .i64 0) [] [] (by kernel_rfl) rfl rfl rfl (zD Tryz.underlying3), zz (.bool false) [] [] (by kernel_rfl) rfl rfl rfl (zD Tryz.underlying4), zz (.int .u8 0) [] [] (by kernel_rfl) rfl rfl rfl (zD Tryz.underlying5), zz (.string ⟨#[]⟩) [] [] (by kernel_rfl) rfl rfl rfl (zD Tryz.underlying9), zz (.agg #[.int .i64 0, .int .i64 0, .int .i64 0]) [] [] (by kernel_rfl) rfl rfl rfl (fun _ _ _ => ⟨_, rfl⟩), zz (.slice none 0 0) [35] [0] (by kernel_rfl) rfl rfl rfl (zD Tryz.underlying23), zz (.agg #[.int .i64 0, .int .i64 0, .int .i64 0, .int .i64 0, .int .i64 0, .int .i64 0, .slice none 0 0, .int .i64 0, .int .i64 0, .int .i64 0, .int .i64 0]) [35] [0] (by kernel_rfl) rfl rfl rfl (fun _ _ _ => ⟨_, rfl⟩), zz (.slice none 0 0) [5] [0] (by kernel_rfl) rfl rfl rfl (zD Tryz.underlying28), zz (.agg #[.int .i64 0, .int .i64 0, .int .i64 0, .bool false, .int .i64 0]) [] [] (by kernel_rfl) rfl rfl rfl (fun _ _ _ => ⟨_, rfl⟩), zz (.slice none 0 0) [49] [0] (by kernel_rfl) rfl rfl rfl (zD Tryz.underlying45), zz (.agg #[.string ⟨#[]⟩, .int .i64 0, .int .i64 0]) [] [] (by kernel_rfl) rfl rfl rfl (fun _ _ _ => ⟨_, rfl⟩), zz (.agg #[.string ⟨#[]⟩, .int .i64 0]) [] [] (by kernel_rfl) rfl rfl rfl (fun _ _ _ => ⟨_, rfl⟩), zz (.pointer none) [] [] (by kernel_rfl) rfl rfl rfl (zD Tryz.underlying75), zz (.agg #[.pointer none, .slice none 0 0]) [5] [0] (by kernel_rfl) rfl rfl rfl (fun _ _ _ => ⟨_, rfl⟩), trivial⟩
theorem tabB_ok : BtOK Tryz.prog [35, 45, 49] := ⟨⟨_, _, (by kernel_rfl : Tryz.prog.info? 35 = some Tryz.t35), rfl, rfl, rfl⟩, ⟨_, _, (by kernel_rfl : Tryz.prog.info? 45 = some Tryz.t45), rfl, rfl, rfl⟩, ⟨_, _, (by kernel_rfl : Tryz.prog.info? 49 = some Tryz.t49), rfl, rfl, rfl⟩, trivial⟩
instance : HasTab Tryz.prog := ⟨tabT, tabZ, [35, 45, 49], tabT_ok, tabZ_ok, tabB_ok⟩
theorem sF_SConfig_ok {x y : SConfig} {k : Nat} {n : Int} {L0 : AV} (h : sF_SConfig x n k = some y) : (∃ m, ([zI x.capacity.a, zI x.capacity.b, zI x.capacity.c, zI x.allocatable.a, zI x.allocatable.b, zI x.allocatable.c, L0, zI x.period, zI x.retries, zI x.maxAge, zI x.dead] : List AV)[k]? = some (zI m)) ∧ ([zI x.capacity.a, zI x.capacity.b, zI x.capacity.c, zI x.allocatable.a, zI x.allocatable.b, zI x.allocatable.c, L0, zI x.period, zI x.retries, zI x.maxAge, zI x.dead] : List AV).set k (zI n) = [zI y.capacity.a, zI y.capacity.b, zI y.capacity.c, zI y.allocatable.a, zI y.allocatable.b, zI y.allocatable.c, L0, zI y.period, zI y.retries, zI y.maxAge, zI y.dead] := by
  unfold sF_SConfig at h; split at h <;> first | (cases h; exact ⟨⟨_, rfl⟩, rfl⟩) | cases h
theorem mz67 : (Tryz.prog.info? 67).map (·.zero) = some (some (.slice none 0 0)) := by kernel_rfl
theorem mz3 : (Tryz.prog.info? 3).map (·.zero) = some (some (.int .i64 0)) := by kernel_rfl
theorem EqSThreshold : EqT Tryz.prog 35 cSThreshold uSThreshold qSThreshold := ⟨⟨_, Tryz.underlying35, rfl⟩, by kernel_rfl, fun _ => rfl, fun a b => by kernel_rfl⟩
theorem Eq3_Int : EqT Tryz.prog 22 c3_Int u3_Int q3_Int := ⟨⟨_, Tryz.underlying22, rfl⟩, by kernel_rfl, fun _ => rfl, fun a b => by kernel_rfl⟩
end
end Go.Proofs.YtdjojfibjbjpdaaGreatDoor
