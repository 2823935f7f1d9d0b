/- My own theorem on regions that draw their order: a head of operations each of which yields one value in every later world, then some allocations that nothing in the head looks at, then a tail that waits for all: one walk of the text's order serves every order. -/
import Derived.Test.YtfnbfkgknfagmaaOwn
import Derived.StillTail
namespace Go.Proofs.Ytfnbfkgknfagmaa
open Go.RowKit

/-- What an operation of the head has to yield in the later world 'w': the value v, and a later world. -/
def uponE (P : Program) (w : World) (v : Value) : Result Next → Prop
  | .ok (.value u) w' => w' = w ∧ u = v
  | .ok .skip w' => w' = w ∧ v = undef
  | .ok (.enter f args) w' => w' = w ∧ Calls P f args w (RetE w v)
  | _ => False

def atE (P : Program) (o : Oper) (a : Act) (W : World) (v : Value) : Prop := ∀ x : Ext W, uponE P x.val v ((execOp a.eval o).run P x.val)

/-- The walk of the head, in the text's order. -/
def wpE (P : Program) (ops : Array Oper) (W : World) (Q : Act → Prop) : List Oper → Act → Prop
  | [], a => Q a
  | o :: rest, a => if Region.wanted o (yielded ops a.tmps) then ∃ v, atE P o a W v ∧ wpE P ops W Q rest (a.put o.dst v) else wpE P ops W Q rest (a.put o.dst undef)

def looked (ops : Array Oper) (l : List Oper) (p i : Nat) (o : Oper) : Bool :=
  (o.looksAt ops).all fun t => (List.range p).all fun j =>
    ((l[j]?).bind (·.dst)) != some t || (decide (j < i) && o.after.any fun e => Region.binds .any e && e.on == j)

def headB (ops : Array Oper) (l : List Oper) (p i : Nat) : Bool :=
  match l[i]? with
  | some o => (match o.op with | .select .. => false | _ => true) && o.after.all (fun e => !Region.binds .any e || decide (e.on < i)) && o.dst.isSome &&
      ((List.range p).all fun j => j == i || ((l[j]?).bind (·.dst)) != o.dst) && looked ops l p i o
  | none => false

def floatB (l : List Oper) (p i : Nat) : Bool :=
  match l[i]? with
  | some o => o.after.all (fun e => !Region.binds .any e || decide (e.on < i)) && o.guard.isNone && o.dst.isSome && ((List.range p).all fun j => j == i || ((l[j]?).bind (·.dst)) != o.dst)
  | none => false

def tailB (l : List Oper) (p i : Nat) : Bool :=
  match l[i]? with
  | some o => (List.range p).all fun j => o.after.any fun e => Region.binds .any e && e.on == j
  | none => false

/-- The check on a region: n operations of the head, m allocations, the tail. -/
def regB (l : List Oper) (n m : Nat) : Bool :=
  decide (n + m ≤ l.length) && ((List.range n).all (headB l.toArray l (n + m))) && ((List.range m).all fun k => floatB l (n + m) (n + k)) &&
  ((List.range (l.length - (n + m))).all fun k => tailB l (n + m) (n + m + k)) &&
  Region.seqB .any l.toArray (l.length - (n + m)) (n + m) (List.replicate (n + m) true ++ List.replicate (l.length - (n + m)) false).toArray

def cnt : List Bool → Nat
  | [] => 0
  | b :: r => (if b then 0 else 1) + cnt r

theorem cnt_set : ∀ (l : List Bool) (i : Nat), l[i]? = some false → cnt (l.set i true) + 1 = cnt l
  | [], i, h => by simp at h
  | b :: r, 0, h => by simp at h; subst h; simp [cnt]; omega
  | b :: r, i + 1, h => by
    simp only [List.getElem?_cons_succ] at h
    simp only [List.set_cons_succ, cnt]
    have := cnt_set r i h
    omega

theorem cnt_app (a b : List Bool) : cnt (a ++ b) = cnt a + cnt b := by
  induction a with
  | nil => simp [cnt]
  | cons x r ih => simp only [List.cons_append, cnt, ih]; omega

theorem cnt_true (k : Nat) : cnt (List.replicate k true) = 0 := by
  induction k with
  | zero => rfl
  | succ k ih => simp [List.replicate_succ, cnt, ih]

theorem cnt_false (k : Nat) : cnt (List.replicate k false) = k := by
  induction k with
  | zero => rfl
  | succ k ih => simp only [List.replicate_succ, cnt, ih]; simp; omega

def YE (P : Program) (ops : Array Oper) (W : World) (o : Oper) (v : Value) (a : Act) : Prop :=
  (Region.wanted o (yielded ops a.tmps) = true ∧ atE P o a W v) ∨ (Region.wanted o (yielded ops a.tmps) = false ∧ v = undef)

theorem notSel {o : Oper} (h : (match o.op with | .select .. => false | _ => true) = true) : ∀ cs b, o.op ≠ .select cs b := by
  intro cs b e; rw [e] at h; cases h

/-- What an operation yields hangs on the slots alone that it looks at. -/
theorem YE.congr {P : Program} {ops : Array Oper} {W : World} {o : Oper} {v : Value} {a a' : Act} (hs : ∀ cs b, o.op ≠ .select cs b)
    (h : ∀ t, t ∈ o.looksAt ops → a'.tmps[t]? = a.tmps[t]?) (hy : YE P ops W o v a) : YE P ops W o v a' := by
  have e1 : execOp a'.eval o = execOp a.eval o := execOp_congr o hs fun x hx => by
    cases x with
    | tmp t =>
      have := h t (List.mem_append_left _ (List.mem_filterMap.2 ⟨.tmp t, by simpa using hx, rfl⟩))
      simp only [Act.eval, Array.getD_eq_getD_getElem?, this]
    | _ => rfl
  have e2 : Region.wanted o (yielded ops a'.tmps) = Region.wanted o (yielded ops a.tmps) := by
    unfold Region.wanted
    cases hg : o.guard with
    | none => rfl
    | some gw =>
      obtain ⟨g, want⟩ := gw
      have hy : yielded ops a'.tmps g = yielded ops a.tmps g := by
        unfold yielded
        cases ht : (ops[g]?).bind (·.dst) with
        | none => rfl
        | some t => simp only [Option.bind_some, h t (by simp [Oper.looksAt, hg, ht])]
      simp only [hy]
  unfold YE atE at *
  rw [e1, e2]
  exact hy

theorem put_at (a : Act) (d : Tmp) (v : Value) : (a.put (some d) v).tmps[d]? = (a.tmps[d]?).map fun _ => v := by
  simp only [Act.put]
  by_cases h : d < a.tmps.size
  · simp [h]
  · simp [h]

theorem put_ne (a : Act) (d t : Tmp) (v : Value) (h : d ≠ t) : (a.put (some d) v).tmps[t]? = a.tmps[t]? := by
  simp [Act.put, Array.getElem?_setIfInBounds_ne h]

theorem put_size (a : Act) (d : Option Tmp) (v : Value) : (a.put d v).tmps.size = a.tmps.size := by
  cases d <;> simp [Act.put]

theorem put_defs (a : Act) (d : Option Tmp) (v : Value) : (a.put d v).defers = a.defers := by
  cases d <;> simp [Act.put]

/-- The frame at the head's end, and what each operation yields there. -/
theorem head_frame {P : Program} {ops : Array Oper} {W : World} {Q : Act → Prop} (l : List Oper) (p : Nat) : ∀ (h : List Oper) (k : Nat) (a : Act),
    (∀ j, j < h.length → h[j]? = l[k + j]?) → (∀ j, j < h.length → headB ops l p (k + j) = true) → k + h.length ≤ p → wpE P ops W Q h a →
    ∃ F : Act, Q F ∧ F.defers = a.defers ∧ F.tmps.size = a.tmps.size ∧
      (∀ t, (∀ j o, k ≤ j → j < k + h.length → l[j]? = some o → o.dst ≠ some t) → F.tmps[t]? = a.tmps[t]?) ∧
      (∀ j o d, k ≤ j → j < k + h.length → l[j]? = some o → o.dst = some d → ∃ v, YE P ops W o v F ∧ F.tmps[d]? = (a.tmps[d]?).map fun _ => v)
  | [], k, a, _, _, _, hw => ⟨a, hw, rfl, rfl, fun _ _ => rfl, fun j o d h1 h2 => by simp at h2; omega⟩
  | o :: h, k, a, hl, hB, hp, hw => by
    have h0 : l[k]? = some o := by simpa using (hl 0 (by simp)).symm
    have hB0 : headB ops l p k = true := hB 0 (by simp)
    simp only [headB, h0, Bool.and_eq_true] at hB0
    obtain ⟨⟨⟨⟨hsel, _⟩, hd⟩, hdd⟩, hlook⟩ := hB0
    obtain ⟨d, hd⟩ := Option.isSome_iff_exists.1 hd
    have hlen : (o :: h).length = h.length + 1 := rfl
    have key : ∃ v, YE P ops W o v a ∧ wpE P ops W Q h (a.put o.dst v) := by
      unfold wpE at hw
      by_cases hq : Region.wanted o (yielded ops a.tmps) = true
      · rw [if_pos hq] at hw; obtain ⟨v, h1, h2⟩ := hw; exact ⟨v, .inl ⟨hq, h1⟩, h2⟩
      · rw [if_neg hq] at hw; exact ⟨undef, .inr ⟨by simpa using hq, rfl⟩, hw⟩
    obtain ⟨v, hy, hw'⟩ := key
    obtain ⟨F, hQ, hdef, hsz, hsame, hall⟩ := head_frame l p h (k + 1) (a.put o.dst v)
      (fun j hj => by have := hl (j + 1) (by simp; omega); simpa [Nat.add_assoc, Nat.add_comm 1 j] using this)
      (fun j hj => by have := hB (j + 1) (by simp; omega); simpa [Nat.add_assoc, Nat.add_comm 1 j] using this) (by simp at hp; omega) hw'
    rw [put_defs] at hdef
    rw [put_size] at hsz
    -- a slot of this region that comes later than k
    have later : ∀ j o', k + 1 ≤ j → j < k + 1 + h.length → l[j]? = some o' → o'.dst ≠ some d := by
      intro j o' h1 h2 h3 h4
      have := List.all_eq_true.1 hdd j (List.mem_range.2 (by simp at hp; omega))
      simp only [Bool.or_eq_true, beq_iff_eq, bne_iff_ne, ne_eq, h3, Option.bind_some, h4, hd, not_true_eq_false, or_false] at this
      omega
    have atd : F.tmps[d]? = (a.tmps[d]?).map fun _ => v := by
      rw [hsame d (fun j o' h1 h2 h3 => later j o' h1 h2 h3), hd, put_at]
    refine ⟨F, hQ, hdef, hsz, fun t ht => ?_, fun j o' d' h1 h2 h3 h4 => ?_⟩
    · rw [hsame t (fun j o' h1 h2 h3 => ht j o' (by omega) (by simp; omega) h3), hd, put_ne]
      intro e; subst e
      exact ht k o (Nat.le_refl _) (by simp) h0 hd
    · by_cases hjk : j = k
      · subst hjk
        rw [h0] at h3; cases h3
        rw [hd] at h4; cases h4
        refine ⟨v, hy.congr (notSel hsel) (fun t ht => ?_), atd⟩
        -- the slots that it looks at are none of this one's or later ones'
        have hno : ∀ j' o', j ≤ j' → j' < j + 1 + h.length → l[j']? = some o' → o'.dst ≠ some t := by
          intro j' o'' g1 g2 g3 g4
          have := List.all_eq_true.1 (List.all_eq_true.1 hlook t ht) j' (List.mem_range.2 (by simp at hp; omega))
          simp only [Bool.or_eq_true, bne_iff_ne, ne_eq, g3, Option.bind_some, g4, not_true_eq_false, Bool.and_eq_true, decide_eq_true_eq, false_or] at this
          omega
        rw [hsame t (fun j' o' g1 g2 g3 => hno j' o' (by omega) g2 g3), hd, put_ne]
        intro e; subst e
        exact hno j o (Nat.le_refl _) (by omega) h0 hd
      · obtain ⟨u, hu1, hu2⟩ := hall j o' d' (by omega) (by simp at h2; omega) h3 h4
        refine ⟨u, hu1, ?_⟩
        rw [hu2]
        have hne : d ≠ d' := fun e => later j o' (by omega) (by simp at h2; omega) h3 (by rw [h4, e])
        rw [hd, put_ne _ _ _ _ hne]

/-- An allocation: a pointer to the new block. -/
def FloatOK (P : Program) (o : Oper) (ob : Obj) : Prop :=
  ∀ (ρ : Operand → Value) (w : World), (execOp ρ o).run P w = .ok (.value (.pointer (some ⟨w.heap.size, 0, none⟩))) (w.alloc ob)

/-- The frame with the allocations' pointers in it. -/
def putAll : Act → List Oper → List Nat → Act
  | a, o :: os, b :: bs => putAll (a.put o.dst (.pointer (some ⟨b, 0, none⟩))) os bs
  | a, _, _ => a

structure Inv (P : Program) (l : List Oper) (n m : Nat) (W : World) (objs : List Obj) (a0 F : Act) (β : Nat → Nat) (listed : Array Bool) (a : Act) (w : World) : Prop where
  lsize : listed.size = l.length
  defers : a.defers = a0.defers
  size : a.tmps.size = a0.tmps.size
  below : Below W.heap.size W w
  tail : ∀ i, n + m ≤ i → i < l.length → listed.getD i false = false
  base : ∀ t, (∀ i o, i < n + m → l[i]? = some o → listed.getD i false = true → o.dst ≠ some t) → a.tmps[t]? = a0.tmps[t]?
  head : ∀ i o d, i < n → l[i]? = some o → o.dst = some d → listed.getD i false = true → a.tmps[d]? = F.tmps[d]?
  float : ∀ k o d ob, k < m → l[n + k]? = some o → o.dst = some d → objs[k]? = some ob → listed.getD (n + k) false = true →
    a.tmps[d]? = (a0.tmps[d]?).map (fun _ => .pointer (some ⟨β k, 0, none⟩)) ∧ W.heap.size ≤ β k ∧ β k < w.heap.size ∧ w.heap[β k]? = some ob
  inj : ∀ k k', k < m → k' < m → listed.getD (n + k) false = true → listed.getD (n + k') false = true → β k = β k' → k = k'

theorem getD_set_self {listed : Array Bool} {i : Nat} (h : i < listed.size) : (listed.setIfInBounds i true).getD i false = true := by simp [h]

theorem getD_tf {listed : Array Bool} {i : Nat} (h : listed.getD i true = false) : i < listed.size ∧ listed.getD i false = false := by
  by_cases hi : i < listed.size
  · simp [hi] at h ⊢; exact h
  · simp [hi] at h

theorem getD_ft {listed : Array Bool} {i : Nat} (hi : i < listed.size) (h : listed.getD i false = false) : listed.getD i true = false := by
  simp [hi] at h ⊢; exact h

theorem putAll_size : ∀ (os : List Oper) (bs : List Nat) (a : Act), (putAll a os bs).tmps.size = a.tmps.size
  | [], _, _ => by simp [putAll]
  | _ :: _, [], _ => by simp [putAll]
  | o :: os, b :: bs, a => by simp only [putAll]; rw [putAll_size os bs, put_size]

theorem putAll_defers : ∀ (os : List Oper) (bs : List Nat) (a : Act), (putAll a os bs).defers = a.defers
  | [], _, _ => by simp [putAll]
  | _ :: _, [], _ => by simp [putAll]
  | o :: os, b :: bs, a => by simp only [putAll]; rw [putAll_defers os bs, put_defs]

theorem putAll_ne : ∀ (os : List Oper) (bs : List Nat) (a : Act) (t : Tmp), (∀ (k : Nat) (o : Oper), os[k]? = some o → o.dst ≠ some t) → (putAll a os bs).tmps[t]? = a.tmps[t]?
  | [], _, _, _, _ => by simp [putAll]
  | _ :: _, [], _, _, _ => by simp [putAll]
  | o :: os, b :: bs, a, t, h => by
    simp only [putAll]
    rw [putAll_ne os bs _ t (fun k o' hk => h (k + 1) o' (by simpa using hk))]
    have h0 := h 0 o (by simp)
    cases hd : o.dst with
    | none => rfl
    | some d => exact put_ne _ _ _ _ (fun e => h0 (by rw [hd, e]))

theorem putAll_at : ∀ (os : List Oper) (bs : List Nat) (a : Act) (k : Nat) (o : Oper) (b : Nat) (d : Tmp), os[k]? = some o → bs[k]? = some b → o.dst = some d →
    (∀ (k' : Nat) (o' : Oper), k' ≠ k → os[k']? = some o' → o'.dst ≠ some d) → (putAll a os bs).tmps[d]? = (a.tmps[d]?).map fun _ => .pointer (some ⟨b, 0, none⟩)
  | [], _, _, _, _, _, _, h, _, _, _ => by simp at h
  | _ :: _, [], _, _, _, _, _, _, h, _, _ => by simp at h
  | o :: os, b :: bs, a, 0, o', b', d, h1, h2, h3, h4 => by
    simp at h1 h2
    subst h1; subst h2
    simp only [putAll]
    rw [putAll_ne os bs _ d (fun k o' hk => h4 (k + 1) o' (by omega) (by simpa using hk)), h3, put_at]
  | o :: os, b :: bs, a, k + 1, o', b', d, h1, h2, h3, h4 => by
    simp only [putAll]
    rw [putAll_at os bs _ k o' b' d (by simpa using h1) (by simpa using h2) h3 (fun k' o'' hk h => h4 (k' + 1) o'' (by omega) (by simpa using h))]
    have h0 := h4 0 o (by omega) (by simp)
    cases hd : o.dst with
    | none => rfl
    | some d' => rw [put_ne _ _ _ _ (fun e => h0 (by rw [hd, e]))]

/-- One operation of the head comes up. -/
theorem wpOp_of_YE {P : Program} {ops : Array Oper} {Q : Exit → Act → World → Prop} {W : World} {i : Nat} {o : Oper} {v : Value} {a : Act} {w : World} {K : Act → World → Prop}
    (ho : ops[i]? = some o) (hw : Below W.heap.size W w) (hy : YE P ops W o v a) (hK : ∀ w', Below w.heap.size w w' → K (a.put o.dst v) w') : wpOp P ops Q i K a w := by
  unfold wpOp
  simp only [ho]
  rcases hy with ⟨h1, h2⟩ | ⟨h1, h2⟩
  · simp only [h1, if_true]
    left
    have := h2 ⟨w, hw⟩
    unfold Oper.wp
    generalize (execOp a.eval o).run P w = r at *
    cases r with
    | ok nx w' =>
      cases nx <;> simp only [uponE] at this <;> simp only [Oper.upon]
      case value u => obtain ⟨e1, e2⟩ := this; rw [e1, e2]; exact hK _ (Below.refl _ _)
      case skip => obtain ⟨e1, e2⟩ := this; rw [e1, ← e2]; exact hK _ (Below.refl _ _)
      case enter f args =>
        obtain ⟨e1, hc⟩ := this
        rw [e1]
        exact hc.mono fun e w'' ⟨he, y, hy⟩ => by subst he; subst hy; exact hK _ y.below
    | halt x w' => simp only [uponE] at this
  · simp only [h1, Bool.false_eq_true, if_false]
    subst h2
    exact hK _ (Below.refl _ _)

theorem cnt_zero : ∀ (l : List Bool), cnt l = 0 → ∀ i : Nat, l[i]? ≠ some false
  | [], _, i => by simp
  | b :: r, h, 0 => by intro e; simp at e; subst e; simp [cnt] at h
  | b :: r, h, i + 1 => by
    simp only [cnt] at h
    simpa using cnt_zero r (by omega) i

theorem least_false (f : Nat → Bool) : ∀ p : Nat, (∃ j, j < p ∧ f j = false) → ∃ j, j < p ∧ f j = false ∧ ∀ k, k < j → f k = true
  | 0, ⟨j, h, _⟩ => by omega
  | p + 1, ⟨j, h, hf⟩ => by
    by_cases hx : ∃ j, j < p ∧ f j = false
    · obtain ⟨k, h1, h2, h3⟩ := least_false f p hx
      exact ⟨k, by omega, h2, h3⟩
    · have hjp : j = p := Decidable.byContradiction fun hne => hx ⟨j, by omega, hf⟩
      exact ⟨j, h, hf, fun k hk => by cases hfk : f k with | true => rfl | false => exact (hx ⟨k, by omega, hfk⟩).elim⟩

theorem any_edge {o : Oper} {j : Nat} (h : (o.after.any fun e => Region.binds .any e && e.on == j) = true) : ∃ e ∈ o.after, Region.binds .any e = true ∧ e.on = j := by
  obtain ⟨e, he, h2⟩ := Array.any_eq_true'.1 h
  simp only [Bool.and_eq_true, beq_iff_eq] at h2
  exact ⟨e, he, h2⟩

theorem all_edges {o : Oper} {i : Nat} (h : (o.after.all fun e => !Region.binds .any e || decide (e.on < i)) = true) : ∀ e ∈ o.after, Region.binds .any e = true → e.on < i := by
  intro e he hb
  have := Array.all_eq_true_iff_forall_mem.1 h e he
  simpa [hb] using this

theorem getElem?_of_getD {listed : Array Bool} {i : Nat} {b : Bool} (hi : i < listed.size) (h : listed.getD i false = b) : listed.toList[i]? = some b := by
  simp [hi] at h ⊢
  exact h

set_option maxHeartbeats 1000000 in
/-- From a state of the invariant on, whatever order is picked. -/
theorem any_of_inv {P : Program} {l : List Oper} {n m : Nat} {W : World} {objs : List Obj} {a0 F : Act} {Q : Exit → Act → World → Prop}
    (hB : regB l n m = true) (hobjs : objs.length = m) (hfl : ∀ k o ob, k < m → l[n + k]? = some o → objs[k]? = some ob → FloatOK P o ob)
    (hF1 : F.defers = a0.defers) (_hF2 : F.tmps.size = a0.tmps.size)
    (hF3 : ∀ t, (∀ j o, 0 ≤ j → j < 0 + n → l[j]? = some o → o.dst ≠ some t) → F.tmps[t]? = a0.tmps[t]?)
    (hF4 : ∀ j o d, 0 ≤ j → j < 0 + n → l[j]? = some o → o.dst = some d → ∃ v, YE P l.toArray W o v F ∧ F.tmps[d]? = (a0.tmps[d]?).map fun _ => v)
    (hK : ∀ (w' : World) (bs : List Nat), Below W.heap.size W w' → bs.length = m → bs.Nodup →
      (∀ (k b : Nat) (ob : Obj), bs[k]? = some b → objs[k]? = some ob → W.heap.size ≤ b ∧ b < w'.heap.size ∧ w'.heap[b]? = some ob) →
      wpList P l.toArray Q (l.drop (n + m)) (putAll F ((l.drop n).take m) bs) w') :
    ∀ (fuel : Nat) (listed : Array Bool) (a : Act) (w : World) (β : Nat → Nat), Inv P l n m W objs a0 F β listed a w → cnt listed.toList = fuel →
      wpAny P .any l.toArray Q fuel listed a w := by
  simp only [regB, Bool.and_eq_true, decide_eq_true_eq] at hB
  obtain ⟨⟨⟨⟨hlen, hBh⟩, hBf⟩, hBt⟩, hseq⟩ := hB
  have hBh' : ∀ i, i < n → headB l.toArray l (n + m) i = true := fun i hi => List.all_eq_true.1 hBh i (List.mem_range.2 hi)
  have hBf' : ∀ k, k < m → floatB l (n + m) (n + k) = true := fun i hi => List.all_eq_true.1 hBf i (List.mem_range.2 hi)
  have hBt' : ∀ i, n + m ≤ i → i < l.length → tailB l (n + m) i = true := fun i h1 h2 => by
    have := List.all_eq_true.1 hBt (i - (n + m)) (List.mem_range.2 (by omega))
    rwa [show n + m + (i - (n + m)) = i by omega] at this
  -- all of the slots that the region's first n + m operations write are apart
  have apart : ∀ i j o o' d, i < n + m → j < n + m → i ≠ j → l[i]? = some o → l[j]? = some o' → o.dst = some d → o'.dst ≠ some d := by
    intro i j o o' d hi hj hne h1 h2 h3 h4
    have hall : ((List.range (n + m)).all fun j => j == i || ((l[j]?).bind (·.dst)) != o.dst) = true := by
      by_cases hin : i < n
      · have := hBh' i hin
        simp only [headB, h1, Bool.and_eq_true] at this
        exact this.1.2
      · have := hBf' (i - n) (by omega)
        rw [show n + (i - n) = i by omega] at this
        simp only [floatB, h1, Bool.and_eq_true] at this
        exact this.2
    have := List.all_eq_true.1 hall j (List.mem_range.2 hj)
    simp only [Bool.or_eq_true, beq_iff_eq, bne_iff_ne, ne_eq, h2, Option.bind_some, h4, h3, not_true_eq_false, or_false] at this
    exact hne this.symm
  have edges : ∀ i o, i < n + m → l[i]? = some o → ∀ e ∈ o.after, Region.binds .any e = true → e.on < i := by
    intro i o hi h1
    by_cases hin : i < n
    · have := hBh' i hin
      simp only [headB, h1, Bool.and_eq_true] at this
      exact all_edges this.1.1.1.2
    · have := hBf' (i - n) (by omega)
      rw [show n + (i - n) = i by omega] at this
      simp only [floatB, h1, Bool.and_eq_true] at this
      exact all_edges this.1.1.1
  have flo : ∀ k, ((l.drop n).take m)[k]? = if k < m then l[n + k]? else none := by
    intro k
    by_cases hk : k < m
    · rw [if_pos hk, List.getElem?_take_of_lt hk, List.getElem?_drop]
    · rw [if_neg hk, List.getElem?_eq_none (by simp; omega)]
  have done : ∀ (fuel : Nat) (listed : Array Bool) (a : Act) (w : World) (β : Nat → Nat), Inv P l n m W objs a0 F β listed a w → cnt listed.toList = fuel →
      (∀ i, i < n + m → listed.getD i false = true) → wpAny P .any l.toArray Q fuel listed a w := by
    intro fuel listed a w β inv hc hall
    have hlist : listed.toList = List.replicate (n + m) true ++ List.replicate (l.length - (n + m)) false := by
      apply List.ext_getElem?
      intro i
      by_cases h1 : i < n + m
      · rw [getElem?_of_getD (by rw [inv.lsize]; omega) (hall i h1), List.getElem?_append_left (by simp; omega)]
        simp [h1]
      · by_cases h2 : i < l.length
        · rw [getElem?_of_getD (by rw [inv.lsize]; exact h2) (inv.tail i (by omega) h2), List.getElem?_append_right (by simp; omega), List.length_replicate, List.getElem?_replicate, if_pos (by omega)]
        · rw [List.getElem?_eq_none (by simp [inv.lsize]; omega), List.getElem?_eq_none (by simp; omega)]
    have hlist' : listed = (List.replicate (n + m) true ++ List.replicate (l.length - (n + m)) false).toArray := by
      rw [← hlist]
    have hfuel : fuel = (l.drop (n + m)).length := by
      rw [← hc, hlist, cnt_app, cnt_true, cnt_false]; simp
    subst hfuel
    have hframe : a = putAll F ((l.drop n).take m) ((List.range m).map β) := by
      have e1 : a.tmps = (putAll F ((l.drop n).take m) ((List.range m).map β)).tmps := by
        apply Array.ext_getElem?
        intro t
        by_cases hh : ∃ i o, i < n ∧ l[i]? = some o ∧ o.dst = some t
        · obtain ⟨i, o, hi, ho, hd⟩ := hh
          rw [inv.head i o t hi ho hd (hall i (by omega)), putAll_ne]
          intro k o' hk
          rw [flo] at hk
          by_cases hkm : k < m
          · rw [if_pos hkm] at hk
            exact apart i (n + k) o o' t (by omega) (by omega) (by omega) ho hk hd
          · rw [if_neg hkm] at hk; cases hk
        · have hFt : F.tmps[t]? = a0.tmps[t]? := hF3 t fun j o _ hj ho hd => hh ⟨j, o, by omega, ho, hd⟩
          by_cases hf : ∃ k o, k < m ∧ l[n + k]? = some o ∧ o.dst = some t
          · obtain ⟨k, o, hk, ho, hd⟩ := hf
            obtain ⟨ob, hob⟩ : ∃ ob, objs[k]? = some ob := ⟨objs[k]'(by omega), by simp⟩
            rw [(inv.float k o t ob hk ho hd hob (hall (n + k) (by omega))).1,
              putAll_at _ _ _ k o (β k) t (by rw [flo, if_pos hk]; exact ho) (by simp [hk]) hd, hFt]
            intro k' o' hne hk'
            rw [flo] at hk'
            by_cases hkm : k' < m
            · rw [if_pos hkm] at hk'
              exact apart (n + k) (n + k') o o' t (by omega) (by omega) (by omega) ho hk' hd
            · rw [if_neg hkm] at hk'; cases hk'
          · rw [putAll_ne, hFt]
            · apply inv.base
              intro i o hi ho _ hd
              by_cases hin : i < n
              · exact hh ⟨i, o, hin, ho, hd⟩
              · exact hf ⟨i - n, o, by omega, by rw [show n + (i - n) = i by omega]; exact ho, hd⟩
            · intro k o hk hd
              rw [flo] at hk
              by_cases hkm : k < m
              · rw [if_pos hkm] at hk
                exact hf ⟨k, o, hkm, hk, hd⟩
              · rw [if_neg hkm] at hk; cases hk
      have e2 : a.defers = (putAll F ((l.drop n).take m) ((List.range m).map β)).defers := by rw [putAll_defers, hF1, inv.defers]
      generalize putAll F ((l.drop n).take m) ((List.range m).map β) = G at e1 e2
      cases a; cases G; simp only at e1 e2; rw [e1, e2]
    rw [hframe]
    refine wpAny_of_seq (l.drop (n + m)) (n + m) listed _ w (fun j => by simp) (by rw [hlist']; simpa using hseq) (hK w _ inv.below (by simp) ?_ ?_)
    · rw [List.nodup_iff_pairwise_ne, List.pairwise_map]
      refine List.Pairwise.imp_of_mem (R := fun a b => a ≠ b) (fun {x y} hx hy hne e => hne ?_) (List.nodup_iff_pairwise_ne.1 List.nodup_range)
      have hx' := List.mem_range.1 hx
      have hy' := List.mem_range.1 hy
      exact inv.inj x y hx' hy' (hall _ (by omega)) (hall _ (by omega)) e
    · intro k b ob hb hob
      have hk : k < m := by
        have := (List.getElem?_eq_some_iff.1 hob).1
        omega
      have : b = β k := by simp [hk] at hb; exact hb.symm
      subst this
      obtain ⟨o, ho⟩ : ∃ o, l[n + k]? = some o := ⟨l[n + k]'(by omega), by simp⟩
      have hbk := hBf' k hk
      simp only [floatB, ho, Bool.and_eq_true] at hbk
      obtain ⟨d, hd⟩ := Option.isSome_iff_exists.1 hbk.1.2
      exact (inv.float k o d ob hk ho hd hob (hall _ (by omega))).2
  intro fuel
  induction fuel with
  | zero =>
    intro listed a w β inv hc
    have hz := cnt_zero _ hc
    refine done 0 listed a w β inv hc fun i hi => ?_
    cases hb : listed.getD i false with
    | true => rfl
    | false => exact (hz i (getElem?_of_getD (by rw [inv.lsize]; omega) hb)).elim
  | succ fuel ih =>
    intro listed a w β inv hc
    by_cases hall : ∀ i, i < n + m → listed.getD i false = true
    · exact done _ listed a w β inv hc hall
    · have hex : ∃ j, j < n + m ∧ listed.getD j false = false := Decidable.byContradiction fun hne => hall fun i hi => by
        cases hb : listed.getD i false with
        | true => rfl
        | false => exact (hne ⟨i, hi, hb⟩).elim
      obtain ⟨j0, hj0, hj1, hj2⟩ := least_false _ _ hex
      refine ⟨fun h0 => ?_, fun i hi => ?_⟩
      · -- the least operation that has not come up may come up
        obtain ⟨o, ho⟩ : ∃ o, l[j0]? = some o := ⟨l[j0]'(by omega), by simp⟩
        have : j0 ∈ Region.ready .any l.toArray listed := mem_ready.2 ⟨getD_ft (by rw [inv.lsize]; omega) hj1, o, by simpa using ho, fun e he hb => hj2 _ (edges j0 o hj0 ho e he hb)⟩
        rw [h0] at this; cases this
      · obtain ⟨hi1, o, ho, hdeps⟩ := mem_ready.1 hi
        obtain ⟨hisz, hi1'⟩ := getD_tf hi1
        have ho' : l[i]? = some o := by simpa using ho
        rw [inv.lsize] at hisz
        have hip : i < n + m := by
          rcases Nat.lt_or_ge i (n + m) with h | h
          · exact h
          · have ht := hBt' i h hisz
            simp only [tailB, ho'] at ht
            obtain ⟨e, he, hb, hon⟩ := any_edge (List.all_eq_true.1 ht j0 (List.mem_range.2 hj0))
            have := hdeps e he hb
            rw [hon, hj1] at this
            cases this
        have hcnt : cnt (listed.setIfInBounds i true).toList = fuel := by
          have := cnt_set listed.toList i (getElem?_of_getD (by rw [inv.lsize]; exact hisz) hi1')
          simp only [Array.toList_setIfInBounds]
          omega
        have old : ∀ j, j ≠ i → (listed.setIfInBounds i true).getD j false = listed.getD j false := fun j hj => getD_set_ne false (Ne.symm hj)
        have new : (listed.setIfInBounds i true).getD i false = true := getD_set_self (by rw [inv.lsize]; exact hisz)
        by_cases hin : i < n
        · have hBi := hBh' i hin
          simp only [headB, ho', Bool.and_eq_true] at hBi
          obtain ⟨⟨⟨⟨hsel, _⟩, hd⟩, _⟩, hlook⟩ := hBi
          obtain ⟨d, hd⟩ := Option.isSome_iff_exists.1 hd
          obtain ⟨v, hy, hFd⟩ := hF4 i o d (Nat.zero_le _) (by omega) ho' hd
          have hya : YE P l.toArray W o v a := hy.congr (notSel hsel) fun t ht => by
            have hlt := List.all_eq_true.1 hlook t ht
            by_cases hw : ∃ j o', j < n + m ∧ l[j]? = some o' ∧ o'.dst = some t
            · obtain ⟨j, o', hj, ho'', hd'⟩ := hw
              have := List.all_eq_true.1 hlt j (List.mem_range.2 hj)
              simp only [Bool.or_eq_true, bne_iff_ne, ne_eq, ho'', Option.bind_some, hd', not_true_eq_false, Bool.and_eq_true, decide_eq_true_eq, false_or] at this
              obtain ⟨e, he, hb, hon⟩ := any_edge this.2
              have hl := hdeps e he hb
              rw [hon] at hl
              exact inv.head j o' t (by omega) ho'' hd' hl
            · rw [hF3 t fun j o' _ hj h1 h2 => hw ⟨j, o', by omega, h1, h2⟩]
              exact inv.base t fun j o' hj h1 _ h2 => hw ⟨j, o', hj, h1, h2⟩
          refine wpOp_of_YE ho inv.below hya fun w' hbw => ih _ _ _ β ?_ hcnt
          refine ⟨by simp [inv.lsize], by rw [put_defs, inv.defers], by rw [put_size, inv.size], inv.below.trans (hbw.mono inv.below.size), ?_, ?_, ?_, ?_, ?_⟩
          · intro k h1 h2
            rw [old k (by omega)]
            exact inv.tail k h1 h2
          · intro t ht
            rw [hd, put_ne]
            · refine inv.base t fun k o' hk h1 h2 h3 => ?_
              by_cases hki : k = i
              · subst hki
                rw [hi1'] at h2; cases h2
              · exact ht k o' hk h1 (by rw [old k hki]; exact h2) h3
            · intro e; subst e
              exact ht i o (by omega) ho' new hd
          · intro k o' d' hk h1 h2 h3
            by_cases hki : k = i
            · subst hki
              rw [ho'] at h1; cases h1
              rw [hd] at h2; cases h2
              have hsame : (a.tmps[d]?).map (fun _ => v) = (a0.tmps[d]?).map (fun _ => v) := by
                by_cases hz : d < a.tmps.size
                · have hz' : d < a0.tmps.size := by rw [← inv.size]; exact hz
                  simp [hz, hz']
                · have hz' : ¬ d < a0.tmps.size := by rw [← inv.size]; exact hz
                  simp [hz, hz']
              rw [hd, put_at, hFd, hsame]
            · rw [hd, put_ne _ _ _ _ (fun e => apart i k o o' d (by omega) (by omega) (Ne.symm hki) ho' h1 hd (by rw [h2, e]))]
              exact inv.head k o' d' hk h1 h2 (by rw [← old k hki]; exact h3)
          · intro k o' d' ob hk h1 h2 h3 h4
            have hki : n + k ≠ i := by omega
            obtain ⟨g1, g2, g3, g4⟩ := inv.float k o' d' ob hk h1 h2 h3 (by rw [← old _ hki]; exact h4)
            refine ⟨?_, g2, Nat.lt_of_lt_of_le g3 hbw.size, by rw [hbw.block _ g3]; exact g4⟩
            rw [hd, put_ne _ _ _ _ (fun e => apart i (n + k) o o' d (by omega) (by omega) (by omega) ho' h1 hd (by rw [h2, e]))]
            exact g1
          · intro k k' hk hk' h1 h2 h3
            exact inv.inj k k' hk hk' (by rw [← old _ (by omega)]; exact h1) (by rw [← old _ (by omega)]; exact h2) h3
        · -- an allocation
          obtain ⟨k, rfl⟩ : ∃ k, i = n + k := ⟨i - n, by omega⟩
          have hkm : k < m := by omega
          have hBi := hBf' k hkm
          simp only [floatB, ho', Bool.and_eq_true] at hBi
          obtain ⟨⟨⟨_, hg⟩, hd⟩, _⟩ := hBi
          obtain ⟨d, hd⟩ := Option.isSome_iff_exists.1 hd
          obtain ⟨ob, hob⟩ : ∃ ob, objs[k]? = some ob := ⟨objs[k]'(by omega), by simp⟩
          have hrun := hfl k o ob hkm ho' hob a.eval w
          have hgn : o.guard = none := by simpa using hg
          unfold wpOp
          simp only [ho, Region.wanted, hgn, if_true]
          left
          unfold Oper.wp
          rw [hrun, Oper.upon_value]
          have hbw : Below w.heap.size w (w.alloc ob) := (Below.refl _ _).alloc (Nat.le_refl _) _
          have hsz : (w.alloc ob).heap.size = w.heap.size + 1 := by simp
          refine ih _ _ _ (fun k' => if k' = k then w.heap.size else β k') ?_ hcnt
          refine ⟨by simp [inv.lsize], by rw [put_defs, inv.defers], by rw [put_size, inv.size], inv.below.trans (hbw.mono inv.below.size), ?_, ?_, ?_, ?_, ?_⟩
          · intro k' h1 h2
            rw [old k' (by omega)]
            exact inv.tail k' h1 h2
          · intro t ht
            rw [hd, put_ne]
            · refine inv.base t fun k' o' hk h1 h2 h3 => ?_
              by_cases hki : k' = n + k
              · subst hki
                rw [hi1'] at h2; cases h2
              · exact ht k' o' hk h1 (by rw [old k' hki]; exact h2) h3
            · intro e; subst e
              exact ht (n + k) o (by omega) ho' new hd
          · intro k' o' d' hk h1 h2 h3
            have hki : k' ≠ n + k := by omega
            rw [hd, put_ne _ _ _ _ (fun e => apart (n + k) k' o o' d (by omega) (by omega) (by omega) ho' h1 hd (by rw [h2, e]))]
            exact inv.head k' o' d' hk h1 h2 (by rw [← old k' hki]; exact h3)
          · intro k' o' d' ob' hk h1 h2 h3 h4
            by_cases hki : k' = k
            · subst hki
              rw [ho'] at h1; cases h1
              rw [hd] at h2; cases h2
              rw [hob] at h3; cases h3
              have hsame : (a.tmps[d]?).map (fun _ => Value.pointer (some ⟨w.heap.size, 0, none⟩)) = (a0.tmps[d]?).map (fun _ => Value.pointer (some ⟨w.heap.size, 0, none⟩)) := by
                by_cases hz : d < a.tmps.size
                · have hz' : d < a0.tmps.size := by rw [← inv.size]; exact hz
                  simp [hz, hz']
                · have hz' : ¬ d < a0.tmps.size := by rw [← inv.size]; exact hz
                  simp [hz, hz']
              rw [hd, put_at, hsame]
              simp only [if_true]
              exact ⟨trivial, inv.below.size, by omega, (MapKept.heap_alloc w ob).1⟩
            · obtain ⟨g1, g2, g3, g4⟩ := inv.float k' o' d' ob' hk h1 h2 h3 (by rw [← old _ (by omega)]; exact h4)
              simp only [if_neg hki]
              refine ⟨?_, g2, by omega, by rw [hbw.block _ g3]; exact g4⟩
              rw [hd, put_ne _ _ _ _ (fun e => apart (n + k) (n + k') o o' d (by omega) (by omega) (by omega) ho' h1 hd (by rw [h2, e]))]
              exact g1
          · intro k1 k2 hk1 hk2 h1 h2 h3
            have lt : ∀ k', k' < m → k' ≠ k → listed.getD (n + k') false = true → β k' < w.heap.size := fun k' hk' hne hl => by
              obtain ⟨o', ho''⟩ : ∃ o, l[n + k']? = some o := ⟨l[n + k']'(by omega), by simp⟩
              obtain ⟨ob', hob'⟩ : ∃ ob, objs[k']? = some ob := ⟨objs[k']'(by omega), by simp⟩
              have hb' := hBf' k' hk'
              simp only [floatB, ho'', Bool.and_eq_true] at hb'
              obtain ⟨d', hd'⟩ := Option.isSome_iff_exists.1 hb'.1.2
              exact (inv.float k' o' d' ob' hk' ho'' hd' hob' hl).2.2.1
            by_cases e1 : k1 = k
            · by_cases e2 : k2 = k
              · rw [e1, e2]
              · have := lt k2 hk2 e2 (by rw [← old _ (by omega)]; exact h2)
                simp only [if_pos e1, if_neg e2] at h3
                omega
            · have l1 := lt k1 hk1 e1 (by rw [← old _ (by omega)]; exact h1)
              by_cases e2 : k2 = k
              · simp only [if_neg e1, if_pos e2] at h3
                omega
              · simp only [if_neg e1, if_neg e2] at h3
                exact inv.inj k1 k2 hk1 hk2 (by rw [← old _ (by omega)]; exact h1) (by rw [← old _ (by omega)]; exact h2) h3

theorem world_drawn (w : World) : Below w.heap.size w { w with drawn := w.drawn + 1 } := ⟨rfl, rfl, rfl, Nat.le_refl _, fun _ _ => rfl⟩

section
variable {P : Program} {id : Nat} {Q : Exit → Act → World → Prop} {a : Act} {w : World} {l : List Oper}

theorem wp_region_E (n m : Nat) (objs : List Obj) (hm : P.follows .mixedOrders = true) (hB : regB l n m = true) (hobjs : objs.length = m)
    (hfl : ∀ k o ob, k < m → l[n + k]? = some o → objs[k]? = some ob → FloatOK P o ob)
    (h : wpE P l.toArray w (fun F => ∀ (w' : World) (bs : List Nat), Below w.heap.size w w' → bs.length = m → bs.Nodup →
      (∀ (k b : Nat) (ob : Obj), bs[k]? = some b → objs[k]? = some ob → w.heap.size ≤ b ∧ b < w'.heap.size ∧ w'.heap[b]? = some ob) →
      wpList P l.toArray Q (l.drop (n + m)) (putAll F ((l.drop n).take m) bs) w') (l.take n) a) : (Code.region id l.toArray true).wp P Q a w := by
  refine wp_region_any hm ?_
  have hB' := hB
  simp only [regB, Bool.and_eq_true, decide_eq_true_eq] at hB'
  obtain ⟨⟨⟨⟨hlen, hBh⟩, _⟩, _⟩, _⟩ := hB'
  have hl : (l.take n).length = n := by simp; omega
  obtain ⟨F, hK, h1, h2, h3, h4⟩ := head_frame l (n + m) (l.take n) 0 a
    (fun j hj => by rw [hl] at hj; simp [hj])
    (fun j hj => by rw [hl] at hj; simpa using List.all_eq_true.1 hBh j (List.mem_range.2 hj)) (by omega) h
  rw [hl] at h3 h4
  refine any_of_inv (n := n) (m := m) (W := w) (objs := objs) (a0 := a) (F := F) hB hobjs hfl h1 h2 h3 h4 hK _ _ _ _ (fun k => k) ?_ ?_
  · refine ⟨by simp, rfl, rfl, world_drawn w, fun i _ hi => by simp [hi], fun t _ => rfl, ?_, ?_, ?_⟩
    · intro i o d _ hi _ hx
      have := (List.getElem?_eq_some_iff.1 hi).1
      simp [this] at hx
    · intro k o d ob _ hi _ _ hx
      have := (List.getElem?_eq_some_iff.1 hi).1
      simp [this] at hx
    · intro k k' hk hk' hx
      have : n + k < l.length := by omega
      simp [this] at hx
  · simp [cnt_false]

/-- No allocation. -/
theorem wp_region_E0 (n : Nat) (hm : P.follows .mixedOrders = true) (hB : regB l n 0 = true)
    (h : wpE P l.toArray w (fun F => ∀ x : Ext w, wpList P l.toArray Q (l.drop n) F x.val) (l.take n) a) : (Code.region id l.toArray true).wp P Q a w := by
  refine wp_region_E n 0 [] hm hB rfl (fun k o ob hk => by omega) ?_
  have e : (fun F => ∀ (w' : World) (bs : List Nat), Below w.heap.size w w' → bs.length = 0 → bs.Nodup →
      (∀ (k b : Nat) (ob : Obj), bs[k]? = some b → ([] : List Obj)[k]? = some ob → w.heap.size ≤ b ∧ b < w'.heap.size ∧ w'.heap[b]? = some ob) →
      wpList P l.toArray Q (l.drop (n + 0)) (putAll F ((l.drop n).take 0) bs) w') = (fun F => ∀ x : Ext w, wpList P l.toArray Q (l.drop n) F x.val) := by
    funext F
    apply propext
    constructor
    · intro h x
      have := h x.val [] x.below rfl (by simp) (by simp)
      simpa [putAll] using this
    · intro h w' bs hb hl _ _
      cases bs with
      | nil => simpa [putAll] using h ⟨w', hb⟩
      | cons b r => simp at hl
  rw [e]
  exact h

/-- One allocation. -/
theorem wp_region_E1 (n : Nat) (ob : Obj) (o : Oper) (ho : l[n]? = some o) (hm : P.follows .mixedOrders = true) (hB : regB l n 1 = true) (hfl : FloatOK P o ob)
    (h : wpE P l.toArray w (fun F => ∀ (x : Ext w) (b : Nat), w.heap.size ≤ b → b < x.val.heap.size → x.val.heap[b]? = some ob →
      wpList P l.toArray Q (l.drop (n + 1)) (F.put o.dst (.pointer (some ⟨b, 0, none⟩))) x.val) (l.take n) a) : (Code.region id l.toArray true).wp P Q a w := by
  refine wp_region_E n 1 [ob] hm hB rfl (fun k o' ob' hk h1 h2 => ?_) ?_
  · obtain rfl : k = 0 := by omega
    simp at h1 h2
    rw [ho] at h1; cases h1; subst h2
    exact hfl
  have hd : (l.drop n).take 1 = [o] := by
    have := List.getElem?_eq_some_iff.1 ho
    obtain ⟨h1, h2⟩ := this
    rw [List.drop_eq_getElem_cons h1, h2]; simp
  have e : (fun F => ∀ (w' : World) (bs : List Nat), Below w.heap.size w w' → bs.length = 1 → bs.Nodup →
      (∀ (k b : Nat) (ob' : Obj), bs[k]? = some b → [ob][k]? = some ob' → w.heap.size ≤ b ∧ b < w'.heap.size ∧ w'.heap[b]? = some ob') →
      wpList P l.toArray Q (l.drop (n + 1)) (putAll F ((l.drop n).take 1) bs) w') = (fun F => ∀ (x : Ext w) (b : Nat), w.heap.size ≤ b → b < x.val.heap.size → x.val.heap[b]? = some ob →
      wpList P l.toArray Q (l.drop (n + 1)) (F.put o.dst (.pointer (some ⟨b, 0, none⟩))) x.val) := by
    funext F
    apply propext
    rw [hd]
    constructor
    · intro h x b h1 h2 h3
      have := h x.val [b] x.below rfl (by simp) (fun k b' ob' hk hk' => by
        cases k with
        | zero => simp at hk hk'; subst hk; subst hk'; exact ⟨h1, h2, h3⟩
        | succ k => simp at hk)
      simpa [putAll] using this
    · intro h w' bs hb hl _ hf
      match bs, hl with
      | [b], _ =>
        obtain ⟨h1, h2, h3⟩ := hf 0 b ob rfl rfl
        simpa [putAll] using h ⟨w', hb⟩ b h1 h2 h3
  rw [e]
  exact h

theorem wpE_nil {ops : Array Oper} {W : World} {Q : Act → Prop} {a : Act} (h : Q a) : wpE P ops W Q [] a := h
theorem wpE_step {ops : Array Oper} {W : World} {Q : Act → Prop} {a : Act} {o : Oper} {rest : List Oper}
    (h : ∀ K : Act → Prop, (∀ a, wpE P ops W Q rest a → K a) → if Region.wanted o (yielded ops a.tmps) then ∃ v, atE P o a W v ∧ K (a.put o.dst v) else K (a.put o.dst undef)) : wpE P ops W Q (o :: rest) a :=
  h _ (fun _ h => h)
attribute [go_sem] atE uponE
end
end Go.Proofs.Ytfnbfkgknfagmaa
