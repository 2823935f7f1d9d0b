/- Abstract values: calls. -/
import Derived.Test.YtfnbfkgknfagmaaAvApp2
namespace Go.Proofs.Ytfnbfkgknfagmaa
open Go.RowKit

/-- What a caller hands to a callee of its ghost: what is in objects alone. -/
def Gh.out (G : Gh) : Gh := { G with owner := fun b => match G.owner b with | some q => if q.glob then some q else none | none => none }

/-- What a caller has behind a call. -/
def Gh.back (G G' : Gh) (size d : Nat) : Gh :=
  { tip := G'.tip, lb := G.lb, mb := G'.mb
    owner := fun b => match (if b < size then G.owner b else none) with
      | some (.slot i c) => some (.slot i c)
      | some (.lb k) => some (.lb k)
      | some (.lc k j) => some (.lc k j)
      | some (.res c) => some (.res c)
      | _ => match G'.owner b with
        | some (.res c) => some (.slot d c)
        | some (.mb id) => some (.mb id)
        | some (.mc id j) => some (.mc id j)
        | _ => none }

section
variable {P : Program} {G G' : Gh} {w w' : World}

theorem out_stab : Stab G w G.out w := ⟨fun _ => Nat.le_refl _, fun _ _ _ => rfl, fun _ _ h => h⟩

theorem out_glob {q : Pos} {b : Nat} (h : G.owner b = some q) (hq : q.glob = true) : G.out.owner b = some q := by
  show (match G.owner b with | some q => if q.glob then some q else none | none => none) = some q
  rw [h]; simp [hq]
theorem out_none {b : Nat} (h : ∀ q, G.owner b = some q → q.glob = false) : G.out.owner b = none := by
  show (match G.owner b with | some q => if q.glob then some q else none | none => none) = none
  cases e : G.owner b with
  | none => rfl
  | some q => simp [h q e]

theorem out_keep : Keep G w G.out w := ⟨rfl, rfl, rfl, Nat.le_refl _, fun b _ h => ⟨out_none (fun q e => by rw [h] at e; cases e), rfl, rfl⟩, out_stab⟩

theorem RelM.out {M : Nat → Option (List AV)} (h : RelM P G w M) : RelM P G.out w M :=
  h.move out_stab (Nat.le_refl _) (fun q b hq _ h2 => ⟨out_glob h2 hq, rfl, rfl⟩) (fun b hb => ⟨(h.far b hb).1, out_none (fun q e => by rw [(h.far b hb).2] at e; cases e)⟩) rfl

/-- Behind the call: what of the callee's is the caller's now. -/
theorem back_own {size d : Nat} {q : Pos} {b : Nat} (hk : b < size → ∀ q, G.owner b = some q → q.glob = true) (h : G'.owner b = some q) (hq : q.glob = true) : (G.back G' size d).owner b = some q := by
  have : (match (if b < size then G.owner b else none) with
      | some (.slot i c) => some (Pos.slot i c)
      | some (.lb k) => some (.lb k)
      | some (.lc k j) => some (.lc k j)
      | some (.res c) => some (.res c)
      | _ => match G'.owner b with
        | some (.res c) => some (.slot d c)
        | some (.mb id) => some (.mb id)
        | some (.mc id j) => some (.mc id j)
        | _ => none) = some q := by
    have h1 : ∀ q', (if b < size then G.owner b else none) = some q' → q'.glob = true := by
      intro q' e
      split at e
      · exact hk ‹_› q' e
      · cases e
    rw [h]
    cases e : (if b < size then G.owner b else none) with
    | none => cases q <;> first | rfl | cases hq
    | some q' =>
      have := h1 q' e
      cases q' <;> first | (cases this; done) | (cases q <;> first | rfl | cases hq)
  exact this

theorem back_res {size d c : Nat} {b : Nat} (hk : b < size → ∀ q, G.owner b = some q → q.glob = true) (h : G'.owner b = some (.res c)) : (G.back G' size d).owner b = some (.slot d c) := by
  have : (match (if b < size then G.owner b else none) with
      | some (.slot i c) => some (Pos.slot i c)
      | some (.lb k) => some (.lb k)
      | some (.lc k j) => some (.lc k j)
      | some (.res c) => some (.res c)
      | _ => match G'.owner b with
        | some (.res c) => some (.slot d c)
        | some (.mb id) => some (.mb id)
        | some (.mc id j) => some (.mc id j)
        | _ => none) = some (.slot d c) := by
    have h1 : ∀ q', (if b < size then G.owner b else none) = some q' → q'.glob = true := by
      intro q' e
      split at e
      · exact hk ‹_› q' e
      · cases e
    rw [h]
    cases e : (if b < size then G.owner b else none) with
    | none => rfl
    | some q' =>
      have := h1 q' e
      cases q' <;> first | rfl | cases this
  exact this

theorem back_mine {size d : Nat} {q : Pos} {b : Nat} (hb : b < size) (h : G.owner b = some q) (hq : q.glob = false) : (G.back G' size d).owner b = some q := by
  have : (match (if b < size then G.owner b else none) with
      | some (.slot i c) => some (Pos.slot i c)
      | some (.lb k) => some (.lb k)
      | some (.lc k j) => some (.lc k j)
      | some (.res c) => some (.res c)
      | _ => match G'.owner b with
        | some (.res c) => some (.slot d c)
        | some (.mb id) => some (.mb id)
        | some (.mc id j) => some (.mc id j)
        | _ => none) = some q := by
    rw [if_pos hb, h]
    cases q <;> first | rfl | cases hq
  exact this

theorem back_none {size d : Nat} {b : Nat} (h1 : b < size → G.owner b = none) (h2 : G'.owner b = none) : (G.back G' size d).owner b = none := by
  have : (match (if b < size then G.owner b else none) with
      | some (.slot i c) => some (Pos.slot i c)
      | some (.lb k) => some (.lb k)
      | some (.lc k j) => some (.lc k j)
      | some (.res c) => some (.res c)
      | _ => match G'.owner b with
        | some (.res c) => some (.slot d c)
        | some (.mb id) => some (.mb id)
        | some (.mc id j) => some (.mc id j)
        | _ => none) = none := by
    have e : (if b < size then G.owner b else none) = none := by
      split
      · exact h1 ‹_›
      · rfl
    rw [e, h2]
  exact this

/-- What of the caller's is the caller's still. -/
theorem back_kept (hk : Keep G.out w G' w') {d : Nat} {q : Pos} {b : Nat} (hb : b < w.heap.size) (h : G.owner b = some q) (hq : q.glob = false) :
    (G.back G' w.heap.size d).owner b = some q ∧ w'.heap[b]? = w.heap[b]? ∧ (G.back G' w.heap.size d).tip b = G.tip b := by
  obtain ⟨h1, h2, h3⟩ := hk.free b hb (out_none (fun q' e => by rw [h] at e; cases e; exact hq))
  exact ⟨back_mine hb h hq, h2, h3⟩

/-- A block that the callee owns is none of the caller's own. -/
theorem back_foreign (hk : Keep G.out w G' w') {q : Pos} {b : Nat} (h : G'.owner b = some q) : b < w.heap.size → ∀ q, G.owner b = some q → q.glob = true := by
  intro hb q' e
  cases hg : q'.glob with
  | true => rfl
  | false =>
    have := (hk.free b hb (out_none (fun q2 e2 => by rw [e] at e2; cases e2; exact hg))).1
    rw [h] at this; cases this
end

section
variable {P : Program} {n : Nat} {s : St} {ops : Array Oper} {o : Oper} {rest : List Oper} {Q : St → Prop} {d f : Nat}

/-- An argument: as it reads, without what it owns; or nil as a list of whatever kind. -/
def ArgOf (s : St) (x : Operand) (v : AV) : Prop := ((s.eval x).un = v ∧ v.flat = true) ∨ (x = .const (.slice none 0 0) ∧ ∃ E, v = .list false E [])

theorem ArgOf.rel {G : Gh} {a : Act} {w : World} {x : Operand} {v : AV} (h : ArgOf s x v) (hr : RelSt P G n s a w) (hc : ∀ v cs, x = .const v → v = .agg cs → ∀ c ∈ cs, c.oneCell' = true) : RelV P G w v (a.eval x) := by
  rcases h with ⟨rfl, hf⟩ | ⟨rfl, E, rfl⟩
  · obtain ⟨p, hp⟩ := hr.ev x hc
    exact hp.toV hf
  · exact .nil _ _

/-- A call, by what it answers. -/
theorem AOps.call {c : Call} {args : List AV} {R : AV → (Nat → Option (List AV)) → Prop} (hg : Wants ops s o) (hd : o.dst = some d) (hn : d < n) (ho : o.op = .call c) (hc : c.callee = .value (.func f))
    (henter : ∀ (vs : Array Value) (w : World), (callFunc f vs).run P w = .ok (.enter f vs) w) (hcon : ∀ x ∈ c.args, ∀ v cs, x = .const v → v = .agg cs → ∀ c ∈ cs, c.oneCell' = true)
    (hlen : c.args.size = args.length) (hargs : ∀ (j : Nat) x v, c.args[j]? = some x → args[j]? = some v → ArgOf s x v) (h : ACall P f args s.mem R)
    (k : ∀ r M, R r M → AOps P n ops rest { (s.put d r) with mem := M } Q) : AOps P n ops (o :: rest) s Q := by
  intro G a w K hr hfx hK
  simp only [wpList]
  rw [if_pos (wants_eval hr (fun t => by omega) hg)]
  left
  unfold Oper.wp
  have hrun : (execOp a.eval o).run P w = .ok (.enter f (c.args.map a.eval)) w := by
    simp [execOp, ho, resolve, hc, Act.eval, Deferred.ofValue, invoke, henter]
  rw [hrun, Oper.upon_enter]
  have hcall := h G.out w (c.args.map a.eval).toList hr.mem.out (hfx.keep (out_keep (G := G) (w := w))) (by simp [hlen]) (fun j x v hx hv => by
    rw [Array.toList_map, List.getElem?_map] at hv
    cases hy : c.args.toList[j]? with
    | none => simp [hy] at hv
    | some y =>
      simp only [hy, Option.map_some, Option.some.injEq] at hv
      subst hv
      have hy' : c.args[j]? = some y := by simpa using hy
      have := (hargs j y x hy' hx).rel hr (hcon y (by have := List.mem_of_getElem? hy; simpa using this))
      exact this.stab out_stab)
  simp only [Array.toArray_toList] at hcall
  refine hcall.mono ?_
  rintro e w' ⟨r, M', G', u, rfl, hR, hnl, hu, hm, hk⟩
  have hf : ∀ b, w'.heap.size ≤ b → (G.back G' w.heap.size d).tip b = 0 ∧ (G.back G' w.heap.size d).owner b = none := fun b hb => ⟨(hm.far b hb).1, back_none (fun h => by have := hk.size; omega) (hm.far b hb).2⟩
  have st0 : Stab G' w' (G.back G' w.heap.size d) w' := ⟨fun _ => Nat.le_refl _, fun _ _ _ => rfl, fun _ _ h => h⟩
  have st : Stab G w (G.back G' w.heap.size d) w' := (out_stab (G := G) (w := w)).trans (hk.stab.trans st0)
  have hu' : RelS P (G.back G' w.heap.size d) w' (.slot d) r u := by
    exact hu.move st0 (Nat.le_refl _) (fun k off e => by subst e; cases hnl) (fun c b hb h2 => ⟨back_res (back_foreign hk h2) h2, rfl, rfl⟩)
  have hkb : Keep G w (G.back G' w.heap.size d) w' := by
    refine ⟨hk.os, hk.tape, hk.output, hk.size, fun b hb ho => ?_, st⟩
    obtain ⟨h1, h2, h3⟩ := hk.free b hb (out_none (fun q e => by rw [ho] at e; cases e))
    exact ⟨back_none (fun _ => ho) h1, h2, h3⟩
  refine k r M' hR (G.back G' w.heap.size d) (a.put o.dst u) w' K ?_ (hfx.keep hkb) (fun s' G2 a2 w2 hq hr2 hk2 => hK s' G2 a2 w2 hq hr2 (Keep.trans hkb hk2))
  · rw [hd]
    refine ⟨by simp [Act.put, hr.size], by simpa [Act.put] using hr.defers, fun i => ?_, fun k cells hkk => ?_, ?_⟩
    · rw [getD_put _ _ _ _ (by rw [hr.size]; exact hn)]
      show RelS P _ w' (.slot i) (look .any ((d, r) :: s.fr) i) _
      simp only [look]
      by_cases e : i = d
      · subst e; simp only [if_true]; exact hu'
      · rw [if_neg (Ne.symm e), if_neg e]
        exact (hr.slot i).move st hk.size (fun _ _ _ => rfl) (fun c b h1 h2 => back_kept hk h1 h2 rfl)
    · have h0 := hr.loc k cells hkk
      have h1 := back_kept (d := d) hk h0.lt h0.own rfl
      exact h0.move st hk.size h1.2.1 (h1.1.trans h0.own.symm) h1.2.2 (fun c b h1 h2 => back_kept hk h1 h2 rfl)
    · exact hm.move st0 (Nat.le_refl _) (fun q b hq hb h2 => ⟨back_own (back_foreign hk h2) h2 hq, rfl, rfl⟩) hf rfl
end
end Go.Proofs.Ytfnbfkgknfagmaa
