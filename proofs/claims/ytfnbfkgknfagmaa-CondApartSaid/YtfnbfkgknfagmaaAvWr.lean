/- Abstract values: from one ghost to the next; new blocks. -/
import Derived.Test.YtfnbfkgknfagmaaAvMem
import Derived.Great.BuildSlice
namespace Go.Proofs.Ytfnbfkgknfagmaa
open Go.RowKit

section
variable {P : Program} {G G' : Gh} {w w' : World}

theorem ownsRow_same {base : Nat} {e : TypeId} {size : Nat} {v : Value} {n : Nat} {xs : List Value} (h : w.ownsRow base e size v n xs) (hb : ∀ b, v.ownBlock = some b → w'.heap[b]? = w.heap[b]?) : w'.ownsRow base e size v n xs := by
  obtain ⟨h1, h2⟩ := h
  refine ⟨h1, h2.imp id ?_⟩
  rintro ⟨g, cap, cur, rfl, hg, hh, r⟩
  exact ⟨g, cap, cur, rfl, hg, by rw [hb g rfl]; exact hh, r⟩

theorem RelO.move {q q' : Pos} {x : AV} {v : Value} (st : Stab G w G' w') (hz : w.heap.size ≤ w'.heap.size)
    (ho : ∀ b, b < w.heap.size → G.owner b = some q → G'.owner b = some q' ∧ w'.heap[b]? = w.heap[b]? ∧ G'.tip b = G.tip b) (h : RelO P G w q x v) : RelO P G' w' q' x v := by
  cases x with
  | list o E xs =>
    cases o with
    | false => exact RelV.stab st (x := .list false E xs) h
    | true =>
      rcases h with ⟨size, us, hs, hl, hsc, hown, hr, hb⟩ | h
      · refine .inl ⟨size, us, hs, hl, hsc, ownsRow_same hown (fun b e => ?_), fun j c u h1 h2 => (hr j c u h1 h2).stab st, fun b e => ?_⟩
        · obtain ⟨h1, h2, h3⟩ := hb b e
          exact (ho b h1 h2).2.1
        · obtain ⟨h1, h2, h3⟩ := hb b e
          obtain ⟨k1, k2, k3⟩ := ho b h1 h2
          exact ⟨Nat.lt_of_lt_of_le h1 hz, k1, k3.trans h3⟩
      · exact .inr h
  | _ => exact RelV.stab st h

theorem RelS.move {p p' : Nat → Pos} {x : AV} {v : Value} (st : Stab G w G' w') (hz : w.heap.size ≤ w'.heap.size) (hlb : ∀ k off, x = .lptr k off → G'.lb k = G.lb k)
    (ho : ∀ c b, b < w.heap.size → G.owner b = some (p c) → G'.owner b = some (p' c) ∧ w'.heap[b]? = w.heap[b]? ∧ G'.tip b = G.tip b) (h : RelS P G w p x v) : RelS P G' w' p' x v := by
  cases x with
  | lptr k off => rw [show RelS P G' w' p' (.lptr k off) v = (v = .pointer (some ⟨G'.lb k, off, none⟩)) from rfl, hlb k off rfl]; exact h
  | eptr x k =>
    obtain ⟨b, o, us, hv, ht, hc⟩ := h
    refine ⟨b, o, us, hv, Nat.le_trans ht (st.tip b), fun j c hj => ?_⟩
    have hjl := (List.getElem?_eq_some_iff.1 hj).1
    rw [st.cell b (o + j) (by omega)]
    exact ⟨(hc j c hj).1, (hc j c hj).2.stab st⟩
  | tuple cs =>
    obtain ⟨vs, hv, hl, hr⟩ := h
    exact ⟨vs, hv, hl, fun j c u h1 h2 => (hr j c u h1 h2).move st hz (ho j)⟩
  | list o E xs => exact RelO.move (q := p 0) (q' := p' 0) (x := .list o E xs) st hz (ho 0) h
  | pin x u => exact ⟨h.1, h.2.1, h.2.2.stab st⟩
  | any => exact RelV.stab st (x := .any) h
  | lit u => exact RelV.stab st (x := .lit u) h
  | str l => exact RelV.stab st (x := .str l) h
  | gptr id off => exact RelV.stab st (x := .gptr id off) h
  | gmap id => exact RelV.stab st (x := .gmap id) h
  | agg cs => exact RelV.stab st (x := .agg cs) h
  | fn f cap => exact RelV.stab st (x := .fn f cap) h

/-- A copy, read later: whoever owns. -/
theorem RelS.unmove {p p' : Nat → Pos} {x : AV} {v : Value} (st : Stab G w G' w') (hlb : ∀ k off, x = .lptr k off → G'.lb k = G.lb k) (h : RelS P G w p x v) : RelS P G' w' p' x.un v := by
  have h1 := RelS.un (p' := p) h
  cases x with
  | lptr k off => rw [show RelS P G' w' p' (AV.lptr k off).un v = (v = .pointer (some ⟨G'.lb k, off, none⟩)) from rfl, hlb k off rfl]; exact h
  | eptr x k =>
    obtain ⟨b, o, us, hv, ht, hc⟩ := h
    refine ⟨b, o, us, hv, Nat.le_trans ht (st.tip b), fun j c hj => ?_⟩
    have hjl := (List.getElem?_eq_some_iff.1 hj).1
    rw [st.cell b (o + j) (by omega)]
    exact ⟨(hc j c hj).1, (hc j c hj).2.stab st⟩
  | tuple cs =>
    obtain ⟨vs, hv, hl, hr⟩ := h1
    refine ⟨vs, hv, hl, fun j c u hc hu => ?_⟩
    have h2 := hr j c u hc hu
    rw [List.getElem?_map] at hc
    cases hx : cs[j]? with
    | none => simp [hx] at hc
    | some c' =>
      simp only [hx, Option.map_some, Option.some.injEq] at hc
      subst hc
      cases c' with
      | list o E xs => exact RelV.stab st (x := .list false E xs) h2
      | lptr k off => exact RelV.stab st (x := .lptr k off) h2
      | eptr x k => exact RelV.stab st (x := .eptr x k) h2
      | tuple cs => exact RelV.stab st (x := .tuple cs) h2
      | any => exact RelV.stab st (x := .any) h2
      | lit u => exact RelV.stab st (x := .lit u) h2
      | str l => exact RelV.stab st (x := .str l) h2
      | gptr id off => exact RelV.stab st (x := .gptr id off) h2
      | gmap id => exact RelV.stab st (x := .gmap id) h2
      | agg cs => exact RelV.stab st (x := .agg cs) h2
      | fn f cap => exact RelV.stab st (x := .fn f cap) h2
      | pin x u => exact RelV.stab st (x := .pin x u) h2
  | list o E xs => exact RelV.stab st (x := .list false E xs) h1
  | pin x u => rw [show (AV.pin x u).un = x.un from rfl, plain_un h.2.1]; exact (h.2.2.stab st).toS (plain_flat h.2.1)
  | any => exact RelV.stab st (x := .any) h1
  | lit u => exact RelV.stab st (x := .lit u) h1
  | str l => exact RelV.stab st (x := .str l) h1
  | gptr id off => exact RelV.stab st (x := .gptr id off) h1
  | gmap id => exact RelV.stab st (x := .gmap id) h1
  | agg cs => exact RelV.stab st (x := .agg cs) h1
  | fn f cap => exact RelV.stab st (x := .fn f cap) h1

theorem Holds.move {b : Nat} {own : Pos} {p : Nat → Pos} {cells : List AV} (st : Stab G w G' w') (hz : w.heap.size ≤ w'.heap.size) (hh : w'.heap[b]? = w.heap[b]?) (hb : G'.owner b = G.owner b) (ht : G'.tip b = G.tip b)
    (ho : ∀ c b, b < w.heap.size → G.owner b = some (p c) → G'.owner b = some (p c) ∧ w'.heap[b]? = w.heap[b]? ∧ G'.tip b = G.tip b) (h : Holds P G w b own p cells) : Holds P G' w' b own p cells := by
  obtain ⟨arr, T, h1, h2, h3, h4, h5, h6⟩ := h
  exact ⟨arr, T, hh.trans h1, h2, hb.trans h3, ht.trans h4, h5, fun j c u hj hu => (h6 j c u hj hu).move st hz (ho j)⟩

theorem Holds.lt {b : Nat} {own : Pos} {p : Nat → Pos} {cells : List AV} (h : Holds P G w b own p cells) : b < w.heap.size := by
  obtain ⟨arr, T, h1, _⟩ := h
  exact (Array.getElem?_eq_some_iff.1 h1).1
theorem Holds.own {b : Nat} {own : Pos} {p : Nat → Pos} {cells : List AV} (h : Holds P G w b own p cells) : G.owner b = some own := by
  obtain ⟨arr, T, _, _, h3, _⟩ := h
  exact h3

theorem HoldsM.move {b : Nat} {own : Pos} {S : List (List UInt8 × AV)} (st : Stab G w G' w') (hh : w'.heap[b]? = w.heap[b]?) (hb : G'.owner b = G.owner b) (ht : G'.tip b = G.tip b) (h : HoldsM P G w b own S) : HoldsM P G' w' b own S := by
  obtain ⟨es, clock, h1, h2, h3, h4, h5⟩ := h
  exact ⟨es, clock, hh.trans h1, hb.trans h2, ht.trans h3, h4, fun i k x hi => by obtain ⟨e, a1, a2, a3⟩ := h5 i k x hi; exact ⟨e, a1, a2, a3.stab st⟩⟩
theorem HoldsX.lt {b id : Nat} {cells : List AV} (h : HoldsX P G w b id cells) : b < w.heap.size := by
  rcases h with ⟨h, _⟩ | ⟨S, _, es, clock, h1, _⟩
  · exact h.lt
  · exact (Array.getElem?_eq_some_iff.1 h1).1
theorem HoldsX.own {b id : Nat} {cells : List AV} (h : HoldsX P G w b id cells) : G.owner b = some (.mb id) := by
  rcases h with ⟨h, _⟩ | ⟨S, _, es, clock, _, h2, _⟩
  · exact h.own
  · exact h2
theorem HoldsX.move {b id : Nat} {cells : List AV} (st : Stab G w G' w') (hz : w.heap.size ≤ w'.heap.size) (hh : w'.heap[b]? = w.heap[b]?) (hb : G'.owner b = G.owner b) (ht : G'.tip b = G.tip b)
    (ho : ∀ c b, b < w.heap.size → G.owner b = some (.mc id c) → G'.owner b = some (.mc id c) ∧ w'.heap[b]? = w.heap[b]? ∧ G'.tip b = G.tip b) (h : HoldsX P G w b id cells) : HoldsX P G' w' b id cells := by
  rcases h with ⟨h, arr, hty⟩ | ⟨S, e, h⟩
  · exact .inl ⟨h.move st hz hh hb ht ho, arr, hh.trans hty⟩
  · exact .inr ⟨S, e, h.move st hh hb ht⟩

theorem RelM.move {M : Nat → Option (List AV)} (st : Stab G w G' w') (hz : w.heap.size ≤ w'.heap.size)
    (ho : ∀ q b, q.glob = true → b < w.heap.size → G.owner b = some q → G'.owner b = some q ∧ w'.heap[b]? = w.heap[b]? ∧ G'.tip b = G.tip b)
    (hfar : ∀ b, w'.heap.size ≤ b → G'.tip b = 0 ∧ G'.owner b = none) (hmb : G'.mb = G.mb) (h : RelM P G w M) : RelM P G' w' M := by
  refine ⟨fun id cells hm => ?_, hfar, by rw [hmb]; exact h.fin⟩
  obtain ⟨b, hb, hh⟩ := h.obj id cells hm
  obtain ⟨k1, k2, k3⟩ := ho (.mb id) b rfl hh.lt hh.own
  exact ⟨b, st.mb id b hb, hh.move st hz k2 (k1.trans hh.own.symm) k3 (fun c b' h1 h2 => ho (.mc id c) b' rfl h1 h2)⟩
end

/-- What stays as it was, but for slot d, which is written, and slots that own nothing any more ('ex'). -/
theorem RelSt.turnX {P : Program} {n : Nat} {s : St} {a : Act} {G G' : Gh} {w w' : World} {d : Nat} {v : AV} {u : Value} (ex : Nat → Prop) (hex : ∀ i, ex i → i = d ∨ (s.get i).un = s.get i) (hr : RelSt P G n s a w) (hd : d < n) (kp : Stab G w G' w') (hz : w.heap.size ≤ w'.heap.size)
    (hlb : ∀ k, (lookL s.loc k).isSome = true ∨ (∃ i off, s.get i = .lptr k off) → G'.lb k = G.lb k)
    (ho : ∀ q b, b < w.heap.size → G.owner b = some q → (∀ i c, ex i → q ≠ .slot i c) → G'.owner b = some q ∧ w'.heap[b]? = w.heap[b]? ∧ G'.tip b = G.tip b)
    (hfar : ∀ b, w'.heap.size ≤ b → G'.tip b = 0 ∧ G'.owner b = none) (hmb : G'.mb = G.mb)
    (hv : RelS P G' w' (.slot d) v u) : RelSt P G' n (s.put d v) (a.put (some d) u) w' := by
  refine ⟨by simp [Act.put, hr.size], by simpa [Act.put] using hr.defers, fun i => ?_, fun k cells hk => ?_, ?_⟩
  · rw [getD_put _ _ _ _ (by rw [hr.size]; exact hd)]
    show RelS P G' w' (.slot i) (look .any ((d, v) :: s.fr) i) _
    simp only [look]
    by_cases e : i = d
    · subst e; simp only [if_true]; exact hv
    · rw [if_neg (Ne.symm e), if_neg e]
      by_cases hx : ex i
      · have h1 := (hr.slot i).unmove (p' := .slot i) kp (fun k off hx => hlb k (.inr ⟨i, off, hx⟩))
        rw [(hex i hx).resolve_left e] at h1
        exact h1
      · exact (hr.slot i).move kp hz (fun k off hx => hlb k (.inr ⟨i, off, hx⟩)) (fun c b h1 h2 => ho _ b h1 h2 (fun i' c' hi' h => by injection h with h3; subst h3; exact hx hi'))
  · have h0 := hr.loc k cells hk
    obtain ⟨k1, k2, k3⟩ := ho _ _ h0.lt h0.own (fun i c _ h => by cases h)
    rw [hlb k (.inl (by rw [show lookL s.loc k = some cells from hk]; rfl))]
    exact h0.move kp hz k2 (k1.trans h0.own.symm) k3 (fun c b h1 h2 => ho _ b h1 h2 (fun i c' _ h => by cases h))
  · exact hr.mem.move kp hz (fun q b hq h1 h2 => ho q b h1 h2 (fun i c _ h => by subst h; cases hq)) hfar hmb

theorem RelSt.turn {P : Program} {n : Nat} {s : St} {a : Act} {G G' : Gh} {w w' : World} {d : Nat} {v : AV} {u : Value} (hr : RelSt P G n s a w) (hd : d < n) (kp : Stab G w G' w') (hz : w.heap.size ≤ w'.heap.size)
    (hlb : ∀ k, (lookL s.loc k).isSome = true ∨ (∃ i off, s.get i = .lptr k off) → G'.lb k = G.lb k)
    (ho : ∀ q b, b < w.heap.size → G.owner b = some q → (∀ c, q ≠ .slot d c) → G'.owner b = some q ∧ w'.heap[b]? = w.heap[b]? ∧ G'.tip b = G.tip b)
    (hfar : ∀ b, w'.heap.size ≤ b → G'.tip b = 0 ∧ G'.owner b = none) (hmb : G'.mb = G.mb)
    (hv : RelS P G' w' (.slot d) v u) : RelSt P G' n (s.put d v) (a.put (some d) u) w' :=
  hr.turnX (fun i => i = d) (fun i h => .inl h) hd kp hz hlb (fun q b h1 h2 h3 => ho q b h1 h2 (fun c => h3 d c rfl)) hfar hmb hv

theorem un_un : ∀ x : AV, x.un.un = x.un
  | .pin x v => un_un x
  | .tuple cs => by
    simp only [AV.un, List.map_map]
    congr 1
    apply List.map_congr_left
    intro c _
    cases c <;> rfl
  | .any | .lit _ | .str _ | .lptr _ _ | .gptr _ _ | .gmap _ | .eptr _ _ | .list _ _ _ | .agg _ | .fn _ _ => rfl

/-- A slot gives up what it owns. -/
theorem RelSt.unslot {P : Program} {n : Nat} {s : St} {a : Act} {G : Gh} {w : World} (hr : RelSt P G n s a w) (r : Nat) : RelSt P G n (s.put r (s.get r).un) a w := by
  refine ⟨hr.size, hr.defers, fun i => ?_, hr.loc, hr.mem⟩
  show RelS P G w (.slot i) (look .any ((r, (s.get r).un) :: s.fr) i) _
  simp only [look]
  split
  · rename_i e; subst e; exact RelS.un (hr.slot r)
  · exact hr.slot i

theorem get_put (s : St) (r : Nat) (v : AV) : (s.put r v).get r = v := by simp [St.put, St.get, look]

section
variable {P : Program} {n : Nat} {s : St} {ops : Array Oper} {o : Oper} {rest : List Oper} {Q : St → Prop} {d r : Nat} {t E : TypeId} {x y : Operand}

/-- An operation that may write: how its run goes on. -/
theorem AOps.step {s' : St} (hg : Wants ops s o) (hd : o.dst = some d)
    (h : ∀ (G : Gh) (a : Act) (w : World), RelSt P G n s a w → ∃ u w' G', (execOp a.eval o).run P w = .ok (.value u) w' ∧ RelSt P G' n s' (a.put (some d) u) w' ∧ Keep G w G' w') (k : AOps P n ops rest s' Q) : AOps P n ops (o :: rest) s Q := by
  intro G a w K hr hfx hK
  simp only [wpList]
  rw [if_pos (wants_eval hr (fun t => by omega) hg)]
  left
  obtain ⟨u, w', G', hrun, hr', hk⟩ := h G a w hr
  unfold Oper.wp
  rw [hrun, Oper.upon_value, hd]
  exact k G' _ w' K hr' (hfx.keep hk) fun s2 G2 a2 w2 hq hr2 hk2 => hK s2 G2 a2 w2 hq hr2 (hk.trans hk2)

/-- .. and of one that yields nothing. -/
theorem AOps.effect {s' : St} (hg : Wants ops s o) (hd : o.dst = none)
    (h : ∀ (G : Gh) (a : Act) (w : World), RelSt P G n s a w → ∃ w' G', (execOp a.eval o).run P w = .ok .skip w' ∧ RelSt P G' n s' a w' ∧ Keep G w G' w') (k : AOps P n ops rest s' Q) : AOps P n ops (o :: rest) s Q := by
  intro G a w K hr hfx hK
  simp only [wpList]
  rw [if_pos (wants_eval hr (fun t => by omega) hg)]
  left
  obtain ⟨w', G', hrun, hr', hk⟩ := h G a w hr
  unfold Oper.wp
  rw [hrun, Oper.upon_skip, hd]
  exact k G' _ w' K hr' (hfx.keep hk) fun s2 G2 a2 w2 hq hr2 hk2 => hK s2 G2 a2 w2 hq hr2 (hk.trans hk2)

/-- A copy by which the row's owner becomes the copy. -/
theorem AOps.steal {v : AV} (hg : Wants ops s o) (hd : o.dst = some d) (hn : d < n) (hrd : r ≠ d) (ho : o.op = .move (.tmp r) ∨ o.op = .assign (.tmp r)) (hv : s.get r = v)
    (k : AOps P n ops rest { s with fr := (d, v) :: (r, v.un) :: s.fr } Q) : AOps P n ops (o :: rest) s Q := by
  refine AOps.step hg hd ?_ k
  intro G a w hr
  subst hv
  let G' : Gh := { G with owner := fun b => match G.owner b with | some (.slot i c) => if i = r then some (.slot d c) else some (.slot i c) | q => q }
  have st : Stab G w G' w := ⟨fun _ => Nat.le_refl _, fun _ _ _ => rfl, fun _ _ h => h⟩
  have hown : ∀ q b, G.owner b = some q → (∀ c, q ≠ .slot r c) → G'.owner b = some q := by
    intro q b h1 h2
    show (match G.owner b with | some (.slot i c) => if i = r then some (Pos.slot d c) else some (.slot i c) | q => q) = some q
    rw [h1]
    cases q with
    | slot i c => simp only; rw [if_neg (fun e => h2 c (by rw [e]))]
    | _ => rfl
  refine ⟨a.tmps.getD r undef, w, G', ?_, ?_, ?_⟩
  · rcases ho with ho | ho <;> simp [execOp, ho, Act.eval]
  · refine ⟨by simp [Act.put, hr.size], by simpa [Act.put] using hr.defers, fun i => ?_, fun k cells hk => ?_, ?_⟩
    · rw [getD_put _ _ _ _ (by rw [hr.size]; exact hn)]
      show RelS P G' w (.slot i) (look .any ((d, s.get r) :: (r, (s.get r).un) :: s.fr) i) _
      simp only [look]
      by_cases e : i = d
      · subst e
        simp only [if_true]
        refine (hr.slot r).move st (Nat.le_refl _) (fun _ _ _ => rfl) (fun c b _ h2 => ⟨?_, rfl, rfl⟩)
        show (match G.owner b with | some (.slot i' c) => if i' = r then some (Pos.slot i c) else some (.slot i' c) | q => q) = _
        rw [h2]; simp
      · rw [if_neg (Ne.symm e), if_neg e]
        by_cases e2 : i = r
        · subst e2
          simp only [if_true]
          exact (hr.slot i).unmove st (fun _ _ _ => rfl)
        · rw [if_neg (Ne.symm e2)]
          exact (hr.slot i).move st (Nat.le_refl _) (fun _ _ _ => rfl) (fun c b _ h2 => ⟨hown _ b h2 (fun c' h => e2 (by injection h)), rfl, rfl⟩)
    · exact (hr.loc k cells hk).move st (Nat.le_refl _) rfl ((hown _ _ (hr.loc k cells hk).own (fun c h => by cases h)).trans (hr.loc k cells hk).own.symm) rfl (fun c b _ h2 => ⟨hown _ b h2 (fun c' h => by cases h), rfl, rfl⟩)
    · exact hr.mem.move st (Nat.le_refl _) (fun q b hq _ h2 => ⟨hown q b h2 (fun c h => by subst h; cases hq), rfl, rfl⟩) (fun b hb => ⟨(hr.mem.far b hb).1, by
        show (match G.owner b with | some (.slot i c) => if i = r then some (Pos.slot d c) else some (.slot i c) | q => q) = none
        rw [(hr.mem.far b hb).2]⟩) rfl
  · refine ⟨rfl, rfl, rfl, Nat.le_refl _, fun b _ h => ⟨?_, rfl, rfl⟩, st⟩
    show (match G.owner b with | some (.slot i c) => if i = r then some (Pos.slot d c) else some (.slot i c) | q => q) = none
    rw [h]


/-- The heap with one block more. -/
theorem heap_new (w : World) (ob : Obj) : (w.alloc ob).heap[w.heap.size]? = some ob := (MapKept.heap_alloc w ob).1
theorem heap_old (w : World) (ob : Obj) (b : Nat) (h : b < w.heap.size) : (w.alloc ob).heap[b]? = w.heap[b]? := Below.heap_alloc _ _ _ h
theorem size_alloc (w : World) (ob : Obj) : (w.alloc ob).heap.size = w.heap.size + 1 := by simp

/-- A new block, owned by q. -/
def Gh.new (G : Gh) (b : Nat) (q : Pos) (tip : Nat) : Gh := { G with owner := fun c => if c = b then some q else G.owner c, tip := fun c => if c = b then tip else G.tip c }

theorem stab_new {G : Gh} {w : World} (ob : Obj) (q : Pos) (tip : Nat) (hfar : ∀ b, w.heap.size ≤ b → G.tip b = 0 ∧ G.owner b = none) : Stab G w (G.new w.heap.size q tip) (w.alloc ob) := by
  refine ⟨fun b => ?_, fun b oo ho => ?_, fun _ _ h => h⟩
  · show G.tip b ≤ if b = w.heap.size then tip else G.tip b
    split
    · rename_i e; subst e; rw [(hfar _ (Nat.le_refl _)).1]; exact Nat.zero_le _
    · exact Nat.le_refl _
  · have hb : b < w.heap.size := by
      rcases Nat.lt_or_ge b w.heap.size with h | h
      · exact h
      · rw [(hfar b h).1] at ho; omega
    exact World.cell?_of_block (w := w) (a := ⟨b, oo, none⟩) (heap_old _ _ _ hb)

theorem far_new {G : Gh} {w : World} (ob : Obj) (q : Pos) (tip : Nat) (hfar : ∀ b, w.heap.size ≤ b → G.tip b = 0 ∧ G.owner b = none) (b : Nat) (hb : (w.alloc ob).heap.size ≤ b) : (G.new w.heap.size q tip).tip b = 0 ∧ (G.new w.heap.size q tip).owner b = none := by
  rw [size_alloc] at hb
  have hne : b ≠ w.heap.size := by omega
  obtain ⟨h1, h2⟩ := hfar b (by omega)
  simp only [Gh.new, if_neg hne]
  exact ⟨h1, h2⟩

theorem keep_new {G : Gh} {w : World} (ob : Obj) (q : Pos) (tip : Nat) (hfar : ∀ b, w.heap.size ≤ b → G.tip b = 0 ∧ G.owner b = none) : Keep G w (G.new w.heap.size q tip) (w.alloc ob) := by
  refine ⟨rfl, rfl, rfl, by rw [size_alloc]; omega, fun b hb ho => ?_, stab_new ob q tip hfar⟩
  have hne : b ≠ w.heap.size := by omega
  simp only [Gh.new, if_neg hne]
  exact ⟨ho, heap_old _ _ _ hb, trivial⟩

theorem own_new {G : Gh} {w : World} (ob : Obj) (q q' : Pos) (tip b : Nat) (hb : b < w.heap.size) (ho : G.owner b = some q') : (G.new w.heap.size q tip).owner b = some q' ∧ (w.alloc ob).heap[b]? = w.heap[b]? ∧ (G.new w.heap.size q tip).tip b = G.tip b := by
  have hne : b ≠ w.heap.size := by omega
  simp only [Gh.new, if_neg hne]
  exact ⟨ho, heap_old _ _ _ hb, trivial⟩

/-- A fresh row in slot d. -/
theorem AOps.row {xs : List AV} (hg : Wants ops s o) (hd : o.dst = some d) (hn : d < n) {size : Nat} (hs : SizeOf P E size) (hl : ∀ x ∈ xs, x.cells.length = size) (hsc : ∀ x ∈ xs, ∀ c ∈ x.cells, c.scalar = true) (hmax : xs.length ≤ maxLen)
    (h : ∀ (G : Gh) (a : Act) (w : World), RelSt P G n s a w → ∃ cs : List Value, cs.length = xs.length * size ∧ (∀ (j : Nat) c u, (xs.flatMap AV.cells)[j]? = some c → cs[j]? = some u → RelV P G w c u) ∧
      (execOp a.eval o).run P w = .ok (.value (.slice (some ⟨w.heap.size, 0, none⟩) xs.length xs.length)) (w.alloc (.cells cs.toArray E)))
    (k : AOps P n ops rest (s.put d (.list true E xs)) Q) : AOps P n ops (o :: rest) s Q := by
  refine AOps.step hg hd ?_ k
  intro G a w hr
  obtain ⟨cs, hcl, hcr, hrun⟩ := h G a w hr
  have hfar := hr.mem.far
  have st := stab_new (.cells cs.toArray E) (.slot d 0) (xs.length * size) hfar
  refine ⟨_, _, G.new w.heap.size (.slot d 0) (xs.length * size), hrun, ?_, keep_new _ _ _ hfar⟩
  refine hr.turn hn st (by rw [size_alloc]; omega) (fun _ _ => rfl) (fun q b h1 h2 _ => own_new _ _ _ _ b h1 h2) (fun b hb => far_new _ _ _ hfar b hb) rfl ?_
  refine .inl ⟨size, cs, hs, hl, hsc, ⟨hcl, .inr ⟨w.heap.size, xs.length, cs.toArray, rfl, Nat.zero_le _, heap_new _ _, Nat.le_refl _, hmax, by simpa using hcl, by rw [← hcl]; simp⟩⟩, fun j c u h1 h2 => (hcr j c u h1 h2).stab st, fun b hb => ?_⟩
  simp only [Value.ownBlock, Option.some.injEq] at hb
  subst hb
  refine ⟨by rw [size_alloc]; omega, ?_, ?_⟩
  · show (if w.heap.size = w.heap.size then _ else _) = _; simp
  · show (if w.heap.size = w.heap.size then _ else _) = _; simp

/-- A local variable in a block of its own: 'box', 'alloc'. -/
theorem AOps.var {cells : List AV} (hg : Wants ops s o) (hd : o.dst = some d) (hn : d < n) (hnl : lookL s.loc d = none) (hno : ∀ i off, s.get i ≠ .lptr d off) (hsc : ∀ c ∈ cells, c.scalar = true) (hfl : ∀ c ∈ cells, c.flat = true)
    (h : ∀ (G : Gh) (a : Act) (w : World), RelSt P G n s a w → ∃ (cs : List Value) (T : TypeId), cs.length = cells.length ∧ (∀ (j : Nat) c u, cells[j]? = some c → cs[j]? = some u → RelV P G w c u) ∧
      (execOp a.eval o).run P w = .ok (.value (.pointer (some ⟨w.heap.size, 0, none⟩))) (w.alloc (.cells cs.toArray T)))
    (k : AOps P n ops rest { s with fr := (d, .lptr d 0) :: s.fr, loc := (d, cells) :: s.loc } Q) : AOps P n ops (o :: rest) s Q := by
  refine AOps.step hg hd ?_ k
  intro G a w hr
  obtain ⟨cs, T, hcl, hcr, hrun⟩ := h G a w hr
  have hfar := hr.mem.far
  let G1 := G.new w.heap.size (.lb d) 0
  let G' : Gh := { G1 with lb := fun k => if k = d then w.heap.size else G.lb k }
  have st1 : Stab G w G1 (w.alloc (.cells cs.toArray T)) := stab_new _ _ _ hfar
  have st : Stab G w G' (w.alloc (.cells cs.toArray T)) := ⟨st1.tip, st1.cell, st1.mb⟩
  have kp := keep_new (.cells cs.toArray T) (.lb d) 0 hfar
  have hT := hr.turn (G' := G') (d := d) (v := .lptr d 0) (u := .pointer (some ⟨w.heap.size, 0, none⟩)) hn st (by rw [size_alloc]; omega) (fun k hk => by
      show (if k = d then w.heap.size else G.lb k) = G.lb k
      rw [if_neg]
      intro e
      subst e
      rcases hk with hk | ⟨i, off, hk⟩
      · rw [hnl] at hk; cases hk
      · exact hno i off hk) (fun q b h1 h2 _ => own_new _ _ _ _ b h1 h2) (fun b hb => far_new _ _ _ hfar b hb) rfl (by
      show _ = Value.pointer (some ⟨if d = d then w.heap.size else G.lb d, 0, none⟩)
      simp)
  refine ⟨_, _, G', hrun, ⟨hT.size, hT.defers, hT.slot, fun k cells' hk => ?_, hT.mem⟩, ⟨kp.os, kp.tape, kp.output, kp.size, kp.free, st⟩⟩
  simp only [lookL] at hk
  split at hk
  · rename_i e
    subst e
    cases hk
    have e1 : G'.lb d = w.heap.size := by show (if d = d then w.heap.size else G.lb d) = _; simp
    rw [e1]
    refine ⟨cs.toArray, T, heap_new _ _, by simpa using hcl, ?_, ?_, hsc, fun j c u h1 h2 => ?_⟩
    · show (if w.heap.size = w.heap.size then _ else _) = _; simp
    · show (if w.heap.size = w.heap.size then _ else _) = _; simp
    · have := (hcr j c u h1 (by simpa using h2)).stab st
      exact this.toO (hfl c (List.mem_of_getElem? h1))
  · exact hT.loc k cells' hk

end
end Go.Proofs.Ytfnbfkgknfagmaa
