/- Abstract values: memory that is read. -/
import Derived.Test.YtfnbfkgknfagmaaAvRd
namespace Go.Proofs.Ytfnbfkgknfagmaa
open Go.RowKit

theorem add_at (b o j : Nat) : (⟨b, o, none⟩ : Addr).add j = ⟨b, o + j, none⟩ := Addr.add_mid b o j

theorem flat_get {xs : List AV} {size m j : Nat} {x c : AV} (hl : ∀ x ∈ xs, x.cells.length = size) (hx : xs[m]? = some x) (hc : x.cells[j]? = some c) : (xs.flatMap AV.cells)[m * size + j]? = some c := by
  induction xs generalizing m with
  | nil => simp at hx
  | cons a r ih =>
    have ha := hl a (List.mem_cons_self ..)
    have hr : ∀ x ∈ r, x.cells.length = size := fun x hx => hl x (List.mem_cons_of_mem _ hx)
    rw [List.flatMap_cons]
    cases m with
    | zero =>
      simp only [List.getElem?_cons_zero, Option.some.injEq] at hx
      subst hx
      have := (List.getElem?_eq_some_iff.1 hc).1
      rw [List.getElem?_append_left (by omega)]
      simpa using hc
    | succ m =>
      simp only [List.getElem?_cons_succ] at hx
      rw [List.getElem?_append_right (by rw [ha, Nat.add_mul]; omega), ha]
      have e : (m + 1) * size + j - size = m * size + j := by rw [Nat.add_mul]; omega
      rw [e]
      exact ih hr hx

def fieldOf (P : Program) (t : TypeId) (f : Nat) (off : Nat) (ft : TypeId) (size : Nat) : Prop :=
  ∃ fs F, P.underlying t = some (.struct fs) ∧ fs[f]? = some F ∧ F.offset = off ∧ F.type = ft ∧ SizeOf P ft size

section
variable {P : Program} {n : Nat} {s : St} {o : Oper} {d : Nat} {t t' E : TypeId} {x y : Operand} {k : IntKind} {i : Int}

theorem elem_lt {m len : Nat} (h : m < len) (size off tot : Nat) (hh : off + len * size ≤ tot) : off + m * size + size ≤ tot := by
  have : (m + 1) * size ≤ len * size := Nat.mul_le_mul_right _ h
  rw [Nat.add_mul] at this
  omega

theorem Reader.elemAddr {ow : Bool} {xs : List AV} {m size : Nat} {e : AV} (ho : o.op = .indexAddr t x y) (hu : P.underlying t = some (.slice E)) (hs : SizeOf P E size) (hx : s.eval x = .list ow E xs)
    (hy : s.eval y = .lit (.int k i)) (hi : i = m) (he : xs[m]? = some e) : Reader P n s o d (.eptr e 0) := by
  intro G a w h
  obtain ⟨p, hp⟩ := h.ev x (fun v cs e1 e2 => by subst e1; subst e2; simp [St.eval, ofConst] at hx)
  rw [hx] at hp
  have hv := RelS.un (p' := p) hp
  have hm := (List.getElem?_eq_some_iff.1 he).1
  generalize hav : a.eval x = v at hv
  have hv' : RelV P G w (.list false E xs) v := hv
  cases hv' with
  | nil => simp at he
  | zero => simp at he
  | row _ _ _ b off cap size' us hs' hl hsc hcap hmax htip hc hr =>
    have hsz : size' = size := by unfold SizeOf at hs hs'; rw [hs] at hs'; exact (Option.some.inj hs').symm
    subst hsz
    refine ⟨.pointer (some ⟨b, off + m * size', none⟩), ⟨b, off + m * size', fun j => us (m * size' + j), rfl, ?_, ?_⟩, fun w' _ => ?_⟩
    · rw [hl e (List.mem_of_getElem? he)]
      exact elem_lt hm _ _ _ (htip (by omega))
    · intro j c hj
      have hjl := (List.getElem?_eq_some_iff.1 hj).1
      rw [hl e (List.mem_of_getElem? he)] at hjl
      refine ⟨?_, hr _ c (flat_get hl he hj)⟩
      have := elem_lt hm size' 0 _ (Nat.le_refl _)
      rw [Nat.add_assoc]
      exact hc (m * size' + j) (by omega)
    · subst hi
      simp [execOp, ho, Instr.indexAt, asIntOf, hav, h.evLit hy, run_underlying hu, run_size hs, hm, add_at]

/-- A field's address. -/
theorem Reader.fieldE {e : AV} {kk f off size : Nat} {ft : TypeId} (ho : o.op = .fieldAddr t x f) (hf : fieldOf P t f off ft size) (h0 : size ≠ 0) (hx : s.eval x = .eptr e kk) : Reader P n s o d (.eptr e (kk + off)) := by
  intro G a w h
  obtain ⟨fs, F, hu, hF, rfl, rfl, hs⟩ := hf
  obtain ⟨p, hp⟩ := h.ev x (fun v cs e1 e2 => by subst e1; subst e2; simp [St.eval, ofConst] at hx)
  rw [hx] at hp
  obtain ⟨b, oo, us, hv, h1, h2⟩ := hp
  refine ⟨_, ⟨b, oo, us, rfl, h1, h2⟩, fun w' _ => ?_⟩
  simp [execOp, ho, Instr.fieldAt, Instr.sureAddr, hv, run_underlying hu, hF, fieldPlace, run_size hs, h0, add_at, Nat.add_assoc]

theorem Reader.fieldL {kk k0 f off size : Nat} {ft : TypeId} (ho : o.op = .fieldAddr t x f) (hf : fieldOf P t f off ft size) (h0 : size ≠ 0) (hx : s.eval x = .lptr kk k0) : Reader P n s o d (.lptr kk (k0 + off)) := by
  intro G a w h
  obtain ⟨fs, F, hu, hF, rfl, rfl, hs⟩ := hf
  obtain ⟨p, hp⟩ := h.ev x (fun v cs e1 e2 => by subst e1; subst e2; simp [St.eval, ofConst] at hx)
  rw [hx] at hp
  have hv : a.eval x = .pointer (some ⟨G.lb kk, k0, none⟩) := hp
  refine ⟨_, rfl, fun w' _ => ?_⟩
  simp [execOp, ho, Instr.fieldAt, Instr.sureAddr, hv, run_underlying hu, hF, fieldPlace, run_size hs, h0, add_at]

theorem Reader.fieldG {kk k0 f off size : Nat} {ft : TypeId} (ho : o.op = .fieldAddr t x f) (hf : fieldOf P t f off ft size) (h0 : size ≠ 0) (hx : s.eval x = .gptr kk k0) : Reader P n s o d (.gptr kk (k0 + off)) := by
  intro G a w h
  obtain ⟨fs, F, hu, hF, rfl, rfl, hs⟩ := hf
  obtain ⟨p, hp⟩ := h.ev x (fun v cs e1 e2 => by subst e1; subst e2; simp [St.eval, ofConst] at hx)
  rw [hx] at hp
  generalize hav : a.eval x = v at hp
  have hp' : RelV P G w (.gptr kk k0) v := hp
  cases hp' with
  | gptr _ _ b hb =>
    refine ⟨_, RelV.gptr kk (k0 + F.offset) b hb, fun w' _ => ?_⟩
    simp [execOp, ho, Instr.fieldAt, Instr.sureAddr, hav, run_underlying hu, hF, fieldPlace, run_size hs, h0, add_at]

theorem Reader.indexL {kk k0 m size len : Nat} (ho : o.op = .indexAddr t x y) (hu : P.underlying t = some (.array len E)) (hs : SizeOf P E size) (hx : s.eval x = .lptr kk k0) (hy : s.eval y = .lit (.int k i)) (hi : i = m) (hm : m < len) :
    Reader P n s o d (.lptr kk (k0 + m * size)) := by
  intro G a w h
  obtain ⟨p, hp⟩ := h.ev x (fun v cs e1 e2 => by subst e1; subst e2; simp [St.eval, ofConst] at hx)
  rw [hx] at hp
  have hv : a.eval x = .pointer (some ⟨G.lb kk, k0, none⟩) := hp
  refine ⟨_, rfl, fun w' _ => ?_⟩
  subst hi
  simp [execOp, ho, Instr.indexAt, Instr.sureAddr, asIntOf, hv, h.evLit hy, run_underlying hu, run_size hs, hm, add_at]

theorem Reader.indexE {e : AV} {k0 m size len : Nat} (ho : o.op = .indexAddr t x y) (hu : P.underlying t = some (.array len E)) (hs : SizeOf P E size) (hx : s.eval x = .eptr e k0) (hy : s.eval y = .lit (.int k i)) (hi : i = m) (hm : m < len) :
    Reader P n s o d (.eptr e (k0 + m * size)) := by
  intro G a w h
  obtain ⟨p, hp⟩ := h.ev x (fun v cs e1 e2 => by subst e1; subst e2; simp [St.eval, ofConst] at hx)
  rw [hx] at hp
  obtain ⟨b, oo, us, hv, h1, h2⟩ := hp
  refine ⟨_, ⟨b, oo, us, rfl, h1, h2⟩, fun w' _ => ?_⟩
  subst hi
  simp [execOp, ho, Instr.indexAt, Instr.sureAddr, asIntOf, hv, h.evLit hy, run_underlying hu, run_size hs, hm, add_at, Nat.add_assoc]

theorem Reader.indexG {kk k0 m size len : Nat} (ho : o.op = .indexAddr t x y) (hu : P.underlying t = some (.array len E)) (hs : SizeOf P E size) (hx : s.eval x = .gptr kk k0) (hy : s.eval y = .lit (.int k i)) (hi : i = m) (hm : m < len) :
    Reader P n s o d (.gptr kk (k0 + m * size)) := by
  intro G a w h
  obtain ⟨p, hp⟩ := h.ev x (fun v cs e1 e2 => by subst e1; subst e2; simp [St.eval, ofConst] at hx)
  rw [hx] at hp
  generalize hav : a.eval x = v at hp
  have hp' : RelV P G w (.gptr kk k0) v := hp
  cases hp' with
  | gptr _ _ b hb =>
    refine ⟨_, RelV.gptr kk (k0 + m * size) b hb, fun w' _ => ?_⟩
    subst hi
    simp [execOp, ho, Instr.indexAt, Instr.sureAddr, asIntOf, hav, h.evLit hy, run_underlying hu, run_size hs, hm, add_at]

theorem RelV.un1 {G : Gh} {w : World} {x : AV} {v : Value} (h : RelV P G w x v) : RelV P G w x.un1 v := by
  cases h with
  | nil => exact .nil _ _
  | zero => exact .zero _ _
  | row _ _ _ b off cap size us hs hl hsc hcap hmax htip hc hr => exact .row _ _ _ b off cap size us hs hl hsc hcap hmax htip hc hr
  | any v => exact .any v
  | lit v => exact .lit v
  | str l => exact .str l
  | gptr id off b h => exact .gptr id off b h
  | gmap id b h => exact .gmap id b h
  | agg cs vs hl hr => exact .agg cs vs hl hr
  | fn f cap vs hl hr => exact .fn f cap vs hl hr
  | tuple cs vs hl hr => exact .tuple cs vs hl hr

theorem RelV.un {G : Gh} {w : World} {x : AV} {v : Value} (h : RelV P G w x v) : RelV P G w x.un v := by
  cases h with
  | tuple cs vs hl hr =>
    refine .tuple _ vs (by simpa using hl) (fun j c u hc hu => ?_)
    rw [List.getElem?_map] at hc
    cases hx : cs[j]? with
    | none => simp [hx] at hc
    | some c' =>
      simp only [hx, Option.map_some, Option.some.injEq] at hc
      subst hc
      exact (hr j c' u hx hu).un1
  | nil => exact .nil _ _
  | zero => exact .zero _ _
  | row _ _ _ b off cap size us hs hl hsc hcap hmax htip hc hr => exact .row _ _ _ b off cap size us hs hl hsc hcap hmax htip hc hr
  | any v => exact .any v
  | lit v => exact .lit v
  | str l => exact .str l
  | gptr id off b h => exact .gptr id off b h
  | gmap id b h => exact .gmap id b h
  | agg cs vs hl hr => exact .agg cs vs hl hr
  | fn f cap vs hl hr => exact .fn f cap vs hl hr

/-- What a load gives: one cell; some cells. -/
def loaded (agg : Bool) (size : Nat) (cells : List AV) (k : Nat) : Option AV :=
  if agg then (if k + size ≤ cells.length then some (.agg (((cells.drop k).take size).map AV.un)) else none) else (cells[k]?).map AV.un

theorem cell_later {w w' : World} {b o : Nat} {u : Value} (hb : Below w.heap.size w w') (h : w.cell? ⟨b, o, none⟩ = some u) : w'.cell? ⟨b, o, none⟩ = some u := by
  have hlt : b < w.heap.size := by
    simp only [World.cell?] at h
    cases hh : w.heap[b]? with
    | none => simp [hh] at h
    | some x => exact (Array.getElem?_eq_some_iff.1 hh).1
  rw [hb.cell (p := ⟨b, o, none⟩) hlt]
  exact h

/-- Cells that lie in a row read as they should: what a load of them gives. -/
theorem run_loadVar_cells {w w' : World} {b o kk size : Nat} {D : TypeDesc} {cells : List AV} {us : Nat → Value} {v : AV} {G : Gh} (hb : Below w.heap.size w w') (hu : P.underlying t = some D) (hs : SizeOf P t size)
    (hl : loaded (TypeDesc.agg D) size cells kk = some v) (hc : ∀ j c, cells[j]? = some c → w.cell? ⟨b, o + j, none⟩ = some (us j) ∧ RelV P G w c.un (us j)) :
    ∃ u, RelV P G w v u ∧ ∀ w' : World, Below w.heap.size w w' → (loadVar t ⟨b, o + kk, none⟩).run P w' = .ok u w' := by
  unfold loaded at hl
  cases hA : TypeDesc.agg D with
  | false =>
    rw [hA] at hl
    simp only [Bool.false_eq_true, if_false] at hl
    cases hck : cells[kk]? with
    | none => simp [hck] at hl
    | some c =>
      simp only [hck, Option.map_some, Option.some.injEq] at hl
      subst hl
      obtain ⟨h1, h2⟩ := hc kk c hck
      refine ⟨_, h2, fun w' hb => ?_⟩
      simp [loadVar, run_agg hu, hA, Result.andThen, cell_later hb h1]
  | true =>
    rw [hA] at hl
    simp only [if_true] at hl
    split at hl
    · rename_i hk
      cases hl
      have hlen : ((cells.drop kk).take size).length = size := by simp; omega
      refine ⟨.agg ((List.range size).map fun j => us (kk + j)).toArray, RelV.agg _ _ (by simp; omega) (fun j c u h1 h2 => ?_), fun w' hb => ?_⟩
      · rw [List.getElem?_map] at h1 h2
        cases h3 : ((cells.drop kk).take size)[j]? with
        | none => simp [h3] at h1
        | some c' =>
          simp only [h3, Option.map_some, Option.some.injEq] at h1
          subst h1
          have hj : j < size := by have := (List.getElem?_eq_some_iff.1 h3).1; omega
          rw [List.getElem?_range hj] at h2
          simp only [Option.map_some, Option.some.injEq] at h2
          subst h2
          rw [List.getElem?_take_of_lt hj, List.getElem?_drop] at h3
          exact (hc (kk + j) c' h3).2
      · have := run_loadCells (P := P) w' ⟨b, o + kk, none⟩ size (fun j => us (kk + j)) (fun j hj => by
          rw [add_at]
          obtain ⟨c, hcc⟩ : ∃ c, cells[kk + j]? = some c := ⟨cells[kk + j]'(by omega), by simp⟩
          have := (hc (kk + j) c hcc).1
          rw [Nat.add_assoc]
          exact cell_later hb this)
        simp [loadVar, run_agg hu, hA, Result.andThen, run_size hs, this]
    · cases hl

theorem Reader.loadE {e v : AV} {kk size : Nat} {D : TypeDesc} (ho : o.op = .load t x) (hu : P.underlying t = some D) (hs : SizeOf P t size) (hx : s.eval x = .eptr e kk) (hv : loaded (TypeDesc.agg D) size e.cells kk = some v) (hf : v.flat = true) : Reader P n s o d v := by
  intro G a w h
  obtain ⟨p, hp⟩ := h.ev x (fun v cs e1 e2 => by subst e1; subst e2; simp [St.eval, ofConst] at hx)
  rw [hx] at hp
  obtain ⟨b, oo, us, hav, h1, h2⟩ := hp
  obtain ⟨u, hu1, hu2⟩ := run_loadVar_cells (w' := w) (us := us) (G := G) (Below.refl _ _) hu hs hv (fun j c hj => ⟨(h2 j c hj).1, (h2 j c hj).2.un⟩)
  refine ⟨u, hu1.toS hf, fun w' hb => ?_⟩
  simp [execOp, ho, Instr.loadAt, Instr.sureAddr, hav, hu2 w' hb]

theorem RelO.un {G : Gh} {w : World} {q : Pos} {c : AV} {v : Value} (h : RelO P G w q c v) (hs : c.scalar = true) : RelV P G w c.un v := by
  rcases h.toV with h | ⟨cs, rfl⟩
  · exact h
  · cases hs

theorem Reader.loadL {cells : List AV} {v : AV} {k0 kk size : Nat} {D : TypeDesc} (ho : o.op = .load t x) (hu : P.underlying t = some D) (hs : SizeOf P t size) (hx : s.eval x = .lptr k0 kk) (hc : lookL s.loc k0 = some cells)
    (hv : loaded (TypeDesc.agg D) size cells kk = some v) (hf : v.flat = true) : Reader P n s o d v := by
  intro G a w h
  obtain ⟨p, hp⟩ := h.ev x (fun v cs e1 e2 => by subst e1; subst e2; simp [St.eval, ofConst] at hx)
  rw [hx] at hp
  have hav : a.eval x = .pointer (some ⟨G.lb k0, kk, none⟩) := hp
  obtain ⟨arr, T, hh, hsz, _, _, hsc, hr⟩ := h.loc k0 cells hc
  obtain ⟨u, hu1, hu2⟩ := run_loadVar_cells (w := w) (w' := w) (b := G.lb k0) (o := 0) (us := fun j => arr.getD j undef) (G := G) (Below.refl _ _) hu hs hv (fun j c hj => by
    have hjl := (List.getElem?_eq_some_iff.1 hj).1
    have e : arr[j]? = some (arr.getD j undef) := by rw [Array.getD_eq_getD_getElem?, Array.getElem?_eq_getElem (by omega)]; rfl
    refine ⟨by simp only [World.cell?, hh, Option.isSome_none, Bool.false_eq_true, if_false, Nat.zero_add]; exact e, (hr j c _ hj e).un (hsc c (List.mem_of_getElem? hj))⟩)
  refine ⟨u, hu1.toS hf, fun w' hb => ?_⟩
  have := hu2 w' hb
  rw [Nat.zero_add] at this
  simp [execOp, ho, Instr.loadAt, Instr.sureAddr, hav, this]

theorem Reader.loadG {cells : List AV} {v : AV} {k0 kk size : Nat} {D : TypeDesc} (ho : o.op = .load t x) (hu : P.underlying t = some D) (hs : SizeOf P t size) (hx : s.eval x = .gptr k0 kk) (hc : s.mem k0 = some cells)
    (hv : loaded (TypeDesc.agg D) size cells kk = some v) (hf : v.flat = true) (hall : cells.all AV.scalar = true := by first | rfl | (simp only [List.all_cons, List.all_nil, *]; rfl)) : Reader P n s o d v := by
  intro G a w h
  obtain ⟨p, hp⟩ := h.ev x (fun v cs e1 e2 => by subst e1; subst e2; simp [St.eval, ofConst] at hx)
  rw [hx] at hp
  generalize hav : a.eval x = va at hp
  have hp' : RelV P G w (.gptr k0 kk) va := hp
  cases hp' with
  | gptr _ _ b hb =>
    obtain ⟨b', hb', hX⟩ := h.mem.obj k0 cells hc
    obtain ⟨⟨arr, T, hh, hsz, _, _, hsc, hr⟩, _⟩ := hX.cells hall
    rw [hb] at hb'
    cases hb'
    obtain ⟨u, hu1, hu2⟩ := run_loadVar_cells (w := w) (w' := w) (b := b) (o := 0) (us := fun j => arr.getD j undef) (G := G) (Below.refl _ _) hu hs hv (fun j c hj => by
      have hjl := (List.getElem?_eq_some_iff.1 hj).1
      have e : arr[j]? = some (arr.getD j undef) := by rw [Array.getD_eq_getD_getElem?, Array.getElem?_eq_getElem (by omega)]; rfl
      refine ⟨by simp only [World.cell?, hh, Option.isSome_none, Bool.false_eq_true, if_false, Nat.zero_add]; exact e, (hr j c _ hj e).un (hsc c (List.mem_of_getElem? hj))⟩)
    refine ⟨u, hu1.toS hf, fun w' hb => ?_⟩
    have := hu2 w' hb
    rw [Nat.zero_add] at this
    simp [execOp, ho, Instr.loadAt, Instr.sureAddr, hav, this]

theorem Reader.nilCheck {v : AV} (ho : o.op = .nilCheck x) (hx : s.eval x = v) (hv : (∃ k f, v = .lptr k f) ∨ (∃ k f, v = .gptr k f) ∨ ∃ e k, v = .eptr e k) : Reader P n s o d v := by
  intro G a w h
  obtain ⟨p, hp⟩ := h.ev x (fun v cs e1 e2 => by subst e1; subst e2; rcases hv with ⟨_, _, rfl⟩ | ⟨_, _, rfl⟩ | ⟨_, _, rfl⟩ <;> simp [St.eval, ofConst] at hx)
  rw [hx] at hp
  rcases hv with ⟨k, f, rfl⟩ | ⟨k, f, rfl⟩ | ⟨e, k, rfl⟩
  · have hav : a.eval x = .pointer (some ⟨G.lb k, f, none⟩) := hp
    exact ⟨_, rfl, fun w' _ => by simp [execOp, ho, hav]⟩
  · generalize hav : a.eval x = va at hp
    have hp' : RelV P G w (.gptr k f) va := hp
    cases hp' with
    | gptr _ _ b hb => exact ⟨_, RelV.gptr k f b hb, fun w' _ => by simp [execOp, ho, hav]⟩
  · obtain ⟨b, oo, us, hav, h1, h2⟩ := hp
    exact ⟨_, ⟨b, oo, us, rfl, h1, h2⟩, fun w' _ => by simp [execOp, ho, hav]⟩

/-- A part of a struct or an array by value. -/
def partOf (agg : Bool) (size : Nat) (cells : List AV) (k : Nat) : Option AV :=
  if agg then (if k + size ≤ cells.length then some (.agg ((cells.drop k).take size)) else none) else cells[k]?

theorem run_part {G : Gh} {w : World} {cs : List AV} {v : AV} {vs : List Value} {off size : Nat} {D : TypeDesc} (hu : P.underlying t = some D) (hs : SizeOf P t size) (hl : vs.length = cs.length)
    (hr : ∀ (j : Nat) (c : AV) (u : Value), cs[j]? = some c → vs[j]? = some u → RelV P G w c u) (hv : partOf (TypeDesc.agg D) size cs off = some v) :
    ∃ u, RelV P G w v u ∧ ∀ w' : World, (part t vs.toArray off).run P w' = .ok u w' := by
  unfold partOf at hv
  cases hA : TypeDesc.agg D with
  | false =>
    rw [hA] at hv
    simp only [Bool.false_eq_true, if_false] at hv
    have hlt := (List.getElem?_eq_some_iff.1 hv).1
    have e : vs[off]? = some vs[off] := List.getElem?_eq_getElem (by omega)
    refine ⟨_, hr off v _ hv e, fun w' => ?_⟩
    simp [part, run_agg hu, hA, Result.andThen, e]
  | true =>
    rw [hA] at hv
    simp only [if_true] at hv
    split at hv
    · rename_i hk
      cases hv
      refine ⟨.agg ((vs.drop off).take size).toArray, RelV.agg _ _ (by simp; omega) (fun j c u h1 h2 => ?_), fun w' => ?_⟩
      · have hj : j < size := by have := (List.getElem?_eq_some_iff.1 h1).1; simp at this; omega
        rw [List.getElem?_take_of_lt hj, List.getElem?_drop] at h1 h2
        exact hr _ c u h1 h2
      · simp [part, run_agg hu, hA, Result.andThen, run_size hs, List.extract_eq_take_drop]
    · cases hv

theorem Reader.field {cs : List AV} {v : AV} {f off size : Nat} {ft : TypeId} {D : TypeDesc} (ho : o.op = .field t x f) (hf : fieldOf P t f off ft size) (hu : P.underlying ft = some D) (hx : s.eval x = .agg cs) (hxc : ∃ r, x = .tmp r)
    (hv : partOf (TypeDesc.agg D) size cs off = some v) (hfl : v.un.flat = true) : Reader P n s o d v.un := by
  intro G a w h
  obtain ⟨fs, F, hut, hF, rfl, rfl, hs⟩ := hf
  obtain ⟨r, rfl⟩ := hxc
  have hp := h.slot r
  rw [show s.get r = .agg cs from hx] at hp
  generalize hav : a.tmps.getD r undef = va at hp
  have hp' : RelV P G w (.agg cs) va := hp
  cases hp' with
  | agg _ vs hl hr =>
    obtain ⟨u, hu1, hu2⟩ := run_part (t := F.type) hu hs hl hr hv
    refine ⟨u, hu1.un.toS hfl, fun w' _ => ?_⟩
    have hav' : a.eval (.tmp r) = .agg vs.toArray := hav
    simp [execOp, ho, Instr.field, hav', run_underlying hut, hF, asAgg, hu2 w']

/-- A part of an answer of several values: a copy. -/
theorem Reader.extract {cs : List AV} {v : AV} {r m : Nat} (ho : o.op = .extract (.tmp r) m) (hx : s.get r = .tuple cs) (hc : cs[m]? = some v) (hf : v.un.flat = true) : Reader P n s o d v.un := by
  intro G a w h
  have hp := h.slot r
  rw [hx] at hp
  obtain ⟨vs, hav, hl, hr⟩ := hp
  have hlt := (List.getElem?_eq_some_iff.1 hc).1
  have e : vs[m]? = some vs[m] := List.getElem?_eq_getElem (by omega)
  have h1 := hr m v _ hc e
  refine ⟨vs[m], ?_, fun w' _ => ?_⟩
  · rcases h1.toV with h2 | ⟨cs', rfl⟩
    · exact h2.toS hf
    · cases hf
  · have hav' : a.eval (.tmp r) = .tuple vs.toArray := hav
    simp [execOp, ho, Instr.extract, hav', e]

end
end Go.Proofs.Ytfnbfkgknfagmaa
