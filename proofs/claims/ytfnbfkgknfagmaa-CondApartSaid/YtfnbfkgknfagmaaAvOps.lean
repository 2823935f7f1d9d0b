/- Abstract values: what one operation does that reads. -/
import Derived.Test.YtfnbfkgknfagmaaAv
namespace Go.Proofs.Ytfnbfkgknfagmaa
open Go.RowKit

/-- A constant, as it reads. -/
def ofCell : Value → AV
  | .string s => .str s.data.toList
  | .slice none 0 0 => .list false 0 []
  | v => .lit v
def ofConst : Value → AV
  | .string s => .str s.data.toList
  | .slice none 0 0 => .list true 0 []
  | .agg cs => .agg (cs.toList.map ofCell)
  | v => .lit v

def St.eval (s : St) : Operand → AV
  | .tmp t => s.get t
  | .const v => ofConst v
  | .func f => .fn f []
  | .global _ => .any

def St.put (s : St) (d : Nat) (v : AV) : St := { s with fr := (d, v) :: s.fr }

/-- A copy: who owns the row stays who owned it. -/
def AV.un1 : AV → AV
  | .list _ E xs => .list false E xs
  | c => c
def AV.un : AV → AV
  | .list _ E xs => .list false E xs
  | .tuple cs => .tuple (cs.map AV.un1)
  | .pin x _ => x.un
  | v => v

def AV.flat : AV → Bool
  | .lptr _ _ | .eptr _ _ | .tuple _ | .list true _ _ | .pin _ _ => false
  | _ => true

section
variable {P : Program} {G : Gh} {w : World} {p : Nat → Pos} {q : Pos}

theorem RelO.toV {x : AV} {v : Value} (h : RelO P G w q x v) : RelV P G w x.un v ∨ ∃ cs, x = .tuple cs := by
  cases x with
  | tuple cs => exact .inr ⟨_, rfl⟩
  | pin x u => have h' : RelV P G w (.pin x u) v := h; cases h'
  | list o E xs =>
    left
    cases o with
    | false => exact h
    | true =>
      rcases h with ⟨size, us, hs, hl, hsc, hown, hr, hb⟩ | ⟨rfl, rfl | ⟨b, off, size, hs, rfl⟩⟩
      · obtain ⟨h1, h2⟩ := hown
        rcases h2 with ⟨rfl, h0⟩ | ⟨g, cap, cur, rfl, hg, hh, hc, hm, hz, ht⟩
        · have : xs = [] := List.length_eq_zero_iff.1 h0
          subst this; exact .nil _ _
        · obtain ⟨hb1, hb2, hb3⟩ := hb g rfl
          refine RelV.row false E xs g 0 cap size (fun j => us.getD j undef) hs hl hsc hc hm (fun _ => by omega) (fun j hj => ?_) (fun j c hj => ?_)
          · rw [← ht] at *
            have hlt : j < cur.size := by rw [hz]; exact Nat.lt_of_lt_of_le hj (Nat.mul_le_mul_right _ hc)
            simp [World.cell?, hh, hlt, hj]
          · have hjl : j < (xs.flatMap AV.cells).length := (List.getElem?_eq_some_iff.1 hj).1
            rw [flat_len hl] at hjl
            have : us[j]? = some (us.getD j undef) := by
              rw [List.getD_eq_getElem?_getD, List.getElem?_eq_getElem (by omega)]; rfl
            exact hr j c _ hj this
      · exact .nil _ _
      · exact RelV.row false E [] b off 0 size (fun _ => undef) hs (fun x h => by cases h) (fun x h => by cases h) (Nat.le_refl _) (Nat.zero_le _) (fun h => by simp at h) (fun j h => by simp at h) (fun j c h => by simp at h)
  | _ => exact .inl h

theorem RelV.toO {x : AV} {v : Value} (h : RelV P G w x v) (hf : x.flat = true) : RelO P G w q x v := by
  cases x with
  | list o E xs => cases o with
    | false => exact h
    | true => cases hf
  | _ => exact h

theorem RelV.toS {x : AV} {v : Value} (h : RelV P G w x v) (hf : x.flat = true) : RelS P G w p x v := by
  cases x with
  | lptr | eptr | tuple | pin => cases hf
  | _ => exact RelV.toO (q := p 0) h hf

theorem plain_un {x : AV} (h : x.plain = true) : x.un = x := by
  cases x with
  | list o E xs => cases o <;> first | rfl | cases h
  | str | lit => rfl
  | _ => cases h
theorem plain_flat {x : AV} (h : x.plain = true) : x.flat = true := by
  cases x with
  | list o E xs => cases o <;> first | rfl | cases h
  | str | lit => rfl
  | _ => cases h

theorem RelS.toV {x : AV} {v : Value} (h : RelS P G w p x v) (hf : x.un.flat = true) : RelV P G w x.un v := by
  cases x with
  | pin x u => rw [show (AV.pin x u).un = x.un from rfl, plain_un h.2.1]; exact h.2.2
  | lptr | eptr | tuple => cases hf
  | list o E xs =>
    rcases RelO.toV (q := p 0) (x := .list o E xs) h with h | ⟨cs, e⟩
    · exact h
    · cases e
  | _ => exact h

theorem RelS.lit {v u : Value} (h : RelS P G w p (.lit v) u) : u = v := by cases h; rfl
theorem RelS.str {l : List UInt8} {u : Value} (h : RelS P G w p (.str l) u) : u = .string ⟨l.toArray⟩ := by cases h; rfl

theorem relV_ofCell (v : Value) (h : v.oneCell' = true) : RelV P G w (ofCell v) v := by
  unfold ofCell
  split
  · rename_i s; exact .str _
  · exact .nil _ _
  · exact .lit _

theorem relS_ofConst (v : Value) (h : ∀ cs, v = .agg cs → ∀ c ∈ cs, c.oneCell' = true) : RelS P G w p (ofConst v) v := by
  unfold ofConst
  split
  · rename_i s; exact RelV.str _
  · exact .inr ⟨rfl, .inl rfl⟩
  · rename_i cs
    have := RelV.agg (P := P) (G := G) (w := w) (cs.toList.map ofCell) cs.toList (by simp) (fun j c v hc hv => by
      rw [List.getElem?_map, hv] at hc
      simp at hc
      subst hc
      exact relV_ofCell _ (h cs rfl v (by have := List.mem_of_getElem? hv; simpa using this)))
    simp only [Array.toArray_toList] at this
    exact this
  · exact RelV.lit _
end

/-- An operation that reads: it yields v, now and in every later world in which the blocks are as they are. -/
def Reader (P : Program) (n : Nat) (s : St) (o : Oper) (d : Nat) (v : AV) : Prop :=
  ∀ (G : Gh) (a : Act) (w : World), RelSt P G n s a w → ∃ u, RelS P G w (.slot d) v u ∧ ∀ w' : World, Below w.heap.size w w' → (execOp a.eval o).run P w' = .ok (.value u) w'

/-- The guard says: do it; leave it out. -/
def Wants (ops : Array Oper) (s : St) (o : Oper) : Prop :=
  match o.guard with
  | none => True
  | some (g, b) => ∃ t, (ops[g]?).bind (·.dst) = some t ∧ s.get t = .lit (.bool b)
def Skips (ops : Array Oper) (s : St) (o : Oper) : Prop :=
  ∃ g b t v, o.guard = some (g, b) ∧ (ops[g]?).bind (·.dst) = some t ∧ s.get t = .lit v ∧ v ≠ .bool b

def AOps (P : Program) (n : Nat) (ops : Array Oper) (l : List Oper) (s : St) (Q : St → Prop) : Prop :=
  ∀ (G : Gh) (a : Act) (w : World) (K : Exit → Act → World → Prop), RelSt P G n s a w → Fix G w →
    (∀ s' G' a' w', Q s' → RelSt P G' n s' a' w' → Keep G w G' w' → K .normal a' w') → wpList P ops K l a w

section
variable {P : Program} {n : Nat} {s : St} {ops : Array Oper} {o : Oper} {rest : List Oper} {Q : St → Prop} {d : Nat} {G : Gh} {a : Act} {w : World}

theorem getD_put (a : Act) (d i : Nat) (u : Value) (h : d < a.tmps.size) : (a.put (some d) u).tmps.getD i undef = if i = d then u else a.tmps.getD i undef := by
  simp only [Act.put, Array.getD_eq_getD_getElem?]
  by_cases e : i = d
  · subst e; simp [h]
  · rw [Array.getElem?_setIfInBounds_ne (Ne.symm e), if_neg e]

theorem RelSt.put (h : RelSt P G n s a w) {v : AV} {u : Value} (hd : d < n) (hv : RelS P G w (.slot d) v u) : RelSt P G n (s.put d v) (a.put (some d) u) w := by
  refine ⟨by simp [Act.put, h.size], by simpa [Act.put] using h.defers, fun i => ?_, h.loc, h.mem⟩
  rw [getD_put _ _ _ _ (by rw [h.size]; exact hd)]
  show RelS P G w (.slot i) (look .any ((d, v) :: s.fr) i) _
  simp only [look]
  by_cases e : i = d
  · subst e; simp only [if_true]; exact hv
  · rw [if_neg (Ne.symm e), if_neg e]; exact h.slot i

theorem wants_eval (h : RelSt P G n s a w) (hn : ∀ t, t < n ∨ n ≤ t) : Wants ops s o → Region.wanted o (yielded ops a.tmps) = true := by
  intro hw
  unfold Wants at hw
  unfold Region.wanted
  cases hg : o.guard with
  | none => rfl
  | some x =>
    obtain ⟨g, b⟩ := x
    simp only [hg] at hw ⊢
    obtain ⟨t, ht, hs⟩ := hw
    have hv := h.slot t
    rw [hs] at hv
    have := RelS.lit hv
    have hyd : yielded ops a.tmps g = some b := by
      unfold yielded
      rw [ht]
      simp only [Option.bind_some]
      rw [Array.getD_eq_getD_getElem?] at this
      cases hx : a.tmps[t]? with
      | none => simp [hx, undef] at this
      | some y => simp [hx] at this; subst this; rfl
    rw [hyd]; simp

theorem skips_eval (h : RelSt P G n s a w) : Skips ops s o → Region.wanted o (yielded ops a.tmps) = false := by
  rintro ⟨g, b, t, v, hg, ht, hs, hne⟩
  unfold Region.wanted
  simp only [hg]
  have hv := h.slot t
  rw [hs] at hv
  have := RelS.lit hv
  have hyd : yielded ops a.tmps g ≠ some b := by
    unfold yielded
    rw [ht]
    simp only [Option.bind_some]
    rw [Array.getD_eq_getD_getElem?] at this
    cases hx : a.tmps[t]? with
    | none => simp
    | some y =>
      simp [hx] at this; subst this
      cases y <;> simp
      rename_i b'
      intro e; subst e; exact hne rfl
  simpa using hyd

theorem AOps.nil (h : Q s) : AOps P n ops [] s Q := fun G a w K hr hfx hK => hK s G a w h hr (Keep.refl _ _)

theorem AOps.read {v : AV} (hg : Wants ops s o) (hd : o.dst = some d) (hn : d < n) (h : Reader P n s o d v) (k : AOps P n ops rest (s.put d v) Q) : AOps P n ops (o :: rest) s Q := by
  intro G a w K hr hfx hK
  simp only [wpList]
  rw [if_pos (wants_eval hr (fun t => by omega) hg)]
  left
  obtain ⟨u, hu, hrun⟩ := h G a w hr
  unfold Oper.wp
  rw [hrun w (Below.refl _ _), Oper.upon_value, hd]
  exact k G _ w K (hr.put hn hu) hfx hK

theorem AOps.skip (hg : Skips ops s o) (hd : o.dst = some d) (hn : d < n) (k : AOps P n ops rest (s.put d (.lit undef)) Q) : AOps P n ops (o :: rest) s Q := by
  intro G a w K hr hfx hK
  simp only [wpList]
  rw [if_neg (by rw [skips_eval hr hg]; simp), hd]
  exact k G _ w K (hr.put hn (RelV.lit _)) hfx hK

theorem AWp.region {id : Nat} {Q : Exit → St → Prop} (h : AOps P n ops ops.toList s (Q .normal)) : AWp P n (.region id ops false) s Q := by
  intro G a w K hr hfx hK
  refine wp_region_list (h G a w K hr hfx ?_)
  intro s' G' a' w' hq hr' hk
  exact hK _ _ _ _ _ hq hr' hk

theorem RelSt.ev (h : RelSt P G n s a w) (x : Operand) (hx : ∀ v cs, x = .const v → v = .agg cs → ∀ c ∈ cs, c.oneCell' = true) : ∃ p, RelS P G w p (s.eval x) (a.eval x) := by
  cases x with
  | tmp t => exact ⟨_, h.slot t⟩
  | const v => exact ⟨.slot 0, relS_ofConst v (fun cs e => hx v cs rfl e)⟩
  | func f => exact ⟨.slot 0, RelV.fn f [] [] rfl (fun j c v h => by simp at h)⟩
  | global g => exact ⟨.slot 0, RelV.any _⟩

theorem RelSt.evLit (h : RelSt P G n s a w) {x : Operand} {v : Value} (hx : s.eval x = .lit v) : a.eval x = v := by
  cases x with
  | tmp t => have := h.slot t; rw [show s.get t = .lit v from hx] at this; exact RelS.lit this
  | const c =>
    simp only [St.eval, ofConst] at hx
    split at hx <;> first | (cases hx; done) | (injection hx)
  | func f => cases hx
  | global g => cases hx

theorem RelSt.evStr (h : RelSt P G n s a w) {x : Operand} {l : List UInt8} (hx : s.eval x = .str l) : a.eval x = .string ⟨l.toArray⟩ := by
  cases x with
  | tmp t => have := h.slot t; rw [show s.get t = .str l from hx] at this; exact RelS.str this
  | const c =>
    simp only [St.eval, ofConst] at hx
    split at hx <;> first | (cases hx; done) | (injection hx with hx; subst hx; simp [Act.eval]; done)
  | func f => cases hx
  | global g => cases hx

theorem lit_toS {w' : World} {p : Nat → Pos} (v : Value) : RelS P G w' p (.lit v) v := RelV.lit v
end
end Go.Proofs.Ytfnbfkgknfagmaa
