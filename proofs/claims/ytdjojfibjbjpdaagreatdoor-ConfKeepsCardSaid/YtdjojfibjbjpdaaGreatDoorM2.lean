/- AvOp3, AvBr, AvAux, AvExt, Own, Reg, AvDr, AvEq, AvObj, AvPtr, OpenA, AvFnv, AvMap, AvT, AvAny, AvPure, AvAny2, AvZ. -/
import Derived.Test.YtdjojfibjbjpdaaGreatDoorM1
import Derived.Lib.ConvBytes
import Derived.WalkKit
import Derived.WalkSpells
import Derived.WalkLawsBesides
import Derived.Deep.QuietTactic
import Derived.BigQuiet
import Derived.Lib.Hide
import Derived.StillTail
import Derived.Laws.StructEq
import Derived.ChangeKeysEq
import Derived.Lib.Builder
import Derived.ProofKit
import Derived.OpenShut
import Derived.Deep.Slices
import Derived.Lib.MinMax
import Derived.Maps.OwnSet
import Derived.Orders
namespace Go.Proofs.YtdjojfibjbjpdaaGreatDoor
section
open Go.RowKit

section
variable {P : Program} {n : Nat} {s : St} {ops : Array Oper} {o : Oper} {rest : List Oper} {Q : St → Prop} {d : Nat} {t t' tx E : TypeId} {x y : Operand} {G : Gh} {a : Act} {w : World}

/-- A list's piece as what is appended. -/
theorem src_list {o2 : Bool} {ys : List AV} {size : Nat} (hk : P.underlying tx = some (.slice E)) (hs : SizeOf P E size) (hy : s.eval y = .list o2 E ys) :
    ∀ (G : Gh) (a : Act) (w : World), RelSt P G n s a w → ∃ news, Src P size tx (a.eval y) ys.length news w ∧ ∀ (j : Nat) c u, (ys.flatMap AV.cells)[j]? = some c → news[j]? = some u → RelV P G w c u := by
  intro G a w h
  obtain ⟨p, hp⟩ := h.ev y (fun v cs e1 e2 => by subst e1; subst e2; simp [St.eval, ofConst] at hy)
  rw [hy] at hp
  have hv := RelS.un (p' := p) hp
  generalize a.eval y = v at hv
  have hv' : RelV P G w (.list false E ys) v := hv
  cases hv' with
  | nil => exact ⟨[], Src.ofNil w hk 0, fun j c u h => by simp at h⟩
  | zero _ b => exact ⟨[], Src.ofSlice w hk b 0 0 [] (by simp) (fun j u h => by simp at h) (fun u h => by cases h), fun j c u h => by simp at h⟩
  | row _ _ _ b off cap size' us hs' hl hsc hcap hmax htip hc hr =>
    have hsz : size' = size := by unfold SizeOf at hs hs'; rw [hs] at hs'; exact (Option.some.inj hs').symm
    subst hsz
    obtain ⟨h1, h2, h3, h4⟩ := news_of hl hsc hc hr
    exact ⟨_, Src.ofSlice w hk ⟨b, off, none⟩ ys.length cap _ h1 h2 h3, h4⟩

theorem list_cells {o2 : Bool} {ys : List AV} {size : Nat} (hs : SizeOf P E size) (hy : s.eval y = .list o2 E ys) (G : Gh) (a : Act) (w : World) (h : RelSt P G n s a w) :
    (∀ x ∈ ys, x.cells.length = size) ∧ (∀ x ∈ ys, ∀ c ∈ x.cells, c.scalar = true) ∧ ys.length ≤ maxLen := by
  obtain ⟨p, hp⟩ := h.ev y (fun v cs e1 e2 => by subst e1; subst e2; simp [St.eval, ofConst] at hy)
  rw [hy] at hp
  have hv := RelS.un (p' := p) hp
  generalize a.eval y = v at hv
  have hv' : RelV P G w (.list false E ys) v := hv
  cases hv' with
  | nil => exact ⟨fun x h => (by cases h), fun x h => (by cases h), Nat.zero_le _⟩
  | zero => exact ⟨fun x h => (by cases h), fun x h => (by cases h), Nat.zero_le _⟩
  | row _ _ _ b off cap size' us hs' hl hsc hcap hmax htip hc hr =>
    have hsz : size' = size := by unfold SizeOf at hs hs'; rw [hs] at hs'; exact (Option.some.inj hs').symm
    subst hsz
    exact ⟨hl, hsc, Nat.le_trans hcap hmax⟩

def byteAVs (l : List UInt8) : List AV := l.map fun b => .lit (.int .u8 b.toNat)

theorem byteAVs_flat (l : List UInt8) : (byteAVs l).flatMap AV.cells = byteAVs l := by
  induction l with
  | nil => rfl
  | cons b r ih => simp only [byteAVs, List.map_cons, List.flatMap_cons] at *; rw [ih]; rfl
theorem byteAVs_cells (l : List UInt8) : ∀ x ∈ byteAVs l, x.cells.length = 1 := by
  intro x hx; obtain ⟨b, _, rfl⟩ := List.mem_map.1 hx; rfl
theorem byteAVs_scalar (l : List UInt8) : ∀ x ∈ byteAVs l, ∀ c ∈ x.cells, c.scalar = true := by
  intro x hx c hc; obtain ⟨b, _, rfl⟩ := List.mem_map.1 hx; simp [AV.cells] at hc; subst hc; rfl
theorem byteAVs_len (l : List UInt8) : (byteAVs l).length = l.length := by simp [byteAVs]
theorem byteAVs_get (l : List UInt8) (j : Nat) : (byteAVs l)[j]? = (l[j]?).map fun b => .lit (.int .u8 b.toNat) := by simp [byteAVs]

theorem src_str {l : List UInt8} (hk : P.underlying tx = some .string) (hy : s.eval y = .str l) :
    ∀ (G : Gh) (a : Act) (w : World), RelSt P G n s a w → ∃ news, Src P 1 tx (a.eval y) (byteAVs l).length news w ∧ ∀ (j : Nat) c u, ((byteAVs l).flatMap AV.cells)[j]? = some c → news[j]? = some u → RelV P G w c u := by
  intro G a w h
  rw [h.evStr hy]
  have := Src.ofString w hk ⟨l.toArray⟩
  rw [bsize] at this
  refine ⟨_, by rw [byteAVs_len]; exact this, fun j c u h1 h2 => ?_⟩
  rw [byteAVs_flat, byteAVs_get] at h1
  simp only [Go.byteCells, List.getElem?_map] at h2
  cases hb : l[j]? with
  | none => simp [hb] at h1
  | some b =>
    simp only [hb, Option.map_some, Option.some.injEq] at h1 h2
    subst h1; subst h2
    exact .lit _

/-- A piece of a text. -/
def bnd (s : St) (x : Option Operand) (dflt v : Nat) : Prop := match x with | none => v = dflt | some x => ∃ (k : IntKind) (i : Int), s.eval x = .lit (.int k i) ∧ i = v

theorem Reader.sub {l m : List UInt8} {lo hi : Option Operand} {i j : Nat} (ho : o.op = .slice t x lo hi none) (hu : P.underlying t = some .string) (hx : s.eval x = .str l) (h1 : bnd s lo 0 i) (h2 : bnd s hi l.length j) (hij : i ≤ j) (hj : j ≤ l.length) (hm : (l.take j).drop i = m) : Reader P n s o d (.str m) := by
  intro G a w h
  subst hm
  refine ⟨_, RelV.str _, fun w' _ => ?_⟩
  have hs := h.evStr hx
  have key : ∀ (b : Option Operand) (df v : Nat), bnd s b df v → (b = none ∧ v = df) ∨ ∃ x k, b = some x ∧ a.eval x = .int k v := by
    intro b df v hb
    cases b with
    | none => exact .inl ⟨rfl, hb⟩
    | some x => obtain ⟨k, i, e1, e2⟩ := hb; subst e2; exact .inr ⟨x, k, rfl, h.evLit e1⟩
  have hsz : (⟨l.toArray⟩ : ByteArray).size = l.length := rfl
  rcases key lo 0 i h1 with ⟨rfl, rfl⟩ | ⟨xl, kl, rfl, hl⟩ <;> rcases key hi l.length j h2 with ⟨rfl, rfl⟩ | ⟨xh, kh, rfl, hh⟩ <;>
    simp [execOp, Instr.sliceAt, Instr.slice, run_underlying hu, Instr.sliceBounds, Instr.sliceBound, asIntOf, *, bytes_extract]

/-- A piece of a list. -/
theorem Reader.piece {ow : Bool} {xs ys : List AV} {size : Nat} {lo hi : Option Operand} {i j : Nat} (ho : o.op = .slice t x lo hi none) (hu : P.underlying t = some (.slice E)) (hs : SizeOf P E size) (hx : s.eval x = .list ow E xs) (h1 : bnd s lo 0 i) (h2 : bnd s hi xs.length j) (hij : i ≤ j) (hj : j ≤ xs.length)
    (hm : (xs.take j).drop i = ys) : Reader P n s o d (.list false E ys) := by
  intro G a w h
  subst hm
  obtain ⟨p, hp⟩ := h.ev x (fun v cs e1 e2 => by subst e1; subst e2; simp [St.eval, ofConst] at hx)
  rw [hx] at hp
  have key : ∀ (b : Option Operand) (df v : Nat), bnd s b df v → (b = none ∧ v = df) ∨ ∃ x k, b = some x ∧ a.eval x = .int k v := by
    intro b df v hb
    cases b with
    | none => exact .inl ⟨rfl, hb⟩
    | some x => obtain ⟨k, i, e1, e2⟩ := hb; subst e2; exact .inr ⟨x, k, rfl, h.evLit e1⟩
  have hv := RelS.un (p' := p) hp
  generalize hav : a.eval x = v at hv
  have hv' : RelV P G w (.list false E xs) v := hv
  have hlen : ((xs.take j).drop i).length = j - i := by simp; omega
  cases hv' with
  | nil =>
    have hj0 : j = 0 := by simpa using hj
    subst hj0
    have hi0 : i = 0 := by omega
    subst hi0
    refine ⟨.slice none 0 0, RelV.nil _ _, fun w' _ => ?_⟩
    rcases key lo 0 0 h1 with ⟨rfl, e0⟩ | ⟨xl, kl, rfl, hl⟩
    · rcases key hi _ 0 h2 with ⟨rfl, e1⟩ | ⟨xh, kh, rfl, hh⟩
      · clear e1 e0
        simp [execOp, ho, Instr.sliceAt, Instr.slice, run_underlying hu, hav, Instr.sliceBounds, run_size hs]
      · clear e0
        simp [execOp, ho, Instr.sliceAt, Instr.slice, run_underlying hu, hav, Instr.sliceBounds, Instr.sliceBound, asIntOf, run_size hs, hh]
    · rcases key hi _ 0 h2 with ⟨rfl, e1⟩ | ⟨xh, kh, rfl, hh⟩
      · clear e1
        simp [execOp, ho, Instr.sliceAt, Instr.slice, run_underlying hu, hav, Instr.sliceBounds, Instr.sliceBound, asIntOf, run_size hs, hl]
      · simp [execOp, ho, Instr.sliceAt, Instr.slice, run_underlying hu, hav, Instr.sliceBounds, Instr.sliceBound, asIntOf, run_size hs, hl, hh]
  | zero _ b =>
    have hj0 : j = 0 := by simpa using hj
    subst hj0
    have hi0 : i = 0 := by omega
    subst hi0
    refine ⟨.slice (some b) 0 0, RelV.zero _ _, fun w' _ => ?_⟩
    rcases key lo 0 0 h1 with ⟨rfl, e0⟩ | ⟨xl, kl, rfl, hl⟩
    · rcases key hi _ 0 h2 with ⟨rfl, e1⟩ | ⟨xh, kh, rfl, hh⟩
      · clear e1 e0
        simp [execOp, ho, Instr.sliceAt, Instr.slice, run_underlying hu, hav, Instr.sliceBounds, run_size hs]
      · clear e0
        simp [execOp, ho, Instr.sliceAt, Instr.slice, run_underlying hu, hav, Instr.sliceBounds, Instr.sliceBound, asIntOf, run_size hs, hh]
    · rcases key hi _ 0 h2 with ⟨rfl, e1⟩ | ⟨xh, kh, rfl, hh⟩
      · clear e1
        simp [execOp, ho, Instr.sliceAt, Instr.slice, run_underlying hu, hav, Instr.sliceBounds, Instr.sliceBound, asIntOf, run_size hs, hl]
      · simp [execOp, ho, Instr.sliceAt, Instr.slice, run_underlying hu, hav, Instr.sliceBounds, Instr.sliceBound, asIntOf, run_size hs, hl, hh]
  | row _ _ _ b off cap size' us hs' hl hsc hcap hmax htip hc hr =>
    have hsz : size' = size := by unfold SizeOf at hs hs'; rw [hs] at hs'; exact (Option.some.inj hs').symm
    subst hsz
    have hrun : ∀ w' : World, (execOp a.eval o).run P w' = .ok (.value (.slice (if cap = i then some ⟨b, off, none⟩ else some ⟨b, off + i * size', none⟩) (j - i) (cap - i))) w' := by
      intro w'
      have hic : i ≤ cap := by omega
      have hjc : j ≤ cap := by omega
      rcases key lo 0 i h1 with ⟨rfl, rfl⟩ | ⟨xl, kl, rfl, hl⟩ <;> rcases key hi xs.length j h2 with ⟨rfl, rfl⟩ | ⟨xh, kh, rfl, hh⟩ <;>
        simp [execOp, Instr.sliceAt, Instr.slice, run_underlying hu, Instr.sliceBounds, Instr.sliceBound, asIntOf, run_size hs, add_at, *]
    have hlx : ∀ x ∈ (xs.take j).drop i, x.cells.length = size' := fun x hx => hl x (List.mem_of_mem_take (List.mem_of_mem_drop hx))
    have hscx : ∀ x ∈ (xs.take j).drop i, ∀ c ∈ x.cells, c.scalar = true := fun x hx => hsc x (List.mem_of_mem_take (List.mem_of_mem_drop hx))
    have hrow : ∀ off', (0 < j - i → off' = off + i * size') → RelV P G w (.list false E ((xs.take j).drop i)) (.slice (some ⟨b, off', none⟩) (j - i) (cap - i)) := by
      intro off' hoff
      have := RelV.row (P := P) (G := G) (w := w) false E ((xs.take j).drop i) b off' (cap - i) size' (fun m => us (i * size' + m)) hs hlx hscx (by rw [hlen]; omega) (by omega) (fun h0 => ?_) (fun m hm => ?_) (fun m c hm => ?_)
      · rw [hlen] at this; exact this
      · rw [hlen] at h0 ⊢
        rw [hoff h0]
        have := htip (by omega)
        have h5 : (i + (j - i)) * size' ≤ xs.length * size' := Nat.mul_le_mul_right _ (by omega)
        rw [Nat.add_mul] at h5
        omega
      · rw [hlen] at hm
        have h0 : 0 < j - i := by
          rcases Nat.eq_zero_or_pos (j - i) with h | h
          · rw [h] at hm; omega
          · exact h
        rw [hoff h0, Nat.add_assoc]
        refine hc _ ?_
        have h5 : (i + (j - i)) * size' ≤ xs.length * size' := Nat.mul_le_mul_right _ (by omega)
        rw [Nat.add_mul] at h5
        omega
      · have hml := (List.getElem?_eq_some_iff.1 hm).1
        rw [flat_len hlx, hlen] at hml
        refine hr (i * size' + m) c ?_
        have e : xs.flatMap AV.cells = (xs.take i).flatMap AV.cells ++ ((xs.take j).drop i).flatMap AV.cells ++ (xs.drop j).flatMap AV.cells := by
          rw [← List.flatMap_append, ← List.flatMap_append]
          congr 1
          rw [show (xs.take i) = (xs.take j).take i by rw [List.take_take, Nat.min_eq_left hij], List.take_append_drop, List.take_append_drop]
        have hl1 : ((xs.take i).flatMap AV.cells).length = i * size' := by
          rw [flat_len (fun x hx => hl x (List.mem_of_mem_take hx)), List.length_take, Nat.min_eq_left (by omega)]
        rw [e, List.append_assoc, List.getElem?_append_right (by omega), hl1, show i * size' + m - i * size' = m by omega, List.getElem?_append_left (by rw [flat_len hlx, hlen]; exact hml)]
        exact hm
    by_cases hci : cap = i
    · refine ⟨.slice (some ⟨b, off, none⟩) (j - i) (cap - i), hrow off (fun h => by omega), fun w' _ => ?_⟩
      rw [hrun w', if_pos hci]
    · refine ⟨.slice (some ⟨b, off + i * size', none⟩) (j - i) (cap - i), hrow _ (fun _ => rfl), fun w' _ => ?_⟩
      rw [hrun w', if_neg hci]

end
end
section
open Go.RowKit

section
variable {P : Program} {n : Nat} {s : St} {ops : Array Oper} {l : List Oper} {Q : St → Prop} {QE : Exit → St → Prop} {t : Nat} {b : Bool}

theorem AOps.mono {Q' : St → Prop} (h : AOps P n ops l s Q) (hq : ∀ s, Q s → Q' s) : AOps P n ops l s Q' :=
  fun G a w K hr hfx hK => h G a w K hr hfx fun s' G' a' w' q => hK s' G' a' w' (hq s' q)

theorem AWp.cond {c : Operand} {x y : Code} (hc : s.eval c = .lit (.bool b)) (hT : b = true → AWp P n x s QE) (hF : b = false → AWp P n y s QE) : AWp P n (.cond c x y) s QE := by
  intro G a w K hr hfx hK
  have := hr.evLit hc
  cases b with
  | true => exact wp_cond_true this (hT rfl G a w K hr hfx hK)
  | false => exact wp_cond_false this (hF rfl G a w K hr hfx hK)

/-- A nil list in a slot, as a list of whatever kind. -/
theorem AOps.nilList {o : Oper} {rest : List Oper} {d : Nat} (E : TypeId) (hg : Wants ops s o) (hd : o.dst = some d) (hn : d < n) (ho : o.op = .assign (.const (.slice none 0 0)) ∨ o.op = .move (.const (.slice none 0 0)))
    (k : AOps P n ops rest (s.put d (.list true E [])) Q) : AOps P n ops (o :: rest) s Q := by
  refine AOps.read hg hd hn (v := .list true E []) (fun G a w hr => ⟨.slice none 0 0, (Or.inr ⟨rfl, Or.inl rfl⟩ : RelO P G w (.slot d 0) (.list true E []) (.slice none 0 0)), fun w' _ => ?_⟩) k
  rcases ho with ho | ho <;> simp [execOp, ho, Act.eval]
end
end
section
open Go.RowKit

def AV.notL (d : Nat) : AV → Bool
  | .lptr k _ => k != d
  | _ => true

section
variable {P : Program} {n : Nat} {s : St} {ops : Array Oper} {o : Oper} {rest : List Oper} {Q : St → Prop} {QE : Exit → St → Prop} {d r : Nat} {t t' tx E : TypeId} {x y : Operand} {k : IntKind} {i : Int}

theorem look_mem {α : Type} (dd : α) (l : List (Nat × α)) (j : Nat) : look dd l j = dd ∨ ∃ p ∈ l, look dd l j = p.2 := by
  induction l with
  | nil => left; rfl
  | cons a r ih =>
    simp only [look]
    split
    · right; exact ⟨a, List.mem_cons_self .., rfl⟩
    · rcases ih with h | ⟨p, hp, h⟩
      · left; exact h
      · right; exact ⟨p, List.mem_cons_of_mem _ hp, h⟩

theorem noL (h : s.fr.all (fun p => p.2.notL d) = true) : ∀ j off, s.get j ≠ .lptr d off := by
  intro j off e
  rcases look_mem .any s.fr j with h1 | ⟨p, hp, h1⟩
  · rw [show s.get j = look .any s.fr j from rfl, h1] at e; cases e
  · have := List.all_eq_true.1 h p hp
    rw [show s.get j = look .any s.fr j from rfl, h1] at e
    rw [e] at this
    simp [AV.notL] at this

theorem all_flat {cs : List AV} (h : cs.all AV.flat = true) : ∀ c ∈ cs, c.flat = true := List.all_eq_true.1 h
theorem all_len {xs : List AV} {m : Nat} (h : (xs.all fun x => x.cells.length == m) = true) : ∀ x ∈ xs, x.cells.length = m := fun x hx => eq_of_beq (List.all_eq_true.1 h x hx)
theorem all_sc {xs : List AV} (h : (xs.all fun x => x.cells.all AV.scalar) = true) : ∀ x ∈ xs, ∀ c ∈ x.cells, c.scalar = true := fun x hx c hc => List.all_eq_true.1 (List.all_eq_true.1 h x hx) c hc
theorem args_ok {l : Array Operand} (h : l.toList.all Operand.ok = true) : ∀ x ∈ l, ∀ v cs, x = .const v → v = .agg cs → ∀ c ∈ cs, c.oneCell' = true :=
  fun x hx => ok_const (List.all_eq_true.1 h x (by simpa using hx))

theorem bnot_t {b : Bool} (h : (!b) = true) : b = false := by cases b <;> first | rfl | cases h
theorem bnot_f {b : Bool} (h : (!b) = false) : b = true := by cases b <;> first | rfl | cases h
theorem byteAVs_at {l : List UInt8} {j : Nat} (h : j < l.length) : (byteAVs l)[j]? = some (.lit (.int .u8 (l.getD j 0).toNat)) := by
  rw [byteAVs_get, List.getD_eq_getElem?_getD, List.getElem?_eq_getElem h]; rfl
theorem map_at {α : Type} {f : α → AV} {l : List α} {j : Nat} {a : α} (h : l[j]? = some a) : (l.map f)[j]? = some (f a) := by rw [List.getElem?_map, h]; rfl

theorem Reader.len' {o' : Bool} {E' : TypeId} {xs : List AV} {c : Call} {m : Nat} (ho : o.op = .call c) (hc : c.callee = .builtin .len) (ha : c.args = #[x]) (ht : c.argTypes = #[t]) (hu : P.underlying t = some (.slice E)) (hx : s.eval x = .list o' E' xs) (hm : xs.length = m) :
    Reader P n s o d (.lit (.int .i64 m)) := by subst hm; exact Reader.len ho hc ha ht hu hx
theorem Reader.lenStr' {l : List UInt8} {c : Call} {m : Nat} (ho : o.op = .call c) (hc : c.callee = .builtin .len) (ha : c.args = #[x]) (ht : c.argTypes = #[t]) (hu : P.underlying t = some .string) (hx : s.eval x = .str l) (hm : l.length = m) :
    Reader P n s o d (.lit (.int .i64 m)) := by subst hm; exact Reader.lenStr ho hc ha ht hu hx

/-- A part of an answer of several values, with what it owns. -/
theorem AOps.take {v : AV} {cs : List AV} {m : Nat} (hg : Wants ops s o) (hd : o.dst = some d) (hn : d < n) (hrd : r ≠ d) (ho : o.op = .extract (.tmp r) m) (hx : s.get r = .tuple cs) (hc : cs[m]? = some v) (hv : v.flat = true ∨ ∃ E xs, v = .list true E xs)
    (k : AOps P n ops rest { s with fr := (d, v) :: (r, .tuple (cs.set m v.un)) :: s.fr } Q) : AOps P n ops (o :: rest) s Q := by
  refine AOps.step hg hd ?_ k
  intro G a w hr
  have hp := hr.slot r
  rw [hx] at hp
  obtain ⟨vs, hav, hl, hrr⟩ := hp
  have hlt := (List.getElem?_eq_some_iff.1 hc).1
  have e : vs[m]? = some vs[m] := List.getElem?_eq_getElem (by omega)
  let G' : Gh := { G with owner := fun b => if G.owner b = some (.slot r m) then some (.slot d 0) else G.owner b }
  have st : Stab G w G' w := ⟨fun _ => Nat.le_refl _, fun _ _ _ => rfl, fun _ _ h => h⟩
  have how : ∀ q b, G.owner b = some q → q ≠ .slot r m → G'.owner b = some q := by
    intro q b h1 h2
    show (if G.owner b = some (.slot r m) then some (Pos.slot d 0) else G.owner b) = some q
    rw [h1, if_neg (fun e => h2 (Option.some.inj e))]
  -- the slot r without the part
  have hr1 : RelSt P G' n (s.put r (.tuple (cs.set m v.un))) a w := by
    refine ⟨hr.size, hr.defers, fun j => ?_, fun k1 cells hk1 => ?_, ?_⟩
    · show RelS P G' w (.slot j) (look .any ((r, .tuple (cs.set m v.un)) :: s.fr) j) _
      simp only [look]
      by_cases ej : j = r
      · subst ej
        simp only [if_true]
        refine ⟨vs, hav, by simpa using hl, fun c' cc u h1 h2 => ?_⟩
        by_cases ec : c' = m
        · subst ec
          rw [List.getElem?_set_self hlt] at h1
          cases h1
          rw [e] at h2
          cases h2
          have h3 := hrr c' v _ hc e
          rcases h3.toV with h3 | ⟨cs', rfl⟩
          · have h4 := h3.stab st
            rcases hv with hv | ⟨E, xs, rfl⟩
            · cases v with
              | lptr | eptr | tuple | pin => cases hv
              | list o' E xs => exact h4
              | _ => exact h4
            · exact h4
          · rcases hv with hv | ⟨E, xs, hv⟩
            · cases hv
            · cases hv
        · rw [List.getElem?_set_ne (Ne.symm ec)] at h1
          exact (hrr c' cc u h1 h2).move st (Nat.le_refl _) (fun b _ h3 => ⟨how _ b h3 (by intro h; injection h with h5 h6; exact ec h6), rfl, rfl⟩)
      · rw [if_neg (Ne.symm ej)]
        exact (hr.slot j).move st (Nat.le_refl _) (fun _ _ _ => rfl) (fun c b _ h3 => ⟨how _ b h3 (by intro h; injection h with h5 h6; exact ej h5), rfl, rfl⟩)
    · exact (hr.loc k1 cells hk1).move st (Nat.le_refl _) rfl ((how _ _ (hr.loc k1 cells hk1).own (by intro h; cases h)).trans (hr.loc k1 cells hk1).own.symm) rfl (fun c b _ h2 => ⟨how _ b h2 (by intro h; cases h), rfl, rfl⟩)
    · exact hr.mem.move st (Nat.le_refl _) (fun q b hq _ h2 => ⟨how q b h2 (by intro h; subst h; cases hq), rfl, rfl⟩) (fun b hb => ⟨(hr.mem.far b hb).1, by
        show (if G.owner b = some (.slot r m) then some (Pos.slot d 0) else G.owner b) = none
        rw [(hr.mem.far b hb).2]; simp⟩) rfl
  refine ⟨vs[m], w, G', ?_, hr1.put hn ?_, ⟨rfl, rfl, rfl, Nat.le_refl _, fun b _ h => ⟨?_, rfl, rfl⟩, st⟩⟩
  · have hav' : a.eval (.tmp r) = .tuple vs.toArray := hav
    simp [execOp, ho, Instr.extract, hav', e]
  · have h3 := (hrr m v _ hc e).move (q' := .slot d 0) st (Nat.le_refl _) (fun b _ h2 => ⟨by
      show (if G.owner b = some (.slot r m) then some (Pos.slot d 0) else G.owner b) = _
      rw [if_pos h2], rfl, rfl⟩)
    rcases hv with hv | ⟨E, xs, rfl⟩
    · cases v with
      | lptr | eptr | tuple | pin => cases hv
      | _ => exact h3
    · exact h3
  · show (if G.owner b = some (.slot r m) then some (Pos.slot d 0) else G.owner b) = none
    rw [h]; simp

/-- Append, of a list; of a text's bytes. -/
theorem AOps.appL {size bytes : Nat} {ti : TypeInfo} {z : Value} {o2 : Bool} {xs ys zs : List AV} {c : Call} (hg : Wants ops s o) (hd : o.dst = some d) (hn : d < n) (hrd : r ≠ d) (ho : o.op = .call c) (hc : c.callee = .builtin .append) (ha : c.args = #[.tmp r, y]) (hat : c.argTypes = #[t, tx])
    (ht : P.underlying t = some (.slice E)) (htx : P.underlying tx = some (.slice E)) (hi : P.info? E = some ti) (hz : ti.zero = some z) (hsz : ti.size = size) (hby : ti.bytes = bytes) (hzs : z.cells.size = size)
    (hx : s.get r = .list true E xs) (hy : s.eval y = .list o2 E ys) {m1 m2 : Nat} (hm1 : xs.length = m1) (hm2 : ys.length = m2) (h63 : m1 + m2 ≤ maxLen) (hb : (m1 + m2) * bytes ≤ 140737488355328) (hzz : xs ++ ys = zs)
    (k : AOps P n ops rest { s with fr := (d, .list true E zs) :: (r, .list false E xs) :: s.fr } Q) : AOps P n ops (o :: rest) s Q := by
  have hs : SizeOf P E size := by unfold SizeOf; rw [hi]; simp [hsz]
  subst hm1; subst hm2
  refine AOps.app hg hd hn hrd ho hc ha hat ht hi hz hsz hby hzs hx (fun G a w hr => ?_) h63 hb hzz k
  obtain ⟨h1, h2, _⟩ := list_cells hs hy G a w hr
  exact ⟨h1, h2, src_list htx hs hy G a w hr⟩

theorem AOps.appS {bytes : Nat} {ti : TypeInfo} {z : Value} {l : List UInt8} {xs zs : List AV} {c : Call} (hg : Wants ops s o) (hd : o.dst = some d) (hn : d < n) (hrd : r ≠ d) (ho : o.op = .call c) (hc : c.callee = .builtin .append) (ha : c.args = #[.tmp r, y]) (hat : c.argTypes = #[t, tx])
    (ht : P.underlying t = some (.slice E)) (htx : P.underlying tx = some .string) (hi : P.info? E = some ti) (hz : ti.zero = some z) (hsz : ti.size = 1) (hby : ti.bytes = bytes) (hzs : z.cells.size = 1)
    (hx : s.get r = .list true E xs) (hy : s.eval y = .str l) {m1 m2 : Nat} (hm1 : xs.length = m1) (hm2 : l.length = m2) (h63 : m1 + m2 ≤ maxLen) (hb : (m1 + m2) * bytes ≤ 140737488355328) (hzz : xs ++ byteAVs l = zs)
    (k : AOps P n ops rest { s with fr := (d, .list true E zs) :: (r, .list false E xs) :: s.fr } Q) : AOps P n ops (o :: rest) s Q := by
  subst hm1; subst hm2
  exact AOps.app hg hd hn hrd ho hc ha hat ht hi hz hsz hby hzs hx (fun G a w hr => ⟨byteAVs_cells l, byteAVs_scalar l, src_str htx hy G a w hr⟩) (by rw [byteAVs_len]; exact h63) (by rw [byteAVs_len]; exact hb) hzz k

theorem byteAVs_cell {G : Gh} {w : World} {l : List UInt8} {us : Nat → Value} (hr : ∀ (j : Nat) (c : AV), ((byteAVs l).flatMap AV.cells)[j]? = some c → RelV P G w c (us j)) (j : Nat) (hj : j < l.length) : us j = .int .u8 (l.getD j 0).toNat := by
  rw [byteAVs_flat] at hr
  have := hr j _ (byteAVs_at hj)
  generalize us j = u at this
  cases this
  rfl

/-- A text out of bytes. -/
theorem Reader.ofBytes {o2 : Bool} {l : List UInt8} (ho : o.op = .convert t t' x) (h1 : P.underlying t = some (.slice E)) (h2 : P.underlying t' = some .string) (h3 : P.underlying E = some (.int .u8)) (hx : s.eval x = .list o2 E (byteAVs l)) : Reader P n s o d (.str l) := by
  intro G a w h
  obtain ⟨p, hp⟩ := h.ev x (fun v cs e1 e2 => by subst e1; subst e2; simp [St.eval, ofConst] at hx)
  rw [hx] at hp
  have hv := RelS.un (p' := p) hp
  generalize hav : a.eval x = v at hv
  refine ⟨_, RelV.str _, fun w' hb => ?_⟩
  have hv' : RelV P G w (.list false E (byteAVs l)) v := hv
  generalize hxs : byteAVs l = xs at hv'
  cases hv' with
  | nil =>
    have : l = [] := by
      have := congrArg List.length hxs
      rw [byteAVs_len] at this
      exact List.length_eq_zero_iff.1 this
    subst this
    have hr := run_convert_bytes_nil (P := P) (w := w') t E h1 h3 0 0 (dst := t') h2
    simp [execOp, ho, hav, hr, Result.andThen]
    rfl
  | zero _ b =>
    have : l = [] := by
      have := congrArg List.length hxs
      rw [byteAVs_len] at this
      exact List.length_eq_zero_iff.1 this
    subst this
    have hr := run_convert_bytes_back (P := P) w' t t' E b 0 [] h1 h3 h2 (fun j hj => by simp at hj)
    rw [List.length_nil] at hr
    simp [execOp, ho, hav, hr, Result.andThen]
  | row _ _ _ b off cap size us hs hl hsc hcap hmax htip hc hr =>
    subst hxs
    have hsz : (byteAVs l).length * size = l.length := by
      rw [byteAVs_len]
      rcases Nat.eq_zero_or_pos l.length with h0 | h0
      · rw [h0, Nat.zero_mul]
      · have := hl _ (List.mem_of_getElem? (byteAVs_at h0))
        simp [AV.cells] at this
        rw [← this, Nat.mul_one]
    have hcell : ∀ j, j < l.length → w'.cell? ⟨b, off + j, none⟩ = some (.int .u8 (l.getD j 0).toNat) := by
      intro j hj
      rw [← byteAVs_cell (P := P) (G := G) (w := w) hr j hj]
      exact cell_later hb (hc j (by omega))
    have hrun := run_convert_bytes_back (P := P) w' t t' E ⟨b, off, none⟩ cap l h1 h3 h2 (fun j hj => by
      rw [add_at]
      have := hcell j hj
      rw [List.getD_eq_getElem?_getD, List.getElem?_eq_getElem hj] at this
      exact this)
    rw [byteAVs_len] at hav
    simp [execOp, ho, hav, hrun, Result.andThen]

/-- Bytes out of a text: new memory. -/
theorem AOps.toBytes {l : List UInt8} {_D : TypeDesc} (hg : Wants ops s o) (hd : o.dst = some d) (hn : d < n) (ho : o.op = .convert t t' x) (h1 : P.underlying t = some .string) (h2 : P.underlying t' = some (.slice E)) (h3 : P.underlying E = some (.int .u8)) (hx : s.eval x = .str l) (hs : SizeOf P E 1) (hb : l.length ≤ 140737488355328)
    (k : AOps P n ops rest (s.put d (.list false E (byteAVs l))) Q) : AOps P n ops (o :: rest) s Q := by
  refine AOps.step hg hd ?_ k
  intro G a w hr
  have hrun := Lib.run_convert_string_bytes (P := P) w t t' E ⟨l.toArray⟩ h1 h2 h3
  let G' : Gh := { G with tip := fun b => if b = w.heap.size then l.length else G.tip b }
  have hfar := hr.mem.far
  have hsz := Lib.bytesWorld_size w E ⟨l.toArray⟩
  have hold : ∀ b, b < w.heap.size → (Lib.bytesWorld w E ⟨l.toArray⟩).heap[b]? = w.heap[b]? := fun b hb => Lib.bytesWorld_at_old w E _ b hb
  have st : Stab G w G' (Lib.bytesWorld w E ⟨l.toArray⟩) := by
    refine ⟨fun b => ?_, fun b oo hoo => ?_, fun _ _ h => h⟩
    · show G.tip b ≤ if b = w.heap.size then l.length else G.tip b
      split
      · rename_i e; subst e; rw [(hfar _ (Nat.le_refl _)).1]; exact Nat.zero_le _
      · exact Nat.le_refl _
    · have hb : b < w.heap.size := by
        rcases Nat.lt_or_ge b w.heap.size with h | h
        · exact h
        · rw [(hfar b h).1] at hoo; omega
      exact World.cell?_of_block (w := w) (a := ⟨b, oo, none⟩) (hold b hb)
  have htip : ∀ b, b < w.heap.size → G'.tip b = G.tip b := by
    intro b hb
    show (if b = w.heap.size then l.length else G.tip b) = _
    rw [if_neg (by omega)]
  have hrun' : (execOp a.eval o).run P w = .ok (.value (.slice (some ⟨w.heap.size, 0, none⟩) l.length (grownCap w l.length 0 E))) (Lib.bytesWorld w E ⟨l.toArray⟩) := by
    simp only [execOp, ho, hr.evStr hx, Sem.run_bind, hrun, Result.andThen_ok]
    rfl
  refine ⟨_, _, G', hrun', ?_, ⟨rfl, rfl, rfl, by omega, fun b hb hn => ⟨hn, hold b hb, htip b hb⟩, st⟩⟩
  refine hr.turn hn st (by omega) (fun _ _ => rfl) (fun q b h1 h2 _ => ⟨h2, hold b h1, htip b h1⟩) (fun b hb => ?_) rfl ?_
  · obtain ⟨h4, h5⟩ := hfar b (by omega)
    refine ⟨?_, h5⟩
    show (if b = w.heap.size then l.length else G.tip b) = 0
    rw [if_neg (by omega)]; exact h4
  · have := RelV.row (P := P) (G := G') (w := Lib.bytesWorld w E ⟨l.toArray⟩) false E (byteAVs l) w.heap.size 0 (grownCap w l.length 0 E) 1 (fun j => .int .u8 (l.getD j 0).toNat) hs (byteAVs_cells l) (byteAVs_scalar l) ?_ ?_ (fun _ => ?_) (fun j hj => ?_) (fun j c hj => ?_)
    · rw [byteAVs_len] at this; exact this
    · rw [byteAVs_len]; exact grownCap_ge w l.length 0 E
    · exact grownCap_le_maxLen w l.length 0 E (by unfold maxLen; omega)
    · show _ ≤ if w.heap.size = w.heap.size then l.length else _
      rw [byteAVs_len]; simp
    · rw [byteAVs_len, Nat.mul_one] at hj
      rw [Nat.zero_add]
      exact Lib.bytesWorld_cell w E ⟨l.toArray⟩ j hj
    · rw [byteAVs_flat] at hj
      have hj' := (List.getElem?_eq_some_iff.1 hj).1
      rw [byteAVs_len] at hj'
      rw [byteAVs_at hj'] at hj
      cases hj
      exact .lit _
end
end
section
open Go.RowKit

section
variable {P : Program} {f : FuncId} {args : List AV} {M : Nat → Option (List AV)}

theorem below_keep {G : Gh} {w w' : World} (hb : Below w.heap.size w w') (hfar : ∀ b, w.heap.size ≤ b → G.tip b = 0 ∧ G.owner b = none) : Keep G w G w' ∧ Stab G w G w' := by
  have st : Stab G w G w' := by
    refine ⟨fun _ => Nat.le_refl _, fun b oo ho => ?_, fun _ _ h => h⟩
    have hlt : b < w.heap.size := by
      rcases Nat.lt_or_ge b w.heap.size with h | h
      · exact h
      · rw [(hfar b h).1] at ho; omega
    exact World.cell?_of_block (w := w) (a := ⟨b, oo, none⟩) (hb.block b hlt)
  exact ⟨⟨hb.os, hb.tape, hb.output, hb.size, fun b h1 h2 => ⟨h2, hb.block b h1, rfl⟩, st⟩, st⟩

/-- It answers what holds no memory, and leaves all that was there. -/
theorem ACall.ofBelow {r : AV} (hf : r.flat = true)
    (h : ∀ (G : Gh) (w : World) (vs : List Value), RelM P G w M → Fix G w → vs.length = args.length → (∀ (j : Nat) x v, args[j]? = some x → vs[j]? = some v → RelV P G w x v) →
      Calls P f vs.toArray w fun e w' => ∃ u, e = .returned u ∧ RelV P G w r u ∧ Below w.heap.size w w') : ACall P f args M (fun r' M' => r' = r ∧ M = M') := by
  intro G w vs hm hfx hlen hrel
  refine (h G w vs hm hfx hlen hrel).mono ?_
  rintro e w' ⟨u, rfl, hu, hb⟩
  obtain ⟨kp, st⟩ := below_keep (G := G) hb hm.far
  refine ⟨r, M, G, u, rfl, ⟨rfl, rfl⟩, flat_isL hf, (hu.stab st).toS hf, ?_, kp⟩
  exact hm.move st hb.size (fun q b hq h1 h2 => ⟨h2, hb.block b h1, rfl⟩) (fun b hb' => hm.far b (Nat.le_trans hb.size hb')) rfl

/-- It answers a new row, and leaves all that was there. -/
theorem ACall.ofRow {E : TypeId} {xs : List AV} {size : Nat} (hs : SizeOf P E size) (hl : ∀ x ∈ xs, x.cells.length = size) (hsc : ∀ x ∈ xs, ∀ c ∈ x.cells, c.scalar = true) (_hmax : xs.length ≤ maxLen)
    (h : ∀ (G : Gh) (w : World) (vs : List Value), RelM P G w M → Fix G w → vs.length = args.length → (∀ (j : Nat) x v, args[j]? = some x → vs[j]? = some v → RelV P G w x v) →
      ∃ cs : List Value, RelL P G w (xs.flatMap AV.cells) cs ∧ Calls P f vs.toArray w fun e w' => ∃ g cap cur, e = .returned (.slice (some ⟨g, 0, none⟩) xs.length cap) ∧ w.heap.size ≤ g ∧ g < w'.heap.size ∧ w'.heap[g]? = some (.cells cur E (0, 0)) ∧ xs.length ≤ cap ∧ cap ≤ maxLen ∧ cur.size = cap * size ∧
        cur.toList.take (xs.length * size) = cs ∧ Below w.heap.size w w') : ACall P f args M (fun r' M' => r' = .list true E xs ∧ M = M') := by
  intro G w vs hm hfx hlen hrel
  obtain ⟨cs, hcs, hcall⟩ := h G w vs hm hfx hlen hrel
  refine hcall.mono ?_
  rintro e w' ⟨g, cap, cur, rfl, hg1, hg2, hh, hcap, hcm, hcz, htake, hb⟩
  have hfar := hm.far
  let G' : Gh := { G with owner := fun b => if b = g then some (.res 0) else G.owner b, tip := fun b => if b = g then xs.length * size else G.tip b }
  have hne : ∀ b, b < w.heap.size → b ≠ g := fun b h => by omega
  have st : Stab G w G' w' := by
    refine ⟨fun b => ?_, fun b oo ho => ?_, fun _ _ h => h⟩
    · show G.tip b ≤ if b = g then _ else G.tip b
      split
      · rename_i e; subst e; rw [(hfar _ hg1).1]; exact Nat.zero_le _
      · exact Nat.le_refl _
    · have hlt : b < w.heap.size := by
        rcases Nat.lt_or_ge b w.heap.size with h | h
        · exact h
        · rw [(hfar b h).1] at ho; omega
      exact World.cell?_of_block (w := w) (a := ⟨b, oo, none⟩) (hb.block b hlt)
  have old : ∀ b, b < w.heap.size → G'.owner b = G.owner b ∧ G'.tip b = G.tip b := fun b hlt => by
    show (if b = g then _ else G.owner b) = _ ∧ (if b = g then _ else G.tip b) = _
    rw [if_neg (hne b hlt), if_neg (hne b hlt)]; exact ⟨rfl, rfl⟩
  refine ⟨.list true E xs, M, G', _, rfl, ⟨rfl, rfl⟩, rfl, ?_, ?_, ⟨hb.os, hb.tape, hb.output, hb.size, fun b h1 h2 => ⟨(old b h1).1.trans h2, hb.block b h1, (old b h1).2⟩, st⟩⟩
  · refine Or.inl ⟨size, cs, hs, hl, hsc, ⟨by rw [hcs.1, flat_len hl], .inr ⟨g, cap, cur, rfl, Nat.zero_le _, hh, hcap, hcm, hcz, htake⟩⟩, fun j c u h1 h2 => (hcs.2 j c u h1 h2).stab st, fun b hb' => ?_⟩
    simp only [Value.ownBlock, Option.some.injEq] at hb'
    subst hb'
    refine ⟨hg2, ?_, ?_⟩
    · show (if g = g then _ else _) = _; simp
    · show (if g = g then _ else _) = _; simp
  · refine hm.move st hb.size (fun q b hq h1 h2 => ⟨(old b h1).1.trans h2, hb.block b h1, (old b h1).2⟩) (fun b hb' => ?_) rfl
    have hb2 := hb.size
    show (if b = g then _ else G.tip b) = 0 ∧ (if b = g then _ else G.owner b) = none
    rw [if_neg (by omega), if_neg (by omega)]
    exact hfar b (by omega)

/-- Arguments that are told outright. -/
theorem arg1 {G : Gh} {w : World} {x : AV} {vs : List Value} (hlen : vs.length = [x].length) (hrel : ∀ (j : Nat) y v, [x][j]? = some y → vs[j]? = some v → RelV P G w y v) : ∃ v, vs = [v] ∧ RelV P G w x v := by
  match vs, hlen with
  | [v], _ => exact ⟨v, rfl, hrel 0 x v rfl rfl⟩
theorem arg2 {G : Gh} {w : World} {x y : AV} {vs : List Value} (hlen : vs.length = [x, y].length) (hrel : ∀ (j : Nat) z v, [x, y][j]? = some z → vs[j]? = some v → RelV P G w z v) : ∃ v u, vs = [v, u] ∧ RelV P G w x v ∧ RelV P G w y u := by
  match vs, hlen with
  | [v, u], _ => exact ⟨v, u, rfl, hrel 0 x v rfl rfl, hrel 1 y u rfl rfl⟩
theorem relV_str {G : Gh} {w : World} {l : List UInt8} {v : Value} (h : RelV P G w (.str l) v) : v = .string ⟨l.toArray⟩ := by cases h; rfl
theorem relV_lit {G : Gh} {w : World} {u v : Value} (h : RelV P G w (.lit u) v) : v = u := by cases h; rfl
theorem strs_rel {G : Gh} {w : World} (ls : List (List UInt8)) : RelL P G w ((ls.map AV.str).flatMap AV.cells) (ls.map fun l => Value.string ⟨l.toArray⟩) := by
  have e : (ls.map AV.str).flatMap AV.cells = ls.map AV.str := by
    induction ls with
    | nil => rfl
    | cons a r ih => simp only [List.map_cons, List.flatMap_cons, ih]; rfl
  rw [e]
  refine ⟨by simp, fun j c u h1 h2 => ?_⟩
  rw [List.getElem?_map] at h1 h2
  cases hj : ls[j]? with
  | none => simp [hj] at h1
  | some l => simp only [hj, Option.map_some, Option.some.injEq] at h1 h2; subst h1; subst h2; exact .str _
end
end
section
open Go.RowKit

/-- A later world in which all blocks of 'w' are as they were. -/
structure Ext (w : World) where
  val : World
  below : Below w.heap.size w val

instance (w : World) : Nonempty (Ext w) := ⟨⟨w, Below.refl _ _⟩⟩

/-- Block b is there in w: found by instances, to whatever depth. -/
class LtW (b : Nat) (w : World) : Prop where
  out : b < w.heap.size

instance LtW.new (w : World) (o : Obj) : LtW w.heap.size (w.alloc o) := ⟨by simp⟩
instance LtW.alloc (b : Nat) (w : World) (o : Obj) [h : LtW b w] : LtW b (w.alloc o) := ⟨by have := h.out; simp; omega⟩
instance LtW.succ (b : Nat) (w : World) (o : Obj) [h : LtW b w] : LtW (b + 1) (w.alloc o) := ⟨by have := h.out; simp; omega⟩
instance LtW.ext (b : Nat) (w : World) (x : Ext w) [h : LtW b w] : LtW b x.val := ⟨Nat.lt_of_lt_of_le h.out x.below.size⟩
instance LtW.drew (b : Nat) (w : World) [h : LtW b w] : LtW b w.drew := ⟨h.out⟩
instance LtW.drewN (b n : Nat) (w : World) [h : LtW b w] : LtW b (w.drewN n) := ⟨h.out⟩
instance LtW.setCell (b : Nat) (w : World) (a : Addr) (v : Value) [h : LtW b w] : LtW b (w.setCell a v) := ⟨by have := h.out; simpa [World.setCell] using this⟩

section
variable {w : World} (x : Ext w)
@[go_sem, simp] theorem Ext.cell (b o : Nat) [h : LtW b w] : x.val.cell? ⟨b, o, none⟩ = w.cell? ⟨b, o, none⟩ := x.below.cell (p := ⟨b, o, none⟩) h.out
@[go_sem, simp] theorem Ext.frozen (b o : Nat) [h : LtW b w] : x.val.frozen? ⟨b, o, none⟩ = w.frozen? ⟨b, o, none⟩ := x.below.frozen (p := ⟨b, o, none⟩) h.out
@[go_sem, simp] theorem LtW.cell (b o : Nat) (ob : Obj) [h : LtW b w] : (w.alloc ob).cell? ⟨b, o, none⟩ = w.cell? ⟨b, o, none⟩ := World.cell?_of_block (w := w) (a := ⟨b, o, none⟩) (Below.heap_alloc _ _ _ h.out)
@[go_sem, simp] theorem LtW.frozen (b o : Nat) (ob : Obj) [h : LtW b w] : (w.alloc ob).frozen? ⟨b, o, none⟩ = w.frozen? ⟨b, o, none⟩ := World.frozen?_of_block (w := w) (a := ⟨b, o, none⟩) (Below.heap_alloc _ _ _ h.out)
@[go_sem, simp] theorem LtW.ne (b : Nat) [h : LtW b w] : (b = w.heap.size) = False := by have := h.out; simp; omega
@[go_sem, simp] theorem LtW.ne' (b : Nat) [h : LtW b w] : (w.heap.size = b) = False := by have := h.out; simp; omega
@[go_sem, simp] theorem LtW.lt (b : Nat) [h : LtW b w] : (b < w.heap.size) = True := by have := h.out; simp; omega
end

/-- w keeps all that was there in w0: found by instances. -/
class Keeps (w0 w : World) : Prop where
  out : Below w0.heap.size w0 w
/-- Block b came behind w0. -/
class GeW (w0 : World) (b : Nat) : Prop where
  out : w0.heap.size ≤ b

instance Keeps.refl (w : World) : Keeps w w := ⟨Below.refl _ _⟩
instance Keeps.alloc (w0 w : World) (o : Obj) [h : Keeps w0 w] : Keeps w0 (w.alloc o) := ⟨h.out.alloc h.out.size o⟩
instance Keeps.drew (w0 w : World) [h : Keeps w0 w] : Keeps w0 w.drew := ⟨h.out.drew⟩
instance Keeps.drewN (w0 w : World) (n : Nat) [h : Keeps w0 w] : Keeps w0 (w.drewN n) := ⟨h.out.trans ⟨rfl, rfl, rfl, Nat.le_refl _, fun _ _ => rfl⟩⟩
instance Keeps.ext (w0 w : World) (x : Ext w) [h : Keeps w0 w] : Keeps w0 x.val := ⟨h.out.trans (x.below.mono h.out.size)⟩
instance Keeps.setCell (w0 w : World) (b o : Nat) (v : Value) [h : Keeps w0 w] [g : GeW w0 b] : Keeps w0 (w.setCell ⟨b, o, none⟩ v) := ⟨h.out.setCell g.out v⟩
instance GeW.size (w0 w : World) [h : Keeps w0 w] : GeW w0 w.heap.size := ⟨h.out.size⟩
instance GeW.succ (w0 : World) (b : Nat) [h : GeW w0 b] : GeW w0 (b + 1) := ⟨Nat.le_trans h.out (Nat.le_succ _)⟩

/-- A call hands back v, and leaves all that was there as it was. -/
def RetE (w : World) (v : Value) (e : Ending) (w' : World) : Prop := e = .returned v ∧ ∃ x : Ext w, w' = x.val

theorem RetE.of_below {w w' : World} {v : Value} (h : Below w.heap.size w w') : RetE w v (.returned v) w' := ⟨rfl, ⟨w', h⟩, rfl⟩
end
section
open Go.RowKit

/-- What an operation of the head has to yield in the later world 'w': the value v, and a later world. -/
def uponE (P : Program) (w : World) (v : Value) : Result Next → Prop
  | .ok (.value u) w' => w' = w ∧ u = v
  | .ok .skip w' => w' = w ∧ v = undef
  | .ok (.enter f args) w' => w' = w ∧ Calls P f args w (RetE w v)
  | _ => False

def atE (P : Program) (o : Oper) (a : Act) (W : World) (v : Value) : Prop := ∀ x : Ext W, uponE P x.val v ((execOp a.eval o).run P x.val)

/-- The walk of the head, in the text's order. -/
def wpE (P : Program) (ops : Array Oper) (W : World) (Q : Act → Prop) : List Oper → Act → Prop
  | [], a => Q a
  | o :: rest, a => if Region.wanted o (yielded ops a.tmps) then ∃ v, atE P o a W v ∧ wpE P ops W Q rest (a.put o.dst v) else wpE P ops W Q rest (a.put o.dst undef)

def looked (ops : Array Oper) (l : List Oper) (p i : Nat) (o : Oper) : Bool :=
  (o.looksAt ops).all fun t => (List.range p).all fun j =>
    ((l[j]?).bind (·.dst)) != some t || (decide (j < i) && o.after.any fun e => Region.binds .any e && e.on == j)

def headB (ops : Array Oper) (l : List Oper) (p i : Nat) : Bool :=
  match l[i]? with
  | some o => (match o.op with | .select .. => false | _ => true) && o.after.all (fun e => !Region.binds .any e || decide (e.on < i)) && o.dst.isSome &&
      ((List.range p).all fun j => j == i || ((l[j]?).bind (·.dst)) != o.dst) && looked ops l p i o
  | none => false

def floatB (l : List Oper) (p i : Nat) : Bool :=
  match l[i]? with
  | some o => o.after.all (fun e => !Region.binds .any e || decide (e.on < i)) && o.guard.isNone && o.dst.isSome && ((List.range p).all fun j => j == i || ((l[j]?).bind (·.dst)) != o.dst)
  | none => false

def tailB (l : List Oper) (p i : Nat) : Bool :=
  match l[i]? with
  | some o => (List.range p).all fun j => o.after.any fun e => Region.binds .any e && e.on == j
  | none => false

/-- The check on a region: n operations of the head, m allocations, the tail. -/
def regB (l : List Oper) (n m : Nat) : Bool :=
  decide (n + m ≤ l.length) && ((List.range n).all (headB l.toArray l (n + m))) && ((List.range m).all fun k => floatB l (n + m) (n + k)) &&
  ((List.range (l.length - (n + m))).all fun k => tailB l (n + m) (n + m + k)) &&
  Region.seqB .any l.toArray (l.length - (n + m)) (n + m) (List.replicate (n + m) true ++ List.replicate (l.length - (n + m)) false).toArray

def cnt : List Bool → Nat
  | [] => 0
  | b :: r => (if b then 0 else 1) + cnt r

theorem cnt_set : ∀ (l : List Bool) (i : Nat), l[i]? = some false → cnt (l.set i true) + 1 = cnt l
  | [], i, h => by simp at h
  | b :: r, 0, h => by simp at h; subst h; simp [cnt]; omega
  | b :: r, i + 1, h => by
    simp only [List.getElem?_cons_succ] at h
    simp only [List.set_cons_succ, cnt]
    have := cnt_set r i h
    omega

theorem cnt_app (a b : List Bool) : cnt (a ++ b) = cnt a + cnt b := by
  induction a with
  | nil => simp [cnt]
  | cons x r ih => simp only [List.cons_append, cnt, ih]; omega

theorem cnt_true (k : Nat) : cnt (List.replicate k true) = 0 := by
  induction k with
  | zero => rfl
  | succ k ih => simp [List.replicate_succ, cnt, ih]

theorem cnt_false (k : Nat) : cnt (List.replicate k false) = k := by
  induction k with
  | zero => rfl
  | succ k ih => simp only [List.replicate_succ, cnt, ih]; simp; omega

def YE (P : Program) (ops : Array Oper) (W : World) (o : Oper) (v : Value) (a : Act) : Prop :=
  (Region.wanted o (yielded ops a.tmps) = true ∧ atE P o a W v) ∨ (Region.wanted o (yielded ops a.tmps) = false ∧ v = undef)

theorem notSel {o : Oper} (h : (match o.op with | .select .. => false | _ => true) = true) : ∀ cs b, o.op ≠ .select cs b := by
  intro cs b e; rw [e] at h; cases h

/-- What an operation yields hangs on the slots alone that it looks at. -/
theorem YE.congr {P : Program} {ops : Array Oper} {W : World} {o : Oper} {v : Value} {a a' : Act} (hs : ∀ cs b, o.op ≠ .select cs b)
    (h : ∀ t, t ∈ o.looksAt ops → a'.tmps[t]? = a.tmps[t]?) (hy : YE P ops W o v a) : YE P ops W o v a' := by
  have e1 : execOp a'.eval o = execOp a.eval o := execOp_congr o hs fun x hx => by
    cases x with
    | tmp t =>
      have := h t (List.mem_append_left _ (List.mem_filterMap.2 ⟨.tmp t, by simpa using hx, rfl⟩))
      simp only [Act.eval, Array.getD_eq_getD_getElem?, this]
    | _ => rfl
  have e2 : Region.wanted o (yielded ops a'.tmps) = Region.wanted o (yielded ops a.tmps) := by
    unfold Region.wanted
    cases hg : o.guard with
    | none => rfl
    | some gw =>
      obtain ⟨g, want⟩ := gw
      have hy : yielded ops a'.tmps g = yielded ops a.tmps g := by
        unfold yielded
        cases ht : (ops[g]?).bind (·.dst) with
        | none => rfl
        | some t => simp only [Option.bind_some, h t (by simp [Oper.looksAt, hg, ht])]
      simp only [hy]
  unfold YE atE at *
  rw [e1, e2]
  exact hy

theorem put_at (a : Act) (d : Tmp) (v : Value) : (a.put (some d) v).tmps[d]? = (a.tmps[d]?).map fun _ => v := by
  simp only [Act.put]
  by_cases h : d < a.tmps.size
  · simp [h]
  · simp [h]

theorem put_ne (a : Act) (d t : Tmp) (v : Value) (h : d ≠ t) : (a.put (some d) v).tmps[t]? = a.tmps[t]? := by
  simp [Act.put, Array.getElem?_setIfInBounds_ne h]

theorem put_size (a : Act) (d : Option Tmp) (v : Value) : (a.put d v).tmps.size = a.tmps.size := by
  cases d <;> simp [Act.put]

theorem put_defs (a : Act) (d : Option Tmp) (v : Value) : (a.put d v).defers = a.defers := by
  cases d <;> simp [Act.put]

/-- The frame at the head's end, and what each operation yields there. -/
theorem head_frame {P : Program} {ops : Array Oper} {W : World} {Q : Act → Prop} (l : List Oper) (p : Nat) : ∀ (h : List Oper) (k : Nat) (a : Act),
    (∀ j, j < h.length → h[j]? = l[k + j]?) → (∀ j, j < h.length → headB ops l p (k + j) = true) → k + h.length ≤ p → wpE P ops W Q h a →
    ∃ F : Act, Q F ∧ F.defers = a.defers ∧ F.tmps.size = a.tmps.size ∧
      (∀ t, (∀ j o, k ≤ j → j < k + h.length → l[j]? = some o → o.dst ≠ some t) → F.tmps[t]? = a.tmps[t]?) ∧
      (∀ j o d, k ≤ j → j < k + h.length → l[j]? = some o → o.dst = some d → ∃ v, YE P ops W o v F ∧ F.tmps[d]? = (a.tmps[d]?).map fun _ => v)
  | [], k, a, _, _, _, hw => ⟨a, hw, rfl, rfl, fun _ _ => rfl, fun j o d h1 h2 => by simp at h2; omega⟩
  | o :: h, k, a, hl, hB, hp, hw => by
    have h0 : l[k]? = some o := by simpa using (hl 0 (by simp)).symm
    have hB0 : headB ops l p k = true := hB 0 (by simp)
    simp only [headB, h0, Bool.and_eq_true] at hB0
    obtain ⟨⟨⟨⟨hsel, _⟩, hd⟩, hdd⟩, hlook⟩ := hB0
    obtain ⟨d, hd⟩ := Option.isSome_iff_exists.1 hd
    have hlen : (o :: h).length = h.length + 1 := rfl
    have key : ∃ v, YE P ops W o v a ∧ wpE P ops W Q h (a.put o.dst v) := by
      unfold wpE at hw
      by_cases hq : Region.wanted o (yielded ops a.tmps) = true
      · rw [if_pos hq] at hw; obtain ⟨v, h1, h2⟩ := hw; exact ⟨v, .inl ⟨hq, h1⟩, h2⟩
      · rw [if_neg hq] at hw; exact ⟨undef, .inr ⟨by simpa using hq, rfl⟩, hw⟩
    obtain ⟨v, hy, hw'⟩ := key
    obtain ⟨F, hQ, hdef, hsz, hsame, hall⟩ := head_frame l p h (k + 1) (a.put o.dst v)
      (fun j hj => by have := hl (j + 1) (by simp; omega); simpa [Nat.add_assoc, Nat.add_comm 1 j] using this)
      (fun j hj => by have := hB (j + 1) (by simp; omega); simpa [Nat.add_assoc, Nat.add_comm 1 j] using this) (by simp at hp; omega) hw'
    rw [put_defs] at hdef
    rw [put_size] at hsz
    -- a slot of this region that comes later than k
    have later : ∀ j o', k + 1 ≤ j → j < k + 1 + h.length → l[j]? = some o' → o'.dst ≠ some d := by
      intro j o' h1 h2 h3 h4
      have := List.all_eq_true.1 hdd j (List.mem_range.2 (by simp at hp; omega))
      simp only [Bool.or_eq_true, beq_iff_eq, bne_iff_ne, ne_eq, h3, Option.bind_some, h4, hd, not_true_eq_false, or_false] at this
      omega
    have atd : F.tmps[d]? = (a.tmps[d]?).map fun _ => v := by
      rw [hsame d (fun j o' h1 h2 h3 => later j o' h1 h2 h3), hd, put_at]
    refine ⟨F, hQ, hdef, hsz, fun t ht => ?_, fun j o' d' h1 h2 h3 h4 => ?_⟩
    · rw [hsame t (fun j o' h1 h2 h3 => ht j o' (by omega) (by simp; omega) h3), hd, put_ne]
      intro e; subst e
      exact ht k o (Nat.le_refl _) (by simp) h0 hd
    · by_cases hjk : j = k
      · subst hjk
        rw [h0] at h3; cases h3
        rw [hd] at h4; cases h4
        refine ⟨v, hy.congr (notSel hsel) (fun t ht => ?_), atd⟩
        -- the slots that it looks at are none of this one's or later ones'
        have hno : ∀ j' o', j ≤ j' → j' < j + 1 + h.length → l[j']? = some o' → o'.dst ≠ some t := by
          intro j' o'' g1 g2 g3 g4
          have := List.all_eq_true.1 (List.all_eq_true.1 hlook t ht) j' (List.mem_range.2 (by simp at hp; omega))
          simp only [Bool.or_eq_true, bne_iff_ne, ne_eq, g3, Option.bind_some, g4, not_true_eq_false, Bool.and_eq_true, decide_eq_true_eq, false_or] at this
          omega
        rw [hsame t (fun j' o' g1 g2 g3 => hno j' o' (by omega) g2 g3), hd, put_ne]
        intro e; subst e
        exact hno j o (Nat.le_refl _) (by omega) h0 hd
      · obtain ⟨u, hu1, hu2⟩ := hall j o' d' (by omega) (by simp at h2; omega) h3 h4
        refine ⟨u, hu1, ?_⟩
        rw [hu2]
        have hne : d ≠ d' := fun e => later j o' (by omega) (by simp at h2; omega) h3 (by rw [h4, e])
        rw [hd, put_ne _ _ _ _ hne]

/-- An allocation: a pointer to the new block. -/
def FloatOK (P : Program) (o : Oper) (ob : Obj) : Prop :=
  ∀ (ρ : Operand → Value) (w : World), (execOp ρ o).run P w = .ok (.value (.pointer (some ⟨w.heap.size, 0, none⟩))) (w.alloc ob)

/-- The frame with the allocations' pointers in it. -/
def putAll : Act → List Oper → List Nat → Act
  | a, o :: os, b :: bs => putAll (a.put o.dst (.pointer (some ⟨b, 0, none⟩))) os bs
  | a, _, _ => a

structure Inv (P : Program) (l : List Oper) (n m : Nat) (W : World) (objs : List Obj) (a0 F : Act) (β : Nat → Nat) (listed : Array Bool) (a : Act) (w : World) : Prop where
  lsize : listed.size = l.length
  defers : a.defers = a0.defers
  size : a.tmps.size = a0.tmps.size
  below : Below W.heap.size W w
  tail : ∀ i, n + m ≤ i → i < l.length → listed.getD i false = false
  base : ∀ t, (∀ i o, i < n + m → l[i]? = some o → listed.getD i false = true → o.dst ≠ some t) → a.tmps[t]? = a0.tmps[t]?
  head : ∀ i o d, i < n → l[i]? = some o → o.dst = some d → listed.getD i false = true → a.tmps[d]? = F.tmps[d]?
  float : ∀ k o d ob, k < m → l[n + k]? = some o → o.dst = some d → objs[k]? = some ob → listed.getD (n + k) false = true →
    a.tmps[d]? = (a0.tmps[d]?).map (fun _ => .pointer (some ⟨β k, 0, none⟩)) ∧ W.heap.size ≤ β k ∧ β k < w.heap.size ∧ w.heap[β k]? = some ob
  inj : ∀ k k', k < m → k' < m → listed.getD (n + k) false = true → listed.getD (n + k') false = true → β k = β k' → k = k'

theorem getD_set_self {listed : Array Bool} {i : Nat} (h : i < listed.size) : (listed.setIfInBounds i true).getD i false = true := by simp [h]

theorem getD_tf {listed : Array Bool} {i : Nat} (h : listed.getD i true = false) : i < listed.size ∧ listed.getD i false = false := by
  by_cases hi : i < listed.size
  · simp [hi] at h ⊢; exact h
  · simp [hi] at h

theorem getD_ft {listed : Array Bool} {i : Nat} (hi : i < listed.size) (h : listed.getD i false = false) : listed.getD i true = false := by
  simp [hi] at h ⊢; exact h

theorem putAll_defers : ∀ (os : List Oper) (bs : List Nat) (a : Act), (putAll a os bs).defers = a.defers
  | [], _, _ => by simp [putAll]
  | _ :: _, [], _ => by simp [putAll]
  | o :: os, b :: bs, a => by simp only [putAll]; rw [putAll_defers os bs, put_defs]

theorem putAll_ne : ∀ (os : List Oper) (bs : List Nat) (a : Act) (t : Tmp), (∀ (k : Nat) (o : Oper), os[k]? = some o → o.dst ≠ some t) → (putAll a os bs).tmps[t]? = a.tmps[t]?
  | [], _, _, _, _ => by simp [putAll]
  | _ :: _, [], _, _, _ => by simp [putAll]
  | o :: os, b :: bs, a, t, h => by
    simp only [putAll]
    rw [putAll_ne os bs _ t (fun k o' hk => h (k + 1) o' (by simpa using hk))]
    have h0 := h 0 o (by simp)
    cases hd : o.dst with
    | none => rfl
    | some d => exact put_ne _ _ _ _ (fun e => h0 (by rw [hd, e]))

theorem putAll_at : ∀ (os : List Oper) (bs : List Nat) (a : Act) (k : Nat) (o : Oper) (b : Nat) (d : Tmp), os[k]? = some o → bs[k]? = some b → o.dst = some d →
    (∀ (k' : Nat) (o' : Oper), k' ≠ k → os[k']? = some o' → o'.dst ≠ some d) → (putAll a os bs).tmps[d]? = (a.tmps[d]?).map fun _ => .pointer (some ⟨b, 0, none⟩)
  | [], _, _, _, _, _, _, h, _, _, _ => by simp at h
  | _ :: _, [], _, _, _, _, _, _, h, _, _ => by simp at h
  | o :: os, b :: bs, a, 0, o', b', d, h1, h2, h3, h4 => by
    simp at h1 h2
    subst h1; subst h2
    simp only [putAll]
    rw [putAll_ne os bs _ d (fun k o' hk => h4 (k + 1) o' (by omega) (by simpa using hk)), h3, put_at]
  | o :: os, b :: bs, a, k + 1, o', b', d, h1, h2, h3, h4 => by
    simp only [putAll]
    rw [putAll_at os bs _ k o' b' d (by simpa using h1) (by simpa using h2) h3 (fun k' o'' hk h => h4 (k' + 1) o'' (by omega) (by simpa using h))]
    have h0 := h4 0 o (by omega) (by simp)
    cases hd : o.dst with
    | none => rfl
    | some d' => rw [put_ne _ _ _ _ (fun e => h0 (by rw [hd, e]))]

/-- One operation of the head comes up. -/
theorem wpOp_of_YE {P : Program} {ops : Array Oper} {Q : Exit → Act → World → Prop} {W : World} {i : Nat} {o : Oper} {v : Value} {a : Act} {w : World} {K : Act → World → Prop}
    (ho : ops[i]? = some o) (hw : Below W.heap.size W w) (hy : YE P ops W o v a) (hK : ∀ w', Below w.heap.size w w' → K (a.put o.dst v) w') : wpOp P ops Q i K a w := by
  unfold wpOp
  simp only [ho]
  rcases hy with ⟨h1, h2⟩ | ⟨h1, h2⟩
  · simp only [h1, if_true]
    left
    have := h2 ⟨w, hw⟩
    unfold Oper.wp
    generalize (execOp a.eval o).run P w = r at *
    cases r with
    | ok nx w' =>
      cases nx <;> simp only [uponE] at this <;> simp only [Oper.upon]
      case value u => obtain ⟨e1, e2⟩ := this; rw [e1, e2]; exact hK _ (Below.refl _ _)
      case skip => obtain ⟨e1, e2⟩ := this; rw [e1, ← e2]; exact hK _ (Below.refl _ _)
      case enter f args =>
        obtain ⟨e1, hc⟩ := this
        rw [e1]
        exact hc.mono fun e w'' ⟨he, y, hy⟩ => by subst he; subst hy; exact hK _ y.below
    | halt x w' => simp only [uponE] at this
  · simp only [h1, Bool.false_eq_true, if_false]
    subst h2
    exact hK _ (Below.refl _ _)

theorem cnt_zero : ∀ (l : List Bool), cnt l = 0 → ∀ i : Nat, l[i]? ≠ some false
  | [], _, i => by simp
  | b :: r, h, 0 => by intro e; simp at e; subst e; simp [cnt] at h
  | b :: r, h, i + 1 => by
    simp only [cnt] at h
    simpa using cnt_zero r (by omega) i

theorem least_false (f : Nat → Bool) : ∀ p : Nat, (∃ j, j < p ∧ f j = false) → ∃ j, j < p ∧ f j = false ∧ ∀ k, k < j → f k = true
  | 0, ⟨j, h, _⟩ => by omega
  | p + 1, ⟨j, h, hf⟩ => by
    by_cases hx : ∃ j, j < p ∧ f j = false
    · obtain ⟨k, h1, h2, h3⟩ := least_false f p hx
      exact ⟨k, by omega, h2, h3⟩
    · have hjp : j = p := Decidable.byContradiction fun hne => hx ⟨j, by omega, hf⟩
      exact ⟨j, h, hf, fun k hk => by cases hfk : f k with | true => rfl | false => exact (hx ⟨k, by omega, hfk⟩).elim⟩

theorem any_edge {o : Oper} {j : Nat} (h : (o.after.any fun e => Region.binds .any e && e.on == j) = true) : ∃ e ∈ o.after, Region.binds .any e = true ∧ e.on = j := by
  obtain ⟨e, he, h2⟩ := Array.any_eq_true'.1 h
  simp only [Bool.and_eq_true, beq_iff_eq] at h2
  exact ⟨e, he, h2⟩

theorem all_edges {o : Oper} {i : Nat} (h : (o.after.all fun e => !Region.binds .any e || decide (e.on < i)) = true) : ∀ e ∈ o.after, Region.binds .any e = true → e.on < i := by
  intro e he hb
  have := Array.all_eq_true_iff_forall_mem.1 h e he
  simpa [hb] using this

theorem getElem?_of_getD {listed : Array Bool} {i : Nat} {b : Bool} (hi : i < listed.size) (h : listed.getD i false = b) : listed.toList[i]? = some b := by
  simp [hi] at h ⊢
  exact h

set_option maxHeartbeats 1000000 in
/-- From a state of the invariant on, whatever order is picked. -/
theorem any_of_inv {P : Program} {l : List Oper} {n m : Nat} {W : World} {objs : List Obj} {a0 F : Act} {Q : Exit → Act → World → Prop}
    (hB : regB l n m = true) (hobjs : objs.length = m) (hfl : ∀ k o ob, k < m → l[n + k]? = some o → objs[k]? = some ob → FloatOK P o ob)
    (hF1 : F.defers = a0.defers) (_hF2 : F.tmps.size = a0.tmps.size)
    (hF3 : ∀ t, (∀ j o, 0 ≤ j → j < 0 + n → l[j]? = some o → o.dst ≠ some t) → F.tmps[t]? = a0.tmps[t]?)
    (hF4 : ∀ j o d, 0 ≤ j → j < 0 + n → l[j]? = some o → o.dst = some d → ∃ v, YE P l.toArray W o v F ∧ F.tmps[d]? = (a0.tmps[d]?).map fun _ => v)
    (hK : ∀ (w' : World) (bs : List Nat), Below W.heap.size W w' → bs.length = m → bs.Nodup →
      (∀ (k b : Nat) (ob : Obj), bs[k]? = some b → objs[k]? = some ob → W.heap.size ≤ b ∧ b < w'.heap.size ∧ w'.heap[b]? = some ob) →
      wpList P l.toArray Q (l.drop (n + m)) (putAll F ((l.drop n).take m) bs) w') :
    ∀ (fuel : Nat) (listed : Array Bool) (a : Act) (w : World) (β : Nat → Nat), Inv P l n m W objs a0 F β listed a w → cnt listed.toList = fuel →
      wpAny P .any l.toArray Q fuel listed a w := by
  simp only [regB, Bool.and_eq_true, decide_eq_true_eq] at hB
  obtain ⟨⟨⟨⟨hlen, hBh⟩, hBf⟩, hBt⟩, hseq⟩ := hB
  have hBh' : ∀ i, i < n → headB l.toArray l (n + m) i = true := fun i hi => List.all_eq_true.1 hBh i (List.mem_range.2 hi)
  have hBf' : ∀ k, k < m → floatB l (n + m) (n + k) = true := fun i hi => List.all_eq_true.1 hBf i (List.mem_range.2 hi)
  have hBt' : ∀ i, n + m ≤ i → i < l.length → tailB l (n + m) i = true := fun i h1 h2 => by
    have := List.all_eq_true.1 hBt (i - (n + m)) (List.mem_range.2 (by omega))
    rwa [show n + m + (i - (n + m)) = i by omega] at this
  -- all of the slots that the region's first n + m operations write are apart
  have apart : ∀ i j o o' d, i < n + m → j < n + m → i ≠ j → l[i]? = some o → l[j]? = some o' → o.dst = some d → o'.dst ≠ some d := by
    intro i j o o' d hi hj hne h1 h2 h3 h4
    have hall : ((List.range (n + m)).all fun j => j == i || ((l[j]?).bind (·.dst)) != o.dst) = true := by
      by_cases hin : i < n
      · have := hBh' i hin
        simp only [headB, h1, Bool.and_eq_true] at this
        exact this.1.2
      · have := hBf' (i - n) (by omega)
        rw [show n + (i - n) = i by omega] at this
        simp only [floatB, h1, Bool.and_eq_true] at this
        exact this.2
    have := List.all_eq_true.1 hall j (List.mem_range.2 hj)
    simp only [Bool.or_eq_true, beq_iff_eq, bne_iff_ne, ne_eq, h2, Option.bind_some, h4, h3, not_true_eq_false, or_false] at this
    exact hne this.symm
  have edges : ∀ i o, i < n + m → l[i]? = some o → ∀ e ∈ o.after, Region.binds .any e = true → e.on < i := by
    intro i o hi h1
    by_cases hin : i < n
    · have := hBh' i hin
      simp only [headB, h1, Bool.and_eq_true] at this
      exact all_edges this.1.1.1.2
    · have := hBf' (i - n) (by omega)
      rw [show n + (i - n) = i by omega] at this
      simp only [floatB, h1, Bool.and_eq_true] at this
      exact all_edges this.1.1.1
  have flo : ∀ k, ((l.drop n).take m)[k]? = if k < m then l[n + k]? else none := by
    intro k
    by_cases hk : k < m
    · rw [if_pos hk, List.getElem?_take_of_lt hk, List.getElem?_drop]
    · rw [if_neg hk, List.getElem?_eq_none (by simp; omega)]
  have done : ∀ (fuel : Nat) (listed : Array Bool) (a : Act) (w : World) (β : Nat → Nat), Inv P l n m W objs a0 F β listed a w → cnt listed.toList = fuel →
      (∀ i, i < n + m → listed.getD i false = true) → wpAny P .any l.toArray Q fuel listed a w := by
    intro fuel listed a w β inv hc hall
    have hlist : listed.toList = List.replicate (n + m) true ++ List.replicate (l.length - (n + m)) false := by
      apply List.ext_getElem?
      intro i
      by_cases h1 : i < n + m
      · rw [getElem?_of_getD (by rw [inv.lsize]; omega) (hall i h1), List.getElem?_append_left (by simp; omega)]
        simp [h1]
      · by_cases h2 : i < l.length
        · rw [getElem?_of_getD (by rw [inv.lsize]; exact h2) (inv.tail i (by omega) h2), List.getElem?_append_right (by simp; omega), List.length_replicate, List.getElem?_replicate, if_pos (by omega)]
        · rw [List.getElem?_eq_none (by simp [inv.lsize]; omega), List.getElem?_eq_none (by simp; omega)]
    have hlist' : listed = (List.replicate (n + m) true ++ List.replicate (l.length - (n + m)) false).toArray := by
      rw [← hlist]
    have hfuel : fuel = (l.drop (n + m)).length := by
      rw [← hc, hlist, cnt_app, cnt_true, cnt_false]; simp
    subst hfuel
    have hframe : a = putAll F ((l.drop n).take m) ((List.range m).map β) := by
      have e1 : a.tmps = (putAll F ((l.drop n).take m) ((List.range m).map β)).tmps := by
        apply Array.ext_getElem?
        intro t
        by_cases hh : ∃ i o, i < n ∧ l[i]? = some o ∧ o.dst = some t
        · obtain ⟨i, o, hi, ho, hd⟩ := hh
          rw [inv.head i o t hi ho hd (hall i (by omega)), putAll_ne]
          intro k o' hk
          rw [flo] at hk
          by_cases hkm : k < m
          · rw [if_pos hkm] at hk
            exact apart i (n + k) o o' t (by omega) (by omega) (by omega) ho hk hd
          · rw [if_neg hkm] at hk; cases hk
        · have hFt : F.tmps[t]? = a0.tmps[t]? := hF3 t fun j o _ hj ho hd => hh ⟨j, o, by omega, ho, hd⟩
          by_cases hf : ∃ k o, k < m ∧ l[n + k]? = some o ∧ o.dst = some t
          · obtain ⟨k, o, hk, ho, hd⟩ := hf
            obtain ⟨ob, hob⟩ : ∃ ob, objs[k]? = some ob := ⟨objs[k]'(by omega), by simp⟩
            rw [(inv.float k o t ob hk ho hd hob (hall (n + k) (by omega))).1,
              putAll_at _ _ _ k o (β k) t (by rw [flo, if_pos hk]; exact ho) (by simp [hk]) hd, hFt]
            intro k' o' hne hk'
            rw [flo] at hk'
            by_cases hkm : k' < m
            · rw [if_pos hkm] at hk'
              exact apart (n + k) (n + k') o o' t (by omega) (by omega) (by omega) ho hk' hd
            · rw [if_neg hkm] at hk'; cases hk'
          · rw [putAll_ne, hFt]
            · apply inv.base
              intro i o hi ho _ hd
              by_cases hin : i < n
              · exact hh ⟨i, o, hin, ho, hd⟩
              · exact hf ⟨i - n, o, by omega, by rw [show n + (i - n) = i by omega]; exact ho, hd⟩
            · intro k o hk hd
              rw [flo] at hk
              by_cases hkm : k < m
              · rw [if_pos hkm] at hk
                exact hf ⟨k, o, hkm, hk, hd⟩
              · rw [if_neg hkm] at hk; cases hk
      have e2 : a.defers = (putAll F ((l.drop n).take m) ((List.range m).map β)).defers := by rw [putAll_defers, hF1, inv.defers]
      generalize putAll F ((l.drop n).take m) ((List.range m).map β) = G at e1 e2
      cases a; cases G; simp only at e1 e2; rw [e1, e2]
    rw [hframe]
    refine wpAny_of_seq (l.drop (n + m)) (n + m) listed _ w (fun j => by simp) (by rw [hlist']; simpa using hseq) (hK w _ inv.below (by simp) ?_ ?_)
    · rw [List.nodup_iff_pairwise_ne, List.pairwise_map]
      refine List.Pairwise.imp_of_mem (R := fun a b => a ≠ b) (fun {x y} hx hy hne e => hne ?_) (List.nodup_iff_pairwise_ne.1 List.nodup_range)
      have hx' := List.mem_range.1 hx
      have hy' := List.mem_range.1 hy
      exact inv.inj x y hx' hy' (hall _ (by omega)) (hall _ (by omega)) e
    · intro k b ob hb hob
      have hk : k < m := by
        have := (List.getElem?_eq_some_iff.1 hob).1
        omega
      have : b = β k := by simp [hk] at hb; exact hb.symm
      subst this
      obtain ⟨o, ho⟩ : ∃ o, l[n + k]? = some o := ⟨l[n + k]'(by omega), by simp⟩
      have hbk := hBf' k hk
      simp only [floatB, ho, Bool.and_eq_true] at hbk
      obtain ⟨d, hd⟩ := Option.isSome_iff_exists.1 hbk.1.2
      exact (inv.float k o d ob hk ho hd hob (hall _ (by omega))).2
  intro fuel
  induction fuel with
  | zero =>
    intro listed a w β inv hc
    have hz := cnt_zero _ hc
    refine done 0 listed a w β inv hc fun i hi => ?_
    cases hb : listed.getD i false with
    | true => rfl
    | false => exact (hz i (getElem?_of_getD (by rw [inv.lsize]; omega) hb)).elim
  | succ fuel ih =>
    intro listed a w β inv hc
    by_cases hall : ∀ i, i < n + m → listed.getD i false = true
    · exact done _ listed a w β inv hc hall
    · have hex : ∃ j, j < n + m ∧ listed.getD j false = false := Decidable.byContradiction fun hne => hall fun i hi => by
        cases hb : listed.getD i false with
        | true => rfl
        | false => exact (hne ⟨i, hi, hb⟩).elim
      obtain ⟨j0, hj0, hj1, hj2⟩ := least_false _ _ hex
      refine ⟨fun h0 => ?_, fun i hi => ?_⟩
      · -- the least operation that has not come up may come up
        obtain ⟨o, ho⟩ : ∃ o, l[j0]? = some o := ⟨l[j0]'(by omega), by simp⟩
        have : j0 ∈ Region.ready .any l.toArray listed := mem_ready.2 ⟨getD_ft (by rw [inv.lsize]; omega) hj1, o, by simpa using ho, fun e he hb => hj2 _ (edges j0 o hj0 ho e he hb)⟩
        rw [h0] at this; cases this
      · obtain ⟨hi1, o, ho, hdeps⟩ := mem_ready.1 hi
        obtain ⟨hisz, hi1'⟩ := getD_tf hi1
        have ho' : l[i]? = some o := by simpa using ho
        rw [inv.lsize] at hisz
        have hip : i < n + m := by
          rcases Nat.lt_or_ge i (n + m) with h | h
          · exact h
          · have ht := hBt' i h hisz
            simp only [tailB, ho'] at ht
            obtain ⟨e, he, hb, hon⟩ := any_edge (List.all_eq_true.1 ht j0 (List.mem_range.2 hj0))
            have := hdeps e he hb
            rw [hon, hj1] at this
            cases this
        have hcnt : cnt (listed.setIfInBounds i true).toList = fuel := by
          have := cnt_set listed.toList i (getElem?_of_getD (by rw [inv.lsize]; exact hisz) hi1')
          simp only [Array.toList_setIfInBounds]
          omega
        have old : ∀ j, j ≠ i → (listed.setIfInBounds i true).getD j false = listed.getD j false := fun j hj => getD_set_ne false (Ne.symm hj)
        have new : (listed.setIfInBounds i true).getD i false = true := getD_set_self (by rw [inv.lsize]; exact hisz)
        by_cases hin : i < n
        · have hBi := hBh' i hin
          simp only [headB, ho', Bool.and_eq_true] at hBi
          obtain ⟨⟨⟨⟨hsel, _⟩, hd⟩, _⟩, hlook⟩ := hBi
          obtain ⟨d, hd⟩ := Option.isSome_iff_exists.1 hd
          obtain ⟨v, hy, hFd⟩ := hF4 i o d (Nat.zero_le _) (by omega) ho' hd
          have hya : YE P l.toArray W o v a := hy.congr (notSel hsel) fun t ht => by
            have hlt := List.all_eq_true.1 hlook t ht
            by_cases hw : ∃ j o', j < n + m ∧ l[j]? = some o' ∧ o'.dst = some t
            · obtain ⟨j, o', hj, ho'', hd'⟩ := hw
              have := List.all_eq_true.1 hlt j (List.mem_range.2 hj)
              simp only [Bool.or_eq_true, bne_iff_ne, ne_eq, ho'', Option.bind_some, hd', not_true_eq_false, Bool.and_eq_true, decide_eq_true_eq, false_or] at this
              obtain ⟨e, he, hb, hon⟩ := any_edge this.2
              have hl := hdeps e he hb
              rw [hon] at hl
              exact inv.head j o' t (by omega) ho'' hd' hl
            · rw [hF3 t fun j o' _ hj h1 h2 => hw ⟨j, o', by omega, h1, h2⟩]
              exact inv.base t fun j o' hj h1 _ h2 => hw ⟨j, o', hj, h1, h2⟩
          refine wpOp_of_YE ho inv.below hya fun w' hbw => ih _ _ _ β ?_ hcnt
          refine ⟨by simp [inv.lsize], by rw [put_defs, inv.defers], by rw [put_size, inv.size], inv.below.trans (hbw.mono inv.below.size), ?_, ?_, ?_, ?_, ?_⟩
          · intro k h1 h2
            rw [old k (by omega)]
            exact inv.tail k h1 h2
          · intro t ht
            rw [hd, put_ne]
            · refine inv.base t fun k o' hk h1 h2 h3 => ?_
              by_cases hki : k = i
              · subst hki
                rw [hi1'] at h2; cases h2
              · exact ht k o' hk h1 (by rw [old k hki]; exact h2) h3
            · intro e; subst e
              exact ht i o (by omega) ho' new hd
          · intro k o' d' hk h1 h2 h3
            by_cases hki : k = i
            · subst hki
              rw [ho'] at h1; cases h1
              rw [hd] at h2; cases h2
              have hsame : (a.tmps[d]?).map (fun _ => v) = (a0.tmps[d]?).map (fun _ => v) := by
                by_cases hz : d < a.tmps.size
                · have hz' : d < a0.tmps.size := by rw [← inv.size]; exact hz
                  simp [hz, hz']
                · have hz' : ¬ d < a0.tmps.size := by rw [← inv.size]; exact hz
                  simp [hz, hz']
              rw [hd, put_at, hFd, hsame]
            · rw [hd, put_ne _ _ _ _ (fun e => apart i k o o' d (by omega) (by omega) (Ne.symm hki) ho' h1 hd (by rw [h2, e]))]
              exact inv.head k o' d' hk h1 h2 (by rw [← old k hki]; exact h3)
          · intro k o' d' ob hk h1 h2 h3 h4
            have hki : n + k ≠ i := by omega
            obtain ⟨g1, g2, g3, g4⟩ := inv.float k o' d' ob hk h1 h2 h3 (by rw [← old _ hki]; exact h4)
            refine ⟨?_, g2, Nat.lt_of_lt_of_le g3 hbw.size, by rw [hbw.block _ g3]; exact g4⟩
            rw [hd, put_ne _ _ _ _ (fun e => apart i (n + k) o o' d (by omega) (by omega) (by omega) ho' h1 hd (by rw [h2, e]))]
            exact g1
          · intro k k' hk hk' h1 h2 h3
            exact inv.inj k k' hk hk' (by rw [← old _ (by omega)]; exact h1) (by rw [← old _ (by omega)]; exact h2) h3
        · -- an allocation
          obtain ⟨k, rfl⟩ : ∃ k, i = n + k := ⟨i - n, by omega⟩
          have hkm : k < m := by omega
          have hBi := hBf' k hkm
          simp only [floatB, ho', Bool.and_eq_true] at hBi
          obtain ⟨⟨⟨_, hg⟩, hd⟩, _⟩ := hBi
          obtain ⟨d, hd⟩ := Option.isSome_iff_exists.1 hd
          obtain ⟨ob, hob⟩ : ∃ ob, objs[k]? = some ob := ⟨objs[k]'(by omega), by simp⟩
          have hrun := hfl k o ob hkm ho' hob a.eval w
          have hgn : o.guard = none := by simpa using hg
          unfold wpOp
          simp only [ho, Region.wanted, hgn, if_true]
          left
          unfold Oper.wp
          rw [hrun, Oper.upon_value]
          have hbw : Below w.heap.size w (w.alloc ob) := (Below.refl _ _).alloc (Nat.le_refl _) _
          have hsz : (w.alloc ob).heap.size = w.heap.size + 1 := by simp
          refine ih _ _ _ (fun k' => if k' = k then w.heap.size else β k') ?_ hcnt
          refine ⟨by simp [inv.lsize], by rw [put_defs, inv.defers], by rw [put_size, inv.size], inv.below.trans (hbw.mono inv.below.size), ?_, ?_, ?_, ?_, ?_⟩
          · intro k' h1 h2
            rw [old k' (by omega)]
            exact inv.tail k' h1 h2
          · intro t ht
            rw [hd, put_ne]
            · refine inv.base t fun k' o' hk h1 h2 h3 => ?_
              by_cases hki : k' = n + k
              · subst hki
                rw [hi1'] at h2; cases h2
              · exact ht k' o' hk h1 (by rw [old k' hki]; exact h2) h3
            · intro e; subst e
              exact ht (n + k) o (by omega) ho' new hd
          · intro k' o' d' hk h1 h2 h3
            have hki : k' ≠ n + k := by omega
            rw [hd, put_ne _ _ _ _ (fun e => apart (n + k) k' o o' d (by omega) (by omega) (by omega) ho' h1 hd (by rw [h2, e]))]
            exact inv.head k' o' d' hk h1 h2 (by rw [← old k' hki]; exact h3)
          · intro k' o' d' ob' hk h1 h2 h3 h4
            by_cases hki : k' = k
            · subst hki
              rw [ho'] at h1; cases h1
              rw [hd] at h2; cases h2
              rw [hob] at h3; cases h3
              have hsame : (a.tmps[d]?).map (fun _ => Value.pointer (some ⟨w.heap.size, 0, none⟩)) = (a0.tmps[d]?).map (fun _ => Value.pointer (some ⟨w.heap.size, 0, none⟩)) := by
                by_cases hz : d < a.tmps.size
                · have hz' : d < a0.tmps.size := by rw [← inv.size]; exact hz
                  simp [hz, hz']
                · have hz' : ¬ d < a0.tmps.size := by rw [← inv.size]; exact hz
                  simp [hz, hz']
              rw [hd, put_at, hsame]
              simp only [if_true]
              exact ⟨trivial, inv.below.size, by omega, (MapKept.heap_alloc w ob).1⟩
            · obtain ⟨g1, g2, g3, g4⟩ := inv.float k' o' d' ob' hk h1 h2 h3 (by rw [← old _ (by omega)]; exact h4)
              simp only [if_neg hki]
              refine ⟨?_, g2, by omega, by rw [hbw.block _ g3]; exact g4⟩
              rw [hd, put_ne _ _ _ _ (fun e => apart (n + k) (n + k') o o' d (by omega) (by omega) (by omega) ho' h1 hd (by rw [h2, e]))]
              exact g1
          · intro k1 k2 hk1 hk2 h1 h2 h3
            have lt : ∀ k', k' < m → k' ≠ k → listed.getD (n + k') false = true → β k' < w.heap.size := fun k' hk' hne hl => by
              obtain ⟨o', ho''⟩ : ∃ o, l[n + k']? = some o := ⟨l[n + k']'(by omega), by simp⟩
              obtain ⟨ob', hob'⟩ : ∃ ob, objs[k']? = some ob := ⟨objs[k']'(by omega), by simp⟩
              have hb' := hBf' k' hk'
              simp only [floatB, ho'', Bool.and_eq_true] at hb'
              obtain ⟨d', hd'⟩ := Option.isSome_iff_exists.1 hb'.1.2
              exact (inv.float k' o' d' ob' hk' ho'' hd' hob' hl).2.2.1
            by_cases e1 : k1 = k
            · by_cases e2 : k2 = k
              · rw [e1, e2]
              · have := lt k2 hk2 e2 (by rw [← old _ (by omega)]; exact h2)
                simp only [if_pos e1, if_neg e2] at h3
                omega
            · have l1 := lt k1 hk1 e1 (by rw [← old _ (by omega)]; exact h1)
              by_cases e2 : k2 = k
              · simp only [if_neg e1, if_pos e2] at h3
                omega
              · simp only [if_neg e1, if_neg e2] at h3
                exact inv.inj k1 k2 hk1 hk2 (by rw [← old _ (by omega)]; exact h1) (by rw [← old _ (by omega)]; exact h2) h3

theorem world_drawn (w : World) : Below w.heap.size w { w with drawn := w.drawn + 1 } := ⟨rfl, rfl, rfl, Nat.le_refl _, fun _ _ => rfl⟩

section
variable {P : Program} {id : Nat} {Q : Exit → Act → World → Prop} {a : Act} {w : World} {l : List Oper}

theorem wp_region_E (n m : Nat) (objs : List Obj) (hm : P.follows .mixedOrders = true) (hB : regB l n m = true) (hobjs : objs.length = m)
    (hfl : ∀ k o ob, k < m → l[n + k]? = some o → objs[k]? = some ob → FloatOK P o ob)
    (h : wpE P l.toArray w (fun F => ∀ (w' : World) (bs : List Nat), Below w.heap.size w w' → bs.length = m → bs.Nodup →
      (∀ (k b : Nat) (ob : Obj), bs[k]? = some b → objs[k]? = some ob → w.heap.size ≤ b ∧ b < w'.heap.size ∧ w'.heap[b]? = some ob) →
      wpList P l.toArray Q (l.drop (n + m)) (putAll F ((l.drop n).take m) bs) w') (l.take n) a) : (Code.region id l.toArray true).wp P Q a w := by
  refine wp_region_any hm ?_
  have hB' := hB
  simp only [regB, Bool.and_eq_true, decide_eq_true_eq] at hB'
  obtain ⟨⟨⟨⟨hlen, hBh⟩, _⟩, _⟩, _⟩ := hB'
  have hl : (l.take n).length = n := by simp; omega
  obtain ⟨F, hK, h1, h2, h3, h4⟩ := head_frame l (n + m) (l.take n) 0 a
    (fun j hj => by rw [hl] at hj; simp [hj])
    (fun j hj => by rw [hl] at hj; simpa using List.all_eq_true.1 hBh j (List.mem_range.2 hj)) (by omega) h
  rw [hl] at h3 h4
  refine any_of_inv (n := n) (m := m) (W := w) (objs := objs) (a0 := a) (F := F) hB hobjs hfl h1 h2 h3 h4 hK _ _ _ _ (fun k => k) ?_ ?_
  · refine ⟨by simp, rfl, rfl, world_drawn w, fun i _ hi => by simp [hi], fun t _ => rfl, ?_, ?_, ?_⟩
    · intro i o d _ hi _ hx
      have := (List.getElem?_eq_some_iff.1 hi).1
      simp [this] at hx
    · intro k o d ob _ hi _ _ hx
      have := (List.getElem?_eq_some_iff.1 hi).1
      simp [this] at hx
    · intro k k' hk hk' hx
      have : n + k < l.length := by omega
      simp [this] at hx
  · simp [cnt_false]

/-- No allocation. -/
theorem wp_region_E0 (n : Nat) (hm : P.follows .mixedOrders = true) (hB : regB l n 0 = true)
    (h : wpE P l.toArray w (fun F => ∀ x : Ext w, wpList P l.toArray Q (l.drop n) F x.val) (l.take n) a) : (Code.region id l.toArray true).wp P Q a w := by
  refine wp_region_E n 0 [] hm hB rfl (fun k o ob hk => by omega) ?_
  have e : (fun F => ∀ (w' : World) (bs : List Nat), Below w.heap.size w w' → bs.length = 0 → bs.Nodup →
      (∀ (k b : Nat) (ob : Obj), bs[k]? = some b → ([] : List Obj)[k]? = some ob → w.heap.size ≤ b ∧ b < w'.heap.size ∧ w'.heap[b]? = some ob) →
      wpList P l.toArray Q (l.drop (n + 0)) (putAll F ((l.drop n).take 0) bs) w') = (fun F => ∀ x : Ext w, wpList P l.toArray Q (l.drop n) F x.val) := by
    funext F
    apply propext
    constructor
    · intro h x
      have := h x.val [] x.below rfl (by simp) (by simp)
      simpa [putAll] using this
    · intro h w' bs hb hl _ _
      cases bs with
      | nil => simpa [putAll] using h ⟨w', hb⟩
      | cons b r => simp at hl
  rw [e]
  exact h

attribute [go_sem] atE uponE
end
end
section
open Go.RowKit

/-- What holds no memory, as it lies. -/
def conc : AV → Option Value
  | .lit v => some v
  | .str l => some (.string ⟨l.toArray⟩)
  | .tuple [.lit a, .lit b] => some (.tuple #[a, b])
  | .tuple [.str a, .lit b] => some (.tuple #[.string ⟨a.toArray⟩, b])
  | .tuple [.str a, .str b, .lit c] => some (.tuple #[.string ⟨a.toArray⟩, .string ⟨b.toArray⟩, c])
  | .tuple [.str a, .str b] => some (.tuple #[.string ⟨a.toArray⟩, .string ⟨b.toArray⟩])
  | _ => none

section
variable {P : Program} {n : Nat} {s : St} {ops : Array Oper} {o : Oper} {rest l : List Oper} {Q : St → Prop} {QE : Exit → St → Prop} {d f : Nat}

theorem relO_lit {G : Gh} {w : World} {q : Pos} {v u : Value} (h : RelO P G w q (.lit v) u) : u = v := by cases h; rfl
theorem relO_str {G : Gh} {w : World} {q : Pos} {l : List UInt8} {u : Value} (h : RelO P G w q (.str l) u) : u = .string ⟨l.toArray⟩ := by cases h; rfl

theorem conc_rel {G : Gh} {w : World} {p : Nat → Pos} {v : AV} {u u0 : Value} (hc : conc v = some u0) (h : RelS P G w p v u) : u = u0 := by
  unfold conc at hc
  split at hc
  · cases hc; exact RelS.lit h
  · cases hc; exact RelS.str h
  · cases hc
    obtain ⟨vs, rfl, hl, hr⟩ := h
    match vs, hl with
    | [x, y], _ => rw [relO_lit (hr 0 _ x rfl rfl), relO_lit (hr 1 _ y rfl rfl)]
  · cases hc
    obtain ⟨vs, rfl, hl, hr⟩ := h
    match vs, hl with
    | [x, y], _ => rw [relO_str (hr 0 _ x rfl rfl), relO_lit (hr 1 _ y rfl rfl)]
  · cases hc
    obtain ⟨vs, rfl, hl, hr⟩ := h
    match vs, hl with
    | [x, y, z], _ => rw [relO_str (hr 0 _ x rfl rfl), relO_str (hr 1 _ y rfl rfl), relO_lit (hr 2 _ z rfl rfl)]
  · cases hc
    obtain ⟨vs, rfl, hl, hr⟩ := h
    match vs, hl with
    | [x, y], _ => rw [relO_str (hr 0 _ x rfl rfl), relO_str (hr 1 _ y rfl rfl)]
  · cases hc

theorem conc_toS {G : Gh} {w : World} {p : Nat → Pos} {v : AV} {u0 : Value} (hc : conc v = some u0) : RelS P G w p v u0 := by
  unfold conc at hc
  split at hc
  · cases hc; exact RelV.lit _
  · cases hc; exact RelV.str _
  · cases hc
    refine ⟨[_, _], rfl, rfl, fun j c u h1 h2 => ?_⟩
    match j, h1, h2 with
    | 0, h1, h2 => cases h1; cases h2; exact RelV.lit _
    | 1, h1, h2 => cases h1; cases h2; exact RelV.lit _
    | _ + 2, h1, h2 => cases h1
  · cases hc
    refine ⟨[_, _], rfl, rfl, fun j c u h1 h2 => ?_⟩
    match j, h1, h2 with
    | 0, h1, h2 => cases h1; cases h2; exact RelV.str _
    | 1, h1, h2 => cases h1; cases h2; exact RelV.lit _
    | _ + 2, h1, h2 => cases h1
  · cases hc
    refine ⟨[_, _, _], rfl, rfl, fun j c u h1 h2 => ?_⟩
    match j, h1, h2 with
    | 0, h1, h2 => cases h1; cases h2; exact RelV.str _
    | 1, h1, h2 => cases h1; cases h2; exact RelV.str _
    | 2, h1, h2 => cases h1; cases h2; exact RelV.lit _
    | _ + 3, h1, h2 => cases h1
  · cases hc
    refine ⟨[_, _], rfl, rfl, fun j c u h1 h2 => ?_⟩
    match j, h1, h2 with
    | 0, h1, h2 => cases h1; cases h2; exact RelV.str _
    | 1, h1, h2 => cases h1; cases h2; exact RelV.str _
    | _ + 2, h1, h2 => cases h1
  · cases hc

def AOpsE (P : Program) (n : Nat) (ops : Array Oper) (l : List Oper) (s : St) (Q : St → Prop) : Prop :=
  ∀ (G : Gh) (a : Act) (W : World) (K : Act → Prop), RelSt P G n s a W → Fix G W → (∀ s' a', Q s' → RelSt P G n s' a' W → K a') → wpE P ops W K l a

theorem AOpsE.nil (h : Q s) : AOpsE P n ops [] s Q := fun _G a _W _K hr _ hK => hK s a h hr

def noM : Nat → Option (List AV) := fun _ => none

/-- A call that answers what holds no memory. -/
theorem AOpsE.call {c : Call} {args : List AV} {v : AV} {u0 : Value} {M' : (Nat → Option (List AV)) → Prop} (hg : Wants ops s o) (hd : o.dst = some d) (hn : d < n) (ho : o.op = .call c) (hc : c.callee = .value (.func f))
    (henter : ∀ (vs : Array Value) (w : World), (callFunc f vs).run P w = .ok (.enter f vs) w) (hcon : ∀ x ∈ c.args, ∀ v cs, x = .const v → v = .agg cs → ∀ c ∈ cs, c.oneCell' = true)
    (hlen : c.args.size = args.length) (hargs : ∀ (j : Nat) x v, c.args[j]? = some x → args[j]? = some v → ArgOf s x v) (h : ACall P f args noM (fun r M1 => r = v ∧ M' M1)) (hv : conc v = some u0)
    (k : AOpsE P n ops rest (s.put d v) Q) : AOpsE P n ops (o :: rest) s Q := by
  intro G a W K hr hfx hK
  unfold wpE
  rw [if_pos (wants_eval hr (fun t => by omega) hg)]
  refine ⟨u0, fun x => ?_, ?_⟩
  · have hrun : (execOp a.eval o).run P x.val = .ok (.enter f (c.args.map a.eval)) x.val := by
      simp [execOp, ho, resolve, hc, Act.eval, Deferred.ofValue, invoke, henter]
    rw [hrun]
    refine ⟨rfl, ?_⟩
    let G0 : Gh := { G with owner := fun _ => none }
    have hfar : ∀ b, x.val.heap.size ≤ b → G0.tip b = 0 ∧ G0.owner b = none := fun b hb => ⟨(hr.mem.far b (Nat.le_trans x.below.size hb)).1, rfl⟩
    have st : Stab G W G0 x.val := by
      refine ⟨fun _ => Nat.le_refl _, fun b oo hoo => ?_, fun _ _ h => h⟩
      have hlt : b < W.heap.size := by
        rcases Nat.lt_or_ge b W.heap.size with h | h
        · exact h
        · rw [(hr.mem.far b h).1] at hoo; omega
      exact World.cell?_of_block (w := W) (a := ⟨b, oo, none⟩) (x.below.block b hlt)
    have hfx0 : Fix G0 x.val := by
      obtain ⟨F, h1, h2⟩ := hfx
      refine ⟨F, fun b o e => ?_, h2⟩
      obtain ⟨e1, e2, e3⟩ := h1 b o e
      exact ⟨Nat.lt_of_lt_of_le e1 x.below.size, (x.below.block b e1).trans e2, rfl⟩
    have hcall := h G0 x.val (c.args.map a.eval).toList ⟨(fun id cells hm => by cases hm), hfar, hr.mem.fin⟩ hfx0 (by simp [hlen]) (fun j y z hy hz => by
      rw [Array.toList_map, List.getElem?_map] at hz
      cases hq : c.args.toList[j]? with
      | none => simp [hq] at hz
      | some q =>
        simp only [hq, Option.map_some, Option.some.injEq] at hz
        subst hz
        have hq' : c.args[j]? = some q := by simpa using hq
        exact ((hargs j q y hq' hy).rel hr (hcon q (by have := List.mem_of_getElem? hq; simpa using this))).stab st)
    simp only [Array.toArray_toList] at hcall
    refine hcall.mono ?_
    rintro e w' ⟨r, M1, G', u, rfl, ⟨rfl, _⟩, _, hu, _, hk⟩
    have := conc_rel hv hu
    subst this
    exact RetE.of_below ⟨hk.os, hk.tape, hk.output, hk.size, fun b hb => (hk.free b hb rfl).2.1⟩
  · rw [hd]; exact k G _ W K (hr.put hn (conc_toS hv)) hfx hK

theorem RelSt.later {G : Gh} {a : Act} {w w' : World} (hr : RelSt P G n s a w) (hb : Below w.heap.size w w') : RelSt P G n s a w' ∧ Keep G w G w' := by
  obtain ⟨kp, st⟩ := below_keep (G := G) hb hr.mem.far
  refine ⟨⟨hr.size, hr.defers, fun i => ?_, fun k cells hk => ?_, ?_⟩, kp⟩
  · exact (hr.slot i).move st hb.size (fun _ _ _ => rfl) (fun c b h1 h2 => ⟨h2, hb.block b h1, rfl⟩)
  · have h0 := hr.loc k cells hk
    exact h0.move st hb.size (hb.block _ h0.lt) rfl rfl (fun c b h1 h2 => ⟨h2, hb.block b h1, rfl⟩)
  · exact hr.mem.move st hb.size (fun q b hq h1 h2 => ⟨h2, hb.block b h1, rfl⟩) (fun b hb' => hr.mem.far b (Nat.le_trans hb.size hb')) rfl

end
end
section
open Go.RowKit

def eqFs (rec : TypeId → List Value → List Value → Option Bool) (sz : TypeId → Nat) (xs ys : List Value) : List Field → Option Bool
  | [] => some true
  | f :: r =>
    if f.name == "_" then none else
    match rec f.type ((xs.drop f.offset).take (sz f.type)) ((ys.drop f.offset).take (sz f.type)), eqFs rec sz xs ys r with
    | some a, some b => some (a && b)
    | _, _ => none
def eqIs (rec : List Value → List Value → Option Bool) (sz : Nat) (xs ys : List Value) : List Nat → Option Bool
  | [] => some true
  | i :: r =>
    match rec ((xs.drop (i * sz)).take sz) ((ys.drop (i * sz)).take sz), eqIs rec sz xs ys r with
    | some a, some b => some (a && b)
    | _, _ => none
/-- What '==' gives at two values whose cells these are: bools, integers, strings; structs and arrays of such. -/
def eqV (P : Program) : Nat → TypeId → List Value → List Value → Option Bool
  | 0, _, _, _ => none
  | d + 1, t, xs, ys =>
    match P.underlying t with
    | some .bool => match xs, ys with | [.bool a], [.bool b] => some (a == b) | _, _ => none
    | some (.int _) => match xs, ys with | [.int k a], [.int k' b] => if k = k' then some (a == b) else none | _, _ => none
    | some .string => match xs, ys with | [.string a], [.string b] => some (a.data.toList == b.data.toList) | _, _ => none
    | some (.struct fs) => if P.stoodInHeld t then none else eqFs (eqV P d) P.cellsOf xs ys fs.toList
    | some (.array n e) => if (P.info? e).isNone then none else eqIs (eqV P d e) (P.cellsOf e) xs ys (List.range n)
    | _ => none

/-- The value of type t whose cells these are. -/
def RepV (P : Program) (t : TypeId) (xs : List Value) (x : Value) : Prop :=
  ∃ D, P.underlying t = some D ∧ if TypeDesc.agg D then x = .agg xs.toArray else xs = [x]

section
variable {P : Program}
theorem eqV_und {d : Nat} {t : TypeId} {xs ys : List Value} {b : Bool} (h : eqV P d t xs ys = some b) : ∃ D, P.underlying t = some D ∧ (TypeDesc.agg D = false → ∃ u v, xs = [u] ∧ ys = [v]) := by
  cases d with
  | zero => cases h
  | succ d =>
    unfold eqV at h
    cases hu : P.underlying t with
    | none => simp [hu] at h
    | some D =>
      refine ⟨D, rfl, fun ha => ?_⟩
      rw [hu] at h
      cases D <;> simp only [TypeDesc.agg] at ha h <;> first | cases h | cases ha | skip
      all_goals (split at h <;> first | exact ⟨_, _, rfl, rfl⟩ | (cases h; done))

theorem part_rep {e : TypeId} {D : TypeDesc} (hu : P.underlying e = some D) (arr : List Value) (off : Nat) (hp : TypeDesc.agg D = false → ∃ u, (arr.drop off).take (P.cellsOf e) = [u]) :
    ∃ u, RepV P e ((arr.drop off).take (P.cellsOf e)) u ∧ ∀ w : World, (part e arr.toArray off).run P w = .ok u w := by
  obtain ⟨i, hi⟩ := info_of_underlying hu
  cases hA : TypeDesc.agg D with
  | true =>
    refine ⟨.agg ((arr.drop off).take (P.cellsOf e)).toArray, ⟨D, hu, by rw [hA]; rfl⟩, fun w => ?_⟩
    simp [part, run_agg hu, hA, Result.andThen, run_sizeOf w hi, List.extract_eq_take_drop]
  | false =>
    obtain ⟨u, hu'⟩ := hp hA
    refine ⟨u, ⟨D, hu, by rw [hA]; exact hu'⟩, fun w => ?_⟩
    have e1 : arr[off]? = some u := by
      have : ((arr.drop off).take (P.cellsOf e))[0]? = some u := by rw [hu']; rfl
      rw [List.getElem?_take] at this
      split at this
      · rw [List.getElem?_drop] at this; simpa using this
      · cases this
    simp [part, run_agg hu, hA, Result.andThen, e1]

theorem eqV_run (d0 : Nat) : ∀ (d : Nat) (t : TypeId) (xs ys : List Value) (b : Bool), eqV P d t xs ys = some b → ∀ x y, RepV P t xs x → RepV P t ys y → ∀ w : World, (Op.equalIn (d0 + d) t x y).run P w = .ok b w
  | 0, _, _, _, _, h => by cases h
  | d + 1, t, xs, ys, b, h => by
    intro x y ⟨D, hu, hx⟩ ⟨D', hu', hy⟩ w
    rw [hu] at hu'
    cases hu'
    unfold eqV at h
    rw [hu] at h
    rw [show d0 + (d + 1) = (d0 + d) + 1 from rfl]
    cases D <;> simp only [TypeDesc.agg, if_true, Bool.false_eq_true, if_false] at hx hy h <;> try (cases h; done)
    case bool =>
      subst hx; subst hy
      split at h
      · rename_i a b e1 e2; cases e1; cases e2; cases h
        exact Go.run_equalIn_bool' w _ t _ _ hu
      · cases h
    case int k0 =>
      subst hx; subst hy
      split at h
      · rename_i a b e1 e2; cases e1; cases e2
        split at h
        · rename_i e; subst e; cases h; exact run_equalIn_int w _ t _ k0 _ _ hu
        · cases h
      · cases h
    case string =>
      subst hx; subst hy
      split at h
      · rename_i a b e1 e2; cases e1; cases e2; cases h
        rw [run_equalIn_string w _ t _ _ hu, ByteArray.toList_eq, ByteArray.toList_eq]
      · cases h
    case struct fs =>
      subst hx; subst hy
      split at h
      · cases h
      rename_i hp
      have hfs : P.fieldsOf t = fs := by simp [Program.fieldsOf, hu]
      rw [run_equalIn_struct w _ t _ _ (by rw [hfs]; exact hu) (by simpa using hp), hfs]
      clear hu hfs hp
      generalize fs.toList = fl at h ⊢
      induction fl generalizing b with
      | nil => cases h; simp [Op.eqFields]
      | cons f r ih =>
        unfold eqFs at h
        split at h
        · cases h
        rename_i hn
        split at h
        · rename_i a c h1 h2
          cases h
          obtain ⟨D1, g1, g2⟩ := eqV_und h1
          obtain ⟨u, ru, pu⟩ := part_rep g1 xs f.offset (fun hA => by obtain ⟨u, v, e1, e2⟩ := g2 hA; exact ⟨u, e1⟩)
          obtain ⟨v, rv, pv⟩ := part_rep g1 ys f.offset (fun hA => by obtain ⟨u, v, e1, e2⟩ := g2 hA; exact ⟨v, e2⟩)
          have hq := eqV_run d0 d f.type _ _ a h1 u v ru rv w
          have hn' : f.name ≠ "_" := by simpa using hn
          simp only [Op.eqFields, hn', ne_eq, not_false_eq_true, if_true, Sem.run_bind, pu w, pv w, Result.andThen_ok, hq]
          cases a
          · simp
          · simpa using ih c h2
        · cases h
    case array n e =>
      subst hx; subst hy
      split at h
      · cases h
      rename_i hi
      obtain ⟨i, hi⟩ : ∃ i, P.info? e = some i := by cases hh : P.info? e <;> simp_all
      rw [Go.run_equalIn_array w _ _ _ hu hi]
      clear hu
      generalize List.range n = fl at h ⊢
      induction fl generalizing b with
      | nil => cases h; simp [Op.eqItems]
      | cons j r ih =>
        unfold eqIs at h
        split at h
        · rename_i a c h1 h2
          cases h
          obtain ⟨D1, g1, g2⟩ := eqV_und h1
          obtain ⟨u, ru, pu⟩ := part_rep g1 xs (j * P.cellsOf e) (fun hA => by obtain ⟨u, v, e1, e2⟩ := g2 hA; exact ⟨u, e1⟩)
          obtain ⟨v, rv, pv⟩ := part_rep g1 ys (j * P.cellsOf e) (fun hA => by obtain ⟨u, v, e1, e2⟩ := g2 hA; exact ⟨v, e2⟩)
          have hq := eqV_run d0 d e _ _ a h1 u v ru rv w
          simp only [Op.eqItems, Sem.run_bind, pu w, pv w, Result.andThen_ok, hq]
          cases a
          · simp
          · simpa using ih c h2
        · cases h

/-- A cell that holds no memory. -/
def conc1 : AV → Option Value
  | .lit v => some v
  | .str l => some (.string ⟨l.toArray⟩)
  | _ => none
def concL : List AV → Option (List Value)
  | [] => some []
  | c :: r => match conc1 c, concL r with | some u, some us => some (u :: us) | _, _ => none

theorem concL_rel {G : Gh} {w : World} : ∀ {cs : List AV} {us vs : List Value}, concL cs = some us → vs.length = cs.length → (∀ (j : Nat) (c : AV) (v : Value), cs[j]? = some c → vs[j]? = some v → RelV P G w c v) → vs = us
  | [], us, vs, h, hl, hr => by cases h; exact List.length_eq_zero_iff.1 hl
  | c :: r, us, [], h, hl, hr => by simp at hl
  | c :: r, us, v :: vs, h, hl, hr => by
    unfold concL at h
    split at h
    · rename_i u0 us0 h1 h2
      cases h
      have e0 := hr 0 c v rfl rfl
      have e1 := concL_rel h2 (by simpa using hl) (fun j c v e1 e2 => hr (j + 1) c v (by simpa using e1) (by simpa using e2))
      rw [e1]
      unfold conc1 at h1
      split at h1
      · cases h1; rw [relV_lit e0]
      · cases h1; rw [relV_str e0]
      · cases h1
    · cases h

variable {n : Nat} {s : St} {o : Oper} {x y : Operand} {t t' : TypeId} {d : Nat}
theorem RelSt.evAgg {G : Gh} {a : Act} {w : World} {cs : List AV} {us : List Value} (h : RelSt P G n s a w) (hx : s.eval x = .agg cs) (hxc : ∃ r, x = .tmp r) (hc : concL cs = some us) : a.eval x = .agg us.toArray := by
  obtain ⟨r, rfl⟩ := hxc
  have hp := h.slot r
  rw [show s.get r = .agg cs from hx] at hp
  generalize hav : a.tmps.getD r undef = va at hp
  have hp' : RelV P G w (.agg cs) va := hp
  cases hp' with
  | agg _ vs hl hr =>
    have := concL_rel hc hl hr
    subst this
    exact hav

/-- Two structs, or arrays, are the same, or not. -/
theorem Reader.eqAgg {op : BinOp} {cs ds : List AV} {us vs : List Value} {b r : Bool} {D : TypeDesc} (m : Nat) (ho : o.op = .binOp op t x y t') (hx : s.eval x = .agg cs) (hy : s.eval y = .agg ds) (hxc : ∃ r, x = .tmp r) (hyc : ∃ r, y = .tmp r)
    (hu : P.underlying t = some D) (ha : TypeDesc.agg D = true) (hg : P.eqGuardType P.depth t = false) (hm : m ≤ 10000)
    (hcx : concL cs = some us) (hcy : concL ds = some vs) (he : eqV P m t us vs = some b) (hop : op = .eql ∧ r = b ∨ op = .neq ∧ r = !b) : Reader P n s o d (.lit (.bool r)) := by
  intro G a w h
  refine ⟨_, lit_toS _, fun w' _ => ?_⟩
  have e1 := h.evAgg hx hxc hcx
  have e2 := h.evAgg hy hyc hcy
  have he' := eqV_run (P := P) (10000 - m) m t us vs b he (.agg us.toArray) (.agg vs.toArray) ⟨D, hu, by rw [ha]; rfl⟩ ⟨D, hu, by rw [ha]; rfl⟩ w'
  rw [show 10000 - m + m = 10000 by omega] at he'
  simp only [execOp, ho, e1, e2]
  have hgu := run_eqGuard_agg (P := P) w' op t x y us.toArray vs.toArray hg
  rcases hop with ⟨rfl, rfl⟩ | ⟨rfl, rfl⟩
  · simp [hgu, run_eql_struct, he']
  · simp [hgu, run_neq_struct, he']
end
end
section
open Go.RowKit

def setM (M : Nat → Option (List AV)) (id : Nat) (cs : List AV) : Nat → Option (List AV) := fun i => if i = id then some cs else M i
theorem setM_get {M : Nat → Option (List AV)} {id : Nat} {cs : List AV} : setM M id cs id = some cs := by simp [setM]
theorem setM_ne {M : Nat → Option (List AV)} {id i : Nat} {cs : List AV} (h : i ≠ id) : setM M id cs i = M i := by simp [setM, h]
theorem setM_setM {M : Nat → Option (List AV)} {id : Nat} {a b : List AV} : setM (setM M id a) id b = setM M id b := by
  funext i; simp only [setM]; split <;> rfl
theorem setM_swap' {M N : Nat → Option (List AV)} {id id2 : Nat} {b c : List AV} (h : id ≠ id2) (e : setM M id c = N) : setM (setM M id2 b) id c = setM N id2 b := by
  subst e
  funext i; simp only [setM]
  by_cases e1 : i = id
  · subst e1; simp [h]
  · simp [e1]
theorem setM_same {M : Nat → Option (List AV)} {id : Nat} {cs : List AV} (h : M id = some cs) : setM M id cs = M := by
  funext i; simp only [setM]; split
  · rename_i e; subst e; exact h.symm
  · rfl

/-- What q owned is q''s now. -/
def Gh.pass (G : Gh) (q q' : Pos) : Gh := { G with owner := fun b => if G.owner b = some q then some q' else G.owner b }

section
variable {P : Program} {G G' : Gh} {w w' : World} {q q' r : Pos} {b : Nat}
theorem pass_stab : Stab G w (G.pass q q') w := ⟨fun _ => Nat.le_refl _, fun _ _ _ => rfl, fun _ _ h => h⟩
theorem pass_own (h : G.owner b = some r) (hr : r ≠ q) : (G.pass q q').owner b = some r := by
  show (if G.owner b = some q then some q' else G.owner b) = some r
  rw [h, if_neg (fun e => hr (Option.some.inj e))]
theorem pass_new (h : G.owner b = some q) : (G.pass q q').owner b = some q' := by
  show (if G.owner b = some q then some q' else G.owner b) = some q'
  rw [if_pos h]
theorem pass_none (h : G.owner b = none) : (G.pass q q').owner b = none := by
  show (if G.owner b = some q then some q' else G.owner b) = none
  rw [h]; simp

theorem RelM.sub {M M' : Nat → Option (List AV)} (h : RelM P G w M) (hs : ∀ id c, M' id = some c → M id = some c) : RelM P G w M' := ⟨fun id c e => h.obj id c (hs id c e), h.far, h.fin⟩

/-- A row goes out of a variable's cell. -/
theorem Holds.grab {own : Pos} {p : Nat → Pos} {cells : List AV} {kk : Nat} {E : TypeId} {xs : List AV} (h : Holds P G w b own p cells) (hc : cells[kk]? = some (.list true E xs)) (ho : own ≠ p kk) (hp : ∀ j, j ≠ kk → p j ≠ p kk) :
    Holds P (G.pass (p kk) q') w b own p (cells.set kk (.list false E xs)) := by
  obtain ⟨arr, T, h1, h2, h3, h4, h5, h6⟩ := h
  refine ⟨arr, T, h1, by simpa using h2, pass_own h3 ho, h4, fun c hcm => ?_, fun j c u hj hu => ?_⟩
  · rcases List.mem_or_eq_of_mem_set hcm with h | h
    · exact h5 c h
    · subst h; rfl
  · rw [List.getElem?_set] at hj
    split at hj
    · rename_i e
      subst e
      split at hj
      · cases hj
        have := h6 kk _ u hc hu
        rcases this.toV with h | ⟨cs, e⟩
        · exact h.stab pass_stab
        · cases e
      · cases hj
    · rename_i e
      exact (h6 j c u hj hu).move pass_stab (Nat.le_refl _) (fun b' _ ho' => ⟨pass_own ho' (hp j (fun e' => e e'.symm)), rfl, rfl⟩)

theorem set_take_drop {α : Type} (l : List α) (k : Nat) (v : α) (h : k < l.length) : l.take k ++ [v] ++ l.drop (k + 1) = l.set k v := by
  rw [List.set_eq_take_append_cons_drop, if_pos h]; simp
end

section
variable {P : Program} {n : Nat} {s : St} {ops : Array Oper} {o : Oper} {rest : List Oper} {Q : St → Prop} {d r : Nat} {t t' E : TypeId} {x y : Operand}

theorem ACall.subM {f : FuncId} {args : List AV} {M : Nat → Option (List AV)} {R : AV → (Nat → Option (List AV)) → Prop} (h : ACall P f args M fun r M1 => ∃ M2, R r M2 ∧ ∀ id c, M2 id = some c → M1 id = some c) : ACall P f args M R := by
  intro G w vs hm hf hl ha
  refine (h G w vs hm hf hl ha).mono ?_
  rintro e w' ⟨r, M1, G', u, he, ⟨M2, hR, hs⟩, h1, h2, h3, h4⟩
  exact ⟨r, M2, G', u, he, hR, h1, h2, h3.sub hs, h4⟩

theorem RelSt.evG {G : Gh} {a : Act} {w : World} {id off : Nat} (h : RelSt P G n s a w) (hx : s.eval x = .gptr id off) : ∃ b, G.mb id = some b ∧ a.eval x = .pointer (some ⟨b, off, none⟩) := by
  obtain ⟨p, hp⟩ := h.ev x (fun v cs e1 e2 => by subst e1; subst e2; simp [St.eval, ofConst] at hx)
  rw [hx] at hp
  generalize hav : a.eval x = va at hp
  have hp' : RelV P G w (.gptr id off) va := hp
  cases hp' with
  | gptr _ _ b hb => exact ⟨b, hb, rfl⟩

theorem RelSt.reghost {G G' : Gh} {a : Act} {w : World} (h : RelSt P G n s a w) (st : Stab G w G' w) (ho : G'.owner = G.owner) (ht : G'.tip = G.tip) (hl : G'.lb = G.lb) (hf : ∃ N, ∀ id, N ≤ id → G'.mb id = none) : RelSt P G' n s a w := by
  have hm : ∀ q b, b < w.heap.size → G.owner b = some q → G'.owner b = some q ∧ w.heap[b]? = w.heap[b]? ∧ G'.tip b = G.tip b := fun q b _ h => ⟨by rw [ho]; exact h, rfl, by rw [ht]⟩
  refine ⟨h.size, h.defers, fun i => (h.slot i).move st (Nat.le_refl _) (fun _ _ _ => by rw [hl]) (fun c b => hm _ b), fun k cells hk => ?_, ⟨fun id cells hi => ?_, fun b hb => by rw [ho, ht]; exact h.mem.far b hb, hf⟩⟩
  · rw [hl]; exact (h.loc k cells hk).move st (Nat.le_refl _) rfl (by rw [ho]) (by rw [ht]) (fun c b => hm _ b)
  · obtain ⟨b, hb, hh⟩ := h.mem.obj id cells hi
    exact ⟨b, st.mb id b hb, hh.move st (Nat.le_refl _) (fun _ _ => ⟨rfl, by rw [ho], by rw [ht]⟩) (fun c b => hm _ b)⟩

/-- One operation, at one place. -/
theorem AOps.step1 {s' : St} {G : Gh} {a : Act} {w : World} {K : Exit → Act → World → Prop} (hg : Wants ops s o) (hd : o.dst = some d) (hr : RelSt P G n s a w) (hfx : Fix G w)
    (hK : ∀ s' G' a' w', Q s' → RelSt P G' n s' a' w' → Keep G w G' w' → K .normal a' w')
    (h : ∃ u w' G', (execOp a.eval o).run P w = .ok (.value u) w' ∧ RelSt P G' n s' (a.put (some d) u) w' ∧ Keep G w G' w') (k : AOps P n ops rest s' Q) : wpList P ops K (o :: rest) a w := by
  simp only [wpList]
  rw [if_pos (wants_eval hr (fun t => by omega) hg)]
  left
  obtain ⟨u, w', G', hrun, hr', hk⟩ := h
  unfold Oper.wp
  rw [hrun, Oper.upon_value, hd]
  exact k G' _ w' K hr' (hfx.keep hk) fun s2 G2 a2 w2 hq hr2 hk2 => hK s2 G2 a2 w2 hq hr2 (hk.trans hk2)

/-- A new object: whatever its name. -/
theorem AOps.allocG {z : Value} {Es : List TypeId} (hg : Wants ops s o) (hd : o.dst = some d) (hn : d < n) (ho : o.op = .alloc t) (ht : t < 10000) (hz : (P.info? t).map (·.zero) = some (some z)) (hz1 : z.cells.toList.all (fun c => c.oneCell') = true)
    {cells : List AV} (hc : zcells z.cells.toList Es = cells) (hsc : ∀ c ∈ cells, c.scalar = true) (hfl : ∀ c ∈ cells, c.flat = true)
    (k : ∀ id, s.mem id = none → id % 10000 = t → AOps P n ops rest { s with fr := (d, .gptr id 0) :: s.fr, mem := setM s.mem id cells } Q) : AOps P n ops (o :: rest) s Q := by
  intro G a w K hr hfx hK
  obtain ⟨N, hN⟩ := hr.mem.fin
  have hid : (10000 * N + t) % 10000 = t := by rw [Nat.mul_add_mod]; exact Nat.mod_eq_of_lt ht
  have hge : N ≤ 10000 * N + t := Nat.le_trans (Nat.le_mul_of_pos_left N (by decide)) (Nat.le_add_right _ _)
  generalize 10000 * N + t = id at hid hge
  have hmb : G.mb id = none := hN id hge
  have hM : s.mem id = none := by
    cases hx : s.mem id with
    | none => rfl
    | some c => obtain ⟨b, hb, _⟩ := hr.mem.obj id c hx; rw [hmb] at hb; cases hb
  refine AOps.step1 hg hd hr hfx hK ?_ (k id hM hid)
  subst hc
  have h2 := zcells_rel (P := P) (G := G) (w := w) z.cells.toList Es (List.all_eq_true.1 hz1)
  have hrun : (execOp a.eval o).run P w = .ok (.value (.pointer (some ⟨w.heap.size, 0, none⟩))) (w.alloc (.cells z.cells.toList.toArray t)) := by
    cases hi : P.info? t with
    | none => simp [hi] at hz
    | some i =>
      simp only [hi, Option.map_some, Option.some.injEq] at hz
      simp [execOp, ho, Instr.alloc, zeroValue, typeInfo, hi, hz, newVar, newRow]
  have hfar := hr.mem.far
  have st1 : Stab G w (G.new w.heap.size (.mb id) 0) (w.alloc (.cells z.cells.toList.toArray t)) := stab_new _ _ _ hfar
  have kp := keep_new (.cells z.cells.toList.toArray t) (.mb id) 0 hfar
  have hT1 := hr.turn (G' := G.new w.heap.size (.mb id) 0) (d := d) (v := .lit (.pointer (some ⟨w.heap.size, 0, none⟩))) (u := .pointer (some ⟨w.heap.size, 0, none⟩)) hn st1 (by rw [size_alloc]; omega) (fun _ _ => rfl)
    (fun q b h1 h2 _ => own_new _ _ _ _ b h1 h2) (fun b hb => far_new _ _ _ hfar b hb) rfl (lit_toS _)
  let G' : Gh := { G.new w.heap.size (.mb id) 0 with mb := fun i => if i = id then some w.heap.size else G.mb i }
  have hmbG : ∀ i b, G.mb i = some b → G'.mb i = some b := fun i b h => by
    show (if i = id then some w.heap.size else G.mb i) = some b
    rw [if_neg (fun e => by subst e; rw [hmb] at h; cases h)]; exact h
  have hid' : G'.mb id = some w.heap.size := by show (if id = id then some w.heap.size else G.mb id) = _; simp
  have hT2 := hT1.reghost (G' := G') ⟨fun _ => Nat.le_refl _, fun _ _ _ => rfl, hmbG⟩ rfl rfl rfl ⟨N + id + 1, fun i hi => by
    show (if i = id then some w.heap.size else G.mb i) = none
    rw [if_neg (by omega)]; exact hN i (by omega)⟩
  have stG : Stab G w G' (w.alloc (.cells z.cells.toList.toArray t)) := ⟨st1.tip, st1.cell, hmbG⟩
  refine ⟨_, _, G', hrun, ⟨hT2.size, hT2.defers, fun i => ?_, hT2.loc, ⟨fun i cells hi => ?_, hT2.mem.far, hT2.mem.fin⟩⟩, ⟨kp.os, kp.tape, kp.output, kp.size, kp.free, stG⟩⟩
  · rw [getD_put _ _ _ _ (by rw [hr.size]; exact hn)]
    have h0 := hT2.slot i
    rw [getD_put _ _ _ _ (by rw [hr.size]; exact hn)] at h0
    show RelS P G' _ (.slot i) (look .any ((d, .gptr id 0) :: s.fr) i) _
    have h0' : RelS P G' (w.alloc (.cells z.cells.toList.toArray t)) (.slot i) (look .any ((d, .lit (.pointer (some ⟨w.heap.size, 0, none⟩))) :: s.fr) i) (if i = d then .pointer (some ⟨w.heap.size, 0, none⟩) else a.tmps.getD i undef) := h0
    simp only [look] at h0' ⊢
    by_cases e : i = d
    · subst e
      simp only [if_true]
      exact RelV.gptr id 0 _ hid'
    · rw [if_neg (Ne.symm e), if_neg e] at h0'
      rw [if_neg (Ne.symm e), if_neg e]
      exact h0'
  · by_cases e : i = id
    · subst e
      have hi' : setM s.mem i (zcells z.cells.toList Es) i = some cells := hi
      rw [setM_get] at hi'
      cases hi'
      refine ⟨w.heap.size, hid', .inl ⟨⟨z.cells.toList.toArray, t, heap_new _ _, by simpa using h2.1, ?_, ?_, hsc, fun j c u h1 h2' => ?_⟩, z.cells.toList.toArray, by rw [hid]; exact heap_new _ _⟩⟩
      · show (if w.heap.size = w.heap.size then _ else _) = _; simp
      · show (if w.heap.size = w.heap.size then _ else _) = _; simp
      · have := (h2.2 j c u h1 (by simpa using h2')).stab stG
        exact this.toO (hfl c (List.mem_of_getElem? h1))
    · have hi' : setM s.mem id (zcells z.cells.toList Es) i = some cells := hi
      rw [setM_ne e] at hi'
      exact hT2.mem.obj i cells hi'


theorem run_load1 {D : TypeDesc} {b kk : Nat} {u : Value} {w : World} (hu : P.underlying t = some D) (hA : TypeDesc.agg D = false) (h : w.cell? ⟨b, kk, none⟩ = some u) : (loadVar t ⟨b, kk, none⟩).run P w = .ok u w := by
  simp [loadVar, run_agg hu, hA, Result.andThen, h]

/-- A row is taken out of an object's cell: the slot owns it. -/
theorem AOps.grabG {cells : List AV} {xs : List AV} {id kk : Nat} {D : TypeDesc} {M' : Nat → Option (List AV)} (hg : Wants ops s o) (hd : o.dst = some d) (hn : d < n) (ho : o.op = .load t x) (hu : P.underlying t = some D) (hx : s.eval x = .gptr id kk) (hc : s.mem id = some cells)
    (hv : cells[kk]? = some (.list true E xs)) (hA : TypeDesc.agg D = false) (hM : setM s.mem id (cells.set kk (.list false E xs)) = M') (k : AOps P n ops rest { s with fr := (d, .list true E xs) :: s.fr, mem := M' } Q) (hall : cells.all AV.scalar = true := by first | rfl | (simp only [List.all_cons, List.all_nil, *]; rfl)) (hne : cells ≠ [] := by first | (intro h; cases h) | simp) : AOps P n ops (o :: rest) s Q := by
  subst hM
  refine AOps.step hg hd ?_ k
  intro G a w hr
  obtain ⟨b, hb, hav⟩ := hr.evG hx
  obtain ⟨b', hb', hX⟩ := hr.mem.obj id cells hc
  obtain ⟨hH, arr0, hty⟩ := hX.cells hall hne
  rw [hb] at hb'
  cases hb'
  have hH0 := hH
  obtain ⟨arr, T, hh, hsz, ho1, ht1, hsc, hrr⟩ := hH0
  have hkl := (List.getElem?_eq_some_iff.1 hv).1
  have e1 : arr[kk]? = some (arr.getD kk undef) := by rw [Array.getD_eq_getD_getElem?, Array.getElem?_eq_getElem (by clear hn; omega)]; rfl
  have hrun : (execOp a.eval o).run P w = .ok (.value (arr.getD kk undef)) w := by
    have h2 : (loadVar t ⟨b, kk, none⟩).run P w = .ok (arr.getD kk undef) w := run_load1 hu hA (by simp only [World.cell?, hh, Option.isSome_none, Bool.false_eq_true, if_false]; exact e1)
    simp [execOp, ho, Instr.loadAt, Instr.sureAddr, hav, h2]
  have st := pass_stab (G := G) (w := w) (q := .mc id kk) (q' := .slot d 0)
  have hmv : ∀ (r : Pos) (b : Nat), r ≠ .mc id kk → b < w.heap.size → G.owner b = some r → (G.pass (.mc id kk) (.slot d 0)).owner b = some r ∧ w.heap[b]? = w.heap[b]? ∧ (G.pass (.mc id kk) (.slot d 0)).tip b = G.tip b :=
    fun r b hr' _ h => ⟨pass_own h hr', rfl, rfl⟩
  refine ⟨_, w, G.pass (.mc id kk) (.slot d 0), hrun, ⟨by simp [Act.put, hr.size], by simpa [Act.put] using hr.defers, fun i => ?_, fun k1 cells1 hk1 => ?_, ⟨fun i cs hi => ?_, fun b hb => ⟨(hr.mem.far b hb).1, pass_none (hr.mem.far b hb).2⟩, hr.mem.fin⟩⟩, ⟨rfl, rfl, rfl, Nat.le_refl _, fun b _ h => ⟨pass_none h, rfl, rfl⟩, st⟩⟩
  · rw [getD_put _ _ _ _ (by rw [hr.size]; exact hn)]
    show RelS P _ w (.slot i) (look .any ((d, .list true E xs) :: s.fr) i) _
    simp only [look]
    by_cases e : i = d
    · subst e
      simp only [if_true]
      exact (hrr kk _ _ hv e1).move st (Nat.le_refl _) (fun b _ h2 => ⟨pass_new h2, rfl, rfl⟩)
    · rw [if_neg (Ne.symm e), if_neg e]
      exact (hr.slot i).move st (Nat.le_refl _) (fun _ _ _ => rfl) (fun c b h1 h2 => hmv _ b (by intro h; cases h) h1 h2)
  · have h0 := hr.loc k1 cells1 hk1
    exact h0.move st (Nat.le_refl _) rfl ((pass_own h0.own (by intro h; cases h)).trans h0.own.symm) rfl (fun c b h1 h2 => hmv _ b (by intro h; cases h) h1 h2)
  · have hi' : setM s.mem id (cells.set kk (.list false E xs)) i = some cs := hi
    by_cases e : i = id
    · subst e
      rw [setM_get] at hi'
      cases hi'
      exact ⟨b, hb, .inl ⟨hH.grab hv (by intro h; cases h) (fun j hj h => by injection h with _ h; exact hj h), arr0, hty⟩⟩
    · rw [setM_ne e] at hi'
      obtain ⟨b2, hb2, hh2⟩ := hr.mem.obj i cs hi'
      exact ⟨b2, hb2, hh2.move st (Nat.le_refl _) (fun _ hw => ⟨rfl, (pass_own hw (by intro h; cases h)).trans hw.symm, rfl⟩) (fun c b h1 h2 => hmv _ b (by intro h; injection h with h; exact e h) h1 h2)⟩

/-- A store into an object: a copy. -/
theorem AOps.storeGr {v : AV} {cells : List AV} {id off size : Nat} {M' : Nat → Option (List AV)} (hg : Wants ops s o) (hd : o.dst = none) (ho : o.op = .store t x y) (hx : s.eval x = .gptr id off) (hc : s.mem id = some cells) (hs : SizeOf P t size) (hrel : ∀ (G : Gh) a w, RelSt P G n s a w → RelV P G w v (a.eval y)) (hp : v.part = true) (hfl : ∀ c ∈ v.cells, c.flat = true)
    (hsz : v.cells.length = size) (hfit : off + size ≤ cells.length) (hM : setM s.mem id (splice cells off v.cells) = M') (k : AOps P n ops rest { s with mem := M' } Q) (hall : cells.all AV.scalar = true := by first | rfl | (simp only [List.all_cons, List.all_nil, *]; rfl)) (hne : cells ≠ [] := by first | (intro h; cases h) | simp) : AOps P n ops (o :: rest) s Q := by
  subst hM
  refine AOps.effect hg hd ?_ k
  intro G a w hr
  obtain ⟨b0, hb0, hav⟩ := hr.evG hx
  obtain ⟨b', hb', hX⟩ := hr.mem.obj id cells hc
  obtain ⟨hH, arr0, hty⟩ := hX.cells hall hne
  rw [hb0] at hb'
  cases hb'
  have hH0 := hH
  obtain ⟨cur, T, hh, hcs, ho1, ht1, _, _⟩ := hH0
  have hrv := hrel G a w hr
  obtain ⟨hL, hone⟩ := hrv.cells hp
  have hvs : (a.eval y).cells.size = size := by have := hL.1; simp at this; omega
  have hrun := run_storeVar_at (P := P) (t := t) (off := off) hh hs hvs hone (by omega)
  obtain ⟨W', hW⟩ : ∃ W', W' = w.setRow b0 (cur.toList.take off ++ (a.eval y).cells.toList ++ cur.toList.drop (off + size)).toArray := ⟨_, rfl⟩
  rw [← hW] at hrun
  have st : Stab G w G W' := by
    refine ⟨fun _ => Nat.le_refl _, fun b oo hoo => ?_, fun _ _ h => h⟩
    have hne : b ≠ b0 := fun e => by rw [e, ht1] at hoo; omega
    subst hW
    exact World.cell?_of_block (w := w) (a := ⟨b, oo, none⟩) (setRow_other w _ b _ hne)
  have other : ∀ q b, G.owner b = some q → q ≠ .mb id → W'.heap[b]? = w.heap[b]? := by
    intro q b h1 h2
    subst hW
    refine setRow_other w _ b _ (fun e => h2 ?_)
    rw [e, ho1] at h1
    exact (Option.some.inj h1).symm
  have hzz : W'.heap.size = w.heap.size := by rw [hW]; simp
  have hz : w.heap.size ≤ W'.heap.size := by omega
  refine ⟨W', G, ?_, ⟨hr.size, hr.defers, fun i => ?_, fun k1 cells1 hk1 => ?_, ⟨fun i cs hi => ?_, fun b hb => hr.mem.far b (by omega), hr.mem.fin⟩⟩, ⟨by rw [hW]; rfl, by rw [hW]; rfl, by rw [hW]; rfl, hz, fun b hb hn => ⟨hn, ?_, rfl⟩, st⟩⟩
  · simp [execOp, ho, Instr.storeAt, Instr.sureAddr, hav, hrun]
  · exact (hr.slot i).move st hz (fun _ _ _ => rfl) (fun c b _ h2 => ⟨h2, other _ b h2 (by intro h; cases h), rfl⟩)
  · have h0 := hr.loc k1 cells1 hk1
    exact h0.move st hz (other _ _ h0.own (by intro h; cases h)) rfl rfl (fun c b _ h2 => ⟨h2, other _ b h2 (by intro h; cases h), rfl⟩)
  · have hi' : setM s.mem id (splice cells off v.cells) i = some cs := hi
    by_cases e : i = id
    · subst e
      rw [setM_get] at hi'
      cases hi'
      refine ⟨b0, hb0, .inl ⟨hH.set hh hL (fun c hcm => ?_) hfl (by omega) _ (by rw [hsz]; exact hW) st hz (fun c b' _ h2 => other _ b' h2 (by intro h; cases h)), ?_⟩⟩
      · cases v with
        | agg cs => exact List.all_eq_true.1 (show cs.all AV.scalar = true from hp) c hcm
        | _ => simp only [AV.cells, List.mem_singleton] at hcm; subst hcm; exact hp
      · rw [hh] at hty
        injection hty with hty
        injection hty with _ hT _
        exact ⟨_, by rw [hW, setRow_heap w b0 cur _ T _ hh, hT]⟩
    · rw [setM_ne e] at hi'
      obtain ⟨b2, hb2, hh2⟩ := hr.mem.obj i cs hi'
      exact ⟨b2, hb2, hh2.move st hz (fun _ hw => ⟨other _ _ hw (by intro h; injection h with h; exact e h), rfl, rfl⟩) (fun c b _ h2 => ⟨h2, other _ b h2 (by intro h; cases h), rfl⟩)⟩
  · subst hW
    refine setRow_other w _ b _ (fun e => ?_)
    rw [e, ho1] at hn; cases hn
theorem AOps.storeG {v : AV} {cells : List AV} {id off size : Nat} {M' : Nat → Option (List AV)} (hg : Wants ops s o) (hd : o.dst = none) (ho : o.op = .store t x y) (hx : s.eval x = .gptr id off) (hc : s.mem id = some cells) (hs : SizeOf P t size) (hy : ArgOf s y v) (hok : Operand.ok y = true) (hp : v.part = true) (hfl : ∀ c ∈ v.cells, c.flat = true)
    (hsz : v.cells.length = size) (hfit : off + size ≤ cells.length) (hM : setM s.mem id (splice cells off v.cells) = M') (k : AOps P n ops rest { s with mem := M' } Q) (hall : cells.all AV.scalar = true := by first | rfl | (simp only [List.all_cons, List.all_nil, *]; rfl)) (hne : cells ≠ [] := by first | (intro h; cases h) | simp) : AOps P n ops (o :: rest) s Q :=
  AOps.storeGr hg hd ho hx hc hs (fun _G _a _w hr => hy.rel hr (ok_const hok)) hp hfl hsz hfit hM k hall hne
end
end
section
open Go.RowKit

def ptrEq : AV → AV → Option Bool
  | .lit (.pointer none), .lit (.pointer none) => some true
  | .gptr _ _, .lit (.pointer none) => some false
  | .gptr i a, .gptr j b => if i = j ∧ a = b then some true else none
  | _, _ => none

section
variable {P : Program} {n : Nat} {s : St} {ops : Array Oper} {o : Oper} {l rest : List Oper} {Q : St → Prop} {d r f : Nat} {t t' E T : TypeId} {x y : Operand} {op : BinOp}

theorem run_ptr_nn (k : Nat) (hu : P.underlying t = some (.pointer E)) (w : World) : (Op.equalIn (k + 1) t (.pointer none) (.pointer none)).run P w = .ok true w := by
  simp [Op.equalIn, run_underlying hu]
theorem run_ptr_sn (k : Nat) (a : Addr) (hu : P.underlying t = some (.pointer E)) (w : World) : (Op.equalIn (k + 1) t (.pointer (some a)) (.pointer none)).run P w = .ok false w := by
  simp [Op.equalIn, run_underlying hu]
theorem run_ptr_ss (k : Nat) (a : Addr) {size : Nat} (hu : P.underlying t = some (.pointer E)) (hs : SizeOf P E size) (_h0 : size ≠ 0) (w : World) : (Op.equalIn (k + 1) t (.pointer (some a)) (.pointer (some a))).run P w = .ok true w := by
  simp [Op.equalIn, run_underlying hu, run_size hs, run_sameAddr_same]

theorem Reader.eqPtr {xv yv : AV} {size : Nat} {b c : Bool} (ho : o.op = .binOp op t x y t') (hu : P.underlying t = some (.pointer E)) (hs : SizeOf P E size) (h0 : size ≠ 0) (hx : s.eval x = xv) (hy : s.eval y = yv) (hp : ptrEq xv yv = some b)
    (hr : (op = .eql ∧ c = b) ∨ (op = .neq ∧ c = !b)) : Reader P n s o d (.lit (.bool c)) := by
  intro G a w h
  refine ⟨.bool c, lit_toS _, fun w' _ => ?_⟩
  have key : ∃ u v, a.eval x = .pointer u ∧ a.eval y = .pointer v ∧ (Op.equalIn (9999 + 1) t (.pointer u) (.pointer v)).run P w' = .ok b w' := by
    unfold ptrEq at hp
    split at hp
    · cases hp
      exact ⟨_, _, h.evLit hx, h.evLit hy, run_ptr_nn _ hu _⟩
    · cases hp
      obtain ⟨b0, _, hb⟩ := h.evG hx
      exact ⟨_, _, hb, h.evLit hy, run_ptr_sn _ _ hu _⟩
    · split at hp
      · rename_i he
        cases hp
        obtain ⟨e1, e2⟩ := he
        subst e1; subst e2
        obtain ⟨b0, h1, hb⟩ := h.evG hx
        obtain ⟨b1, h2, hb'⟩ := h.evG hy
        rw [h1] at h2
        cases h2
        exact ⟨_, _, hb, hb', run_ptr_ss _ _ hu hs h0 _⟩
      · cases hp
    · cases hp
  obtain ⟨u, v, hu', hv', hrun⟩ := key
  rcases hr with ⟨rfl, rfl⟩ | ⟨rfl, rfl⟩
  · simp [execOp, ho, hu', hv', binOp, eqGuard, Op.equal, Op.maxDepth, hrun, Result.andThen]
  · simp [execOp, ho, hu', hv', binOp, eqGuard, Op.equal, Op.maxDepth, hrun, Result.andThen]

theorem shape_later {w w' : World} {b : Nat} {arr : Array Value} (hb : Below w.heap.size w w') (h : w.heap[b]? = some (.cells arr T (0, 0))) : w'.shape? b = some (T, arr.size) := by
  have hlt := (Array.getElem?_eq_some_iff.1 h).1
  simp [World.shape?, (hb.block b hlt).trans h]

theorem Reader.toUnsafe {id size : Nat} {cells : List AV} (ho : o.op = .convert t t' x) (h1 : P.underlying t = some (.pointer E)) (h2 : P.underlying t' = some .unsafePointer) (hE : SizeOf P E size) (h0 : size ≠ 0) (hx : s.eval x = .gptr id 0) (hc : s.mem id = some cells) (hl : 0 < cells.length) (hall : cells.all AV.scalar = true := by first | rfl | (simp only [List.all_cons, List.all_nil, *]; rfl)) (hne : cells ≠ [] := by first | (intro h; cases h) | simp) :
    Reader P n s o d (.gptr id 0) := by
  intro G a w h
  obtain ⟨b, hb, hav⟩ := h.evG hx
  obtain ⟨b', hb', hX⟩ := h.mem.obj id cells hc
  obtain ⟨hH, arr, hty⟩ := hX.cells hall hne
  rw [hb] at hb'
  cases hb'
  obtain ⟨arr', T', hh, hsz, _⟩ := hH
  rw [hh] at hty
  refine ⟨_, RelV.gptr id 0 b hb, fun w' hw => ?_⟩
  obtain ⟨i, hi, hi2⟩ := sizeOf_some hE
  have := Lib.run_to_unsafe (P := P) (w := w') (⟨b, 0, none⟩ : Addr) h1 h2 hi (by rw [hi2]; exact h0) (shape_later hw hh) (by show 0 < arr'.size; omega)
  simp [execOp, ho, hav, this]

theorem Reader.fromUnsafe {id size : Nat} {cells : List AV} (ho : o.op = .convert t t' x) (h1 : P.underlying t = some .unsafePointer) (h2 : P.underlying t' = some (.pointer E)) (hE : SizeOf P E size) (hx : s.eval x = .gptr id 0) (hc : s.mem id = some cells) (hid : id % 10000 = T)
    (hl : liesAt P P.depth T (cells.length / P.cellsOf T) 0 E 1 = true) (hall : cells.all AV.scalar = true := by first | rfl | (simp only [List.all_cons, List.all_nil, *]; rfl)) (hne : cells ≠ [] := by first | (intro h; cases h) | simp) : Reader P n s o d (.gptr id 0) := by
  intro G a w h
  obtain ⟨b, hb, hav⟩ := h.evG hx
  obtain ⟨b', hb', hX⟩ := h.mem.obj id cells hc
  obtain ⟨hH, arr, hty⟩ := hX.cells hall hne
  rw [hb] at hb'
  cases hb'
  obtain ⟨arr', T', hh, hsz, _⟩ := hH
  rw [hh] at hty
  injection hty with hty
  injection hty with _ hT _
  rw [hid] at hT
  subst hT
  refine ⟨_, RelV.gptr id 0 b hb, fun w' hw => ?_⟩
  obtain ⟨i, hi, hi2⟩ := sizeOf_some hE
  have := Lib.run_from_unsafe (P := P) (w := w') (⟨b, 0, none⟩ : Addr) h1 h2 hi (shape_later hw hh) (by show liesAt P P.depth T' (arr'.size / P.cellsOf T') 0 E 1 = true; rw [hsz]; exact hl)
  simp [execOp, ho, hav, this]

/-- An entry of the model's that answers its argument. -/
theorem Reader.same {c : Call} {id : Nat} (ho : o.op = .call c) (hc : c.callee = .value (.func f)) (ha : c.args = #[x]) (hrun : ∀ v w, (callFunc f #[v]).run P w = .ok (.value v) w) (hx : s.eval x = .gptr id 0) : Reader P n s o d (.gptr id 0) := by
  intro G a w h
  obtain ⟨b, hb, hav⟩ := h.evG hx
  refine ⟨_, RelV.gptr id 0 b hb, fun w' _ => ?_⟩
  simp [execOp, ho, resolve, hc, ha, Deferred.ofValue, invoke, hav, hrun, show a.eval (.func f) = .func (.func f) #[] #[] from rfl]

/-- nil, as a row that is owned. -/
theorem AOps.asList (E : TypeId) (hs : s.get r = .lit (.slice none 0 0)) (k : AOps P n ops l (s.put r (.list true E [])) Q) : AOps P n ops l s Q := by
  intro G a w K hr hfx hK
  refine k G a w K ⟨hr.size, hr.defers, fun i => ?_, hr.loc, hr.mem⟩ hfx hK
  show RelS P G w (.slot i) (look .any ((r, .list true E []) :: s.fr) i) _
  simp only [look]
  split
  · rename_i e
    subst e
    have := hr.slot r
    rw [hs] at this
    exact .inr ⟨rfl, .inl (RelS.lit this)⟩
  · exact hr.slot i

/-- A row goes into a cell. -/
theorem Holds.give {G : Gh} {w w' : World} {b : Nat} {own : Pos} {p : Nat → Pos} {cells : List AV} {kk r : Nat} {xs : List AV} {u : Value} {cur : Array Value} (h : Holds P G w b own p cells) (hh : w.heap[b]? = some (.cells cur T (0, 0))) (hu : RelO P G w (.slot r 0) (.list true E xs) u) (hk : kk < cells.length)
    (hw' : w' = w.setRow b (cur.toList.take kk ++ [u] ++ cur.toList.drop (kk + 1)).toArray) (st : Stab G w (G.pass (.slot r 0) (p kk)) w') (hz : w.heap.size ≤ w'.heap.size)
    (hother : ∀ q b', b' < w.heap.size → G.owner b' = some q → q ≠ own → w'.heap[b']? = w.heap[b']?) (hown : own ≠ .slot r 0) (hp : ∀ j, p j ≠ .slot r 0) (hpo : ∀ j, p j ≠ own) :
    Holds P (G.pass (.slot r 0) (p kk)) w' b own p (cells.set kk (.list true E xs)) := by
  obtain ⟨arr, T', h1, h2, h3, h4, h5, h6⟩ := h
  rw [hh] at h1
  cases h1
  refine ⟨_, T, by rw [hw']; exact setRow_heap w b cur _ T _ hh, ?_, pass_own h3 hown, h4, fun c hc => ?_, fun j c v hj hv => ?_⟩
  · simp; omega
  · rcases List.mem_or_eq_of_mem_set hc with h | h
    · exact h5 c h
    · subst h; rfl
  · have hv' : (cur.toList.take kk ++ [u] ++ cur.toList.drop (kk + 1))[j]? = some v := by simpa using hv
    rw [set_take_drop _ _ _ (by simp; omega), List.getElem?_set] at hv'
    rw [List.getElem?_set] at hj
    by_cases e : kk = j
    · subst e
      rw [if_pos rfl, if_pos hk] at hj
      rw [if_pos rfl, if_pos (by simp; omega)] at hv'
      cases hj
      cases hv'
      exact hu.move st hz (fun b' hb ho => ⟨pass_new ho, hother _ b' hb ho (fun e => hown e.symm), rfl⟩)
    · rw [if_neg e] at hj hv'
      exact (h6 j c v hj (by simpa using hv')).move st hz (fun b' hb ho => ⟨pass_own ho (hp j), hother _ b' hb ho (hpo j), rfl⟩)

theorem AOps.storeOwn {cells xs : List AV} {id kk : Nat} {M' : Nat → Option (List AV)} (hg : Wants ops s o) (hd : o.dst = none) (ho : o.op = .store t x (.tmp r)) (hx : s.eval x = .gptr id kk) (hc : s.mem id = some cells) (hs : SizeOf P t 1) (hy : s.get r = .list true E xs) (hfit : kk < cells.length)
    (hM : setM s.mem id (cells.set kk (.list true E xs)) = M') (k : AOps P n ops rest { s with fr := (r, .list false E xs) :: s.fr, mem := M' } Q) (hall : cells.all AV.scalar = true := by first | rfl | (simp only [List.all_cons, List.all_nil, *]; rfl)) (hne : cells ≠ [] := by first | (intro h; cases h) | simp) : AOps P n ops (o :: rest) s Q := by
  subst hM
  refine AOps.effect hg hd ?_ k
  intro G a w hr
  obtain ⟨b0, hb0, hav⟩ := hr.evG hx
  obtain ⟨b', hb', hX⟩ := hr.mem.obj id cells hc
  obtain ⟨hH, arr0, hty⟩ := hX.cells hall hne
  rw [hb0] at hb'
  cases hb'
  have hH0 := hH
  obtain ⟨cur, T, hh, hcs, ho1, ht1, _, _⟩ := hH0
  have hsl := hr.slot r
  rw [hy] at hsl
  have hsl' : RelO P G w (.slot r 0) (.list true E xs) (a.tmps.getD r undef) := hsl
  have hun : RelV P G w (.list false E xs) (a.tmps.getD r undef) := by
    rcases hsl'.toV with h | ⟨cs, e⟩
    · exact h
    · cases e
  have hone : (a.tmps.getD r undef).oneCell' = true := hun.oneCell rfl
  have hcl : (a.tmps.getD r undef).cells = #[a.tmps.getD r undef] := by
    generalize a.tmps.getD r undef = v at hone
    cases v <;> first | rfl | cases hone
  have hrun := run_storeVar_at (P := P) (t := t) (off := kk) (v := a.tmps.getD r undef) hh hs (by rw [hcl]; rfl) (by rw [hcl]; intro u hu; simp only [List.mem_singleton] at hu; rw [hu]; exact hone) (by omega)
  rw [hcl] at hrun
  obtain ⟨W', hW⟩ : ∃ W', W' = w.setRow b0 (cur.toList.take kk ++ [a.tmps.getD r undef] ++ cur.toList.drop (kk + 1)).toArray := ⟨_, rfl⟩
  have hrun' : (storeVar t ⟨b0, kk, none⟩ (a.tmps.getD r undef)).run P w = .ok () W' := by rw [hW]; exact hrun
  have other : ∀ q b, G.owner b = some q → q ≠ .mb id → W'.heap[b]? = w.heap[b]? := by
    intro q b h1 h2
    subst hW
    refine setRow_other w _ b _ (fun e => h2 ?_)
    rw [e, ho1] at h1
    exact (Option.some.inj h1).symm
  have st : Stab G w (G.pass (.slot r 0) (.mc id kk)) W' := by
    refine ⟨fun _ => Nat.le_refl _, fun b oo hoo => ?_, fun _ _ h => h⟩
    have hne : b ≠ b0 := fun e => by rw [e, ht1] at hoo; omega
    subst hW
    exact World.cell?_of_block (w := w) (a := ⟨b, oo, none⟩) (setRow_other w _ b _ hne)
  have hzz : W'.heap.size = w.heap.size := by rw [hW]; simp
  have hz : w.heap.size ≤ W'.heap.size := by omega
  have hmv : ∀ (q : Pos) (b : Nat), q ≠ .slot r 0 → q ≠ .mb id → b < w.heap.size → G.owner b = some q → (G.pass (.slot r 0) (.mc id kk)).owner b = some q ∧ W'.heap[b]? = w.heap[b]? ∧ (G.pass (.slot r 0) (.mc id kk)).tip b = G.tip b :=
    fun q b h1 h2 _ h => ⟨pass_own h h1, other q b h h2, rfl⟩
  refine ⟨W', G.pass (.slot r 0) (.mc id kk), ?_, ⟨hr.size, hr.defers, fun i => ?_, fun k1 cells1 hk1 => ?_, ⟨fun i cs hi => ?_, fun b hb => ⟨(hr.mem.far b (by omega)).1, pass_none (hr.mem.far b (by omega)).2⟩, hr.mem.fin⟩⟩, ⟨by rw [hW]; rfl, by rw [hW]; rfl, by rw [hW]; rfl, hz, fun b hb hn => ⟨pass_none hn, ?_, rfl⟩, st⟩⟩
  · have ev : a.eval (.tmp r) = a.tmps.getD r undef := rfl
    generalize a.tmps.getD r undef = v at hrun' ev
    simp [execOp, ho, Instr.storeAt, Instr.sureAddr, hav, ev, hrun']
  · show RelS P _ W' (.slot i) (look .any ((r, .list false E xs) :: s.fr) i) _
    simp only [look]
    by_cases e : r = i
    · subst e
      rw [if_pos rfl]
      exact hun.stab st
    · rw [if_neg e]
      exact (hr.slot i).move st hz (fun _ _ _ => rfl) (fun c b h1 h2 => hmv _ b (by intro h; injection h with h; exact e h.symm) (by intro h; cases h) h1 h2)
  · have h0 := hr.loc k1 cells1 hk1
    exact h0.move st hz (other _ _ h0.own (by intro h; cases h)) ((pass_own h0.own (by intro h; cases h)).trans h0.own.symm) rfl (fun c b h1 h2 => hmv _ b (by intro h; cases h) (by intro h; cases h) h1 h2)
  · have hi' : setM s.mem id (cells.set kk (.list true E xs)) i = some cs := hi
    by_cases e : i = id
    · subst e
      rw [setM_get] at hi'
      cases hi'
      refine ⟨b0, hb0, .inl ⟨hH.give (r := r) hh hsl' hfit hW st hz (fun q b _ h1 h2 => other q b h1 h2) (by intro h; cases h) (fun j h => by cases h) (fun j h => by cases h), ?_⟩⟩
      rw [hh] at hty
      injection hty with hty
      injection hty with _ hT _
      exact ⟨_, by rw [hW, setRow_heap w b0 cur _ T _ hh, hT]⟩
    · rw [setM_ne e] at hi'
      obtain ⟨b2, hb2, hh2⟩ := hr.mem.obj i cs hi'
      exact ⟨b2, hb2, hh2.move st hz (fun _ hw => ⟨other _ _ hw (by intro h; injection h with h; exact e h), (pass_own hw (by intro h; cases h)).trans hw.symm, rfl⟩) (fun c b h1 h2 => hmv _ b (by intro h; cases h) (by intro h; cases h) h1 h2)⟩
  · subst hW
    refine setRow_other w _ b _ (fun e => ?_)
    rw [e, ho1] at hn; cases hn

theorem cell_freeze {w : World} {g : Addr} {m : Nat} (p : Addr) : (w.freeze g m).cell? p = w.cell? p := by
  unfold World.freeze
  split
  · rfl
  · simp only [World.cell?, Array.getElem?_modify]
    by_cases e : g.block = p.block
    · rw [if_pos e]
      cases w.heap[p.block]? with
      | none => rfl
      | some o => cases o <;> rfl
    · rw [if_neg e]
theorem heap_freeze {w : World} {g : Addr} {m b : Nat} (h : b ≠ g.block) : (w.freeze g m).heap[b]? = w.heap[b]? := by
  unfold World.freeze
  split
  · rfl
  · simp [Array.getElem?_modify, Ne.symm h]
theorem size_freeze {w : World} {g : Addr} {m : Nat} : (w.freeze g m).heap.size = w.heap.size := by
  unfold World.freeze
  split <;> simp
theorem os_freeze {w : World} {g : Addr} {m : Nat} : (w.freeze g m).os = w.os := by unfold World.freeze; split <;> rfl
theorem tape_freeze {w : World} {g : Addr} {m : Nat} : (w.freeze g m).tape = w.tape := by unfold World.freeze; split <;> rfl
theorem output_freeze {w : World} {g : Addr} {m : Nat} : (w.freeze g m).output = w.output := by unfold World.freeze; split <;> rfl

/-- []byte of a row of bytes that is owned: the row, which may not be written any more. -/
theorem AOps.convBytes {xs : List AV} (hg : Wants ops s o) (hd : o.dst = some d) (hn : d < n) (ho : o.op = .convert t t (.tmp r)) (hu : P.underlying t = some (.slice E)) (hE : P.underlying E = some (.int .u8)) (hx : s.get r = .list true E xs) (hne : xs.isEmpty = false)
    (k : AOps P n ops rest { s with fr := (d, .list false E xs) :: (r, .list false E xs) :: s.fr } Q) : AOps P n ops (o :: rest) s Q := by
  refine AOps.step hg hd ?_ k
  intro G a w hr
  have hsl := hr.slot r
  rw [hx] at hsl
  have hsl' : RelO P G w (.slot r 0) (.list true E xs) (a.tmps.getD r undef) := hsl
  have hxs : xs ≠ [] := by intro h; rw [h] at hne; cases hne
  have hun : RelV P G w (.list false E xs) (a.tmps.getD r undef) := by
    rcases hsl'.toV with h | ⟨cs, e⟩
    · exact h
    · cases e
  rcases hsl' with ⟨size, us, hs, hl, hsc, hown, hrr, hb⟩ | ⟨h, _⟩
  · obtain ⟨h1, h2⟩ := hown
    rcases h2 with ⟨hv, h0⟩ | ⟨g, cap, cur, hv, _, hh, hc, hm, hz, ht⟩
    · exact absurd (List.length_eq_zero_iff.1 h0) hxs
    · rw [hv] at hun hb
      obtain ⟨hb1, hb2, hb3⟩ := hb g rfl
      have hev : a.eval (.tmp r) = .slice (some ⟨g, 0, none⟩) xs.length cap := hv
      have hsh : w.shape? g = some (E, cur.size) := by simp [World.shape?, hh]
      obtain ⟨W', hW⟩ : ∃ W', W' = w.freeze ⟨g, cur.size, none⟩ 1 := ⟨_, rfl⟩
      have hrun : (convert t t (.slice (some ⟨g, 0, none⟩) xs.length cap)).run P w = .ok (.slice (some ⟨g, 0, none⟩) xs.length cap) W' := by
        rw [hW]
        simp [convert, run_underlying hu, run_underlying hE, markStringish, hsh]
      have hoth : ∀ b, b ≠ g → W'.heap[b]? = w.heap[b]? := fun b h => by rw [hW]; exact heap_freeze h
      have st : Stab G w G W' := ⟨fun _ => Nat.le_refl _, fun b o _ => by rw [hW]; exact cell_freeze _, fun _ _ h => h⟩
      have hz' : w.heap.size ≤ W'.heap.size := by rw [hW, size_freeze]; exact Nat.le_refl _
      have hr0 := hr.unslot r
      have hT := hr0.turnX (G' := G) (w' := W') (d := d) (v := .list false E xs) (u := .slice (some ⟨g, 0, none⟩) xs.length cap) (fun i => i = r) (fun i hi => .inr (by rw [hi, get_put, un_un])) hn st hz' (fun _ _ => rfl)
        (fun q b _ h1 h2 => ⟨h1, hoth b (fun e => by subst e; rw [hb2] at h1; cases h1; exact h2 r 0 rfl rfl), rfl⟩) (fun b hb => hr.mem.far b (by rw [hW, size_freeze] at hb; exact hb)) rfl (hun.stab st)
      rw [hx] at hT
      exact ⟨_, W', G, by simp [execOp, ho, hev, hrun], hT, ⟨by rw [hW, os_freeze], by rw [hW, tape_freeze], by rw [hW, output_freeze], hz', fun b hb hn => ⟨hn, hoth b (fun e => by subst e; rw [hb2] at hn; cases hn), rfl⟩, st⟩⟩
  · exact absurd h hxs
end
end
section
open Go.RowKit

/-- The ghost of a call's start: every block stays. -/
def Gh.start (w : World) : Gh := { tip := fun b => match w.heap[b]? with | some (.cells arr _ _) => arr.size | _ => 0, owner := fun _ => none, lb := fun _ => 0, mb := fun _ => none }
theorem start_tip {w : World} {b : Nat} {arr : Array Value} {T : TypeId} {fr : Nat × Nat} (h : w.heap[b]? = some (.cells arr T fr)) : (Gh.start w).tip b = arr.size := by
  show (match w.heap[b]? with | some (.cells arr _ _) => arr.size | _ => 0) = arr.size
  rw [h]
theorem start_far {w : World} {b : Nat} (h : w.heap.size ≤ b) : (Gh.start w).tip b = 0 := by
  show (match w.heap[b]? with | some (.cells arr _ _) => arr.size | _ => 0) = 0
  rw [Array.getElem?_eq_none h]

section
variable {P : Program} {w : World} {H : Type} {enc : TypeId × Value → H} {r : Reach} {b0 : Nat} {t e : TypeId} {v : Value} {d : DataW H} {ps : List MemPlace}

theorem start_mem : RelM P (Gh.start w) w noM := ⟨(fun _ _ h => by cases h), (fun b hb => ⟨start_far hb, rfl⟩), 0, fun _ _ => rfl⟩

/-- A law's contract, as the form asks it. -/
theorem ACall.lift {f : FuncId} {args : List AV} {vs : List Value} {Q : (Nat → Option (List AV)) → Prop} (h : ACall P f args noM fun r M' => r = .lit (.bool true) ∧ Q M') (hfx : Fix (Gh.start w) w)
    (hlen : vs.length = args.length) (hrel : ∀ (j : Nat) x v, args[j]? = some x → vs[j]? = some v → RelV P (Gh.start w) w x v) : Calls P f vs.toArray w fun e w' => e = .returned (.bool true) ∧ Below w.heap.size w w' := by
  refine (h (Gh.start w) w vs start_mem hfx hlen hrel).mono ?_
  rintro e w' ⟨r, M', G', u, rfl, ⟨rfl, _⟩, _, hu, _, hk⟩
  have : u = .bool true := RelS.lit hu
  subst this
  exact ⟨rfl, hk.os, hk.tape, hk.output, hk.size, fun k hk' => (hk.free k hk' rfl).2.1⟩

end
end
section
open Go.RowKit

section
variable {P : Program} {n : Nat} {s : St} {ops : Array Oper} {o : Oper} {l rest : List Oper} {Q : St → Prop} {d r f : Nat} {t t' E T : TypeId} {x y : Operand} {k : IntKind} {i j : Int}

theorem Reader.maxI {c : Call} {m : Int} (ho : o.op = .call c) (hc : c.callee = .builtin .max) (ha : c.args = #[x, y]) (hx : s.eval x = .lit (.int k i)) (hy : s.eval y = .lit (.int k j)) (hm : max i j = m) : Reader P n s o d (.lit (.int k m)) := by
  intro G a w h
  subst hm
  refine ⟨_, lit_toS _, fun w' _ => ?_⟩
  have e1 := h.evLit hx
  have e2 := h.evLit hy
  simp [execOp, ho, resolve, hc, ha, e1, e2, invoke, builtin, Lib.run_max_ints]
theorem Reader.minI {c : Call} {m : Int} (ho : o.op = .call c) (hc : c.callee = .builtin .min) (ha : c.args = #[x, y]) (hx : s.eval x = .lit (.int k i)) (hy : s.eval y = .lit (.int k j)) (hm : min i j = m) : Reader P n s o d (.lit (.int k m)) := by
  intro G a w h
  subst hm
  refine ⟨_, lit_toS _, fun w' _ => ?_⟩
  have e1 := h.evLit hx
  have e2 := h.evLit hy
  simp [execOp, ho, resolve, hc, ha, e1, e2, invoke, builtin, Lib.run_min_ints]

/-- A new object, laid by whatever operation. -/
theorem AOps.newG (hg : Wants ops s o) (hd : o.dst = some d) (hn : d < n) (ht : t < 10000) {cells : List AV} (hsc : ∀ c ∈ cells, c.scalar = true) (hfl : ∀ c ∈ cells, c.flat = true)
    (h : ∀ (G : Gh) (a : Act) (w : World), RelSt P G n s a w → ∃ cs : List Value, RelL P G w cells cs ∧ (execOp a.eval o).run P w = .ok (.value (.pointer (some ⟨w.heap.size, 0, none⟩))) (w.alloc (.cells cs.toArray t)))
    (k : ∀ id, s.mem id = none → id % 10000 = t → AOps P n ops rest { s with fr := (d, .gptr id 0) :: s.fr, mem := setM s.mem id cells } Q) : AOps P n ops (o :: rest) s Q := by
  intro G a w K hr hfx hK
  obtain ⟨N, hN⟩ := hr.mem.fin
  have hid : (10000 * N + t) % 10000 = t := by rw [Nat.mul_add_mod]; exact Nat.mod_eq_of_lt ht
  have hge : N ≤ 10000 * N + t := Nat.le_trans (Nat.le_mul_of_pos_left N (by decide)) (Nat.le_add_right _ _)
  generalize 10000 * N + t = id at hid hge
  have hmb : G.mb id = none := hN id hge
  have hM : s.mem id = none := by
    cases hx : s.mem id with
    | none => rfl
    | some c => obtain ⟨b, hb, _⟩ := hr.mem.obj id c hx; rw [hmb] at hb; cases hb
  refine AOps.step1 hg hd hr hfx hK ?_ (k id hM hid)
  obtain ⟨cs, h2, hrun⟩ := h G a w hr
  have hfar := hr.mem.far
  have st1 : Stab G w (G.new w.heap.size (.mb id) 0) (w.alloc (.cells cs.toArray t)) := stab_new _ _ _ hfar
  have kp := keep_new (.cells cs.toArray t) (.mb id) 0 hfar
  have hT1 := hr.turn (G' := G.new w.heap.size (.mb id) 0) (d := d) (v := .lit (.pointer (some ⟨w.heap.size, 0, none⟩))) (u := .pointer (some ⟨w.heap.size, 0, none⟩)) hn st1 (by rw [size_alloc]; omega) (fun _ _ => rfl)
    (fun q b h1 h2 _ => own_new _ _ _ _ b h1 h2) (fun b hb => far_new _ _ _ hfar b hb) rfl (lit_toS _)
  let G' : Gh := { G.new w.heap.size (.mb id) 0 with mb := fun i => if i = id then some w.heap.size else G.mb i }
  have hmbG : ∀ i b, G.mb i = some b → G'.mb i = some b := fun i b h => by
    show (if i = id then some w.heap.size else G.mb i) = some b
    rw [if_neg (fun e => by subst e; rw [hmb] at h; cases h)]; exact h
  have hid' : G'.mb id = some w.heap.size := by show (if id = id then some w.heap.size else G.mb id) = _; simp
  have hT2 := hT1.reghost (G' := G') ⟨fun _ => Nat.le_refl _, fun _ _ _ => rfl, hmbG⟩ rfl rfl rfl ⟨N + id + 1, fun i hi => by
    show (if i = id then some w.heap.size else G.mb i) = none
    rw [if_neg (by omega)]; exact hN i (by omega)⟩
  have stG : Stab G w G' (w.alloc (.cells cs.toArray t)) := ⟨st1.tip, st1.cell, hmbG⟩
  refine ⟨_, _, G', hrun, ⟨hT2.size, hT2.defers, fun i => ?_, hT2.loc, ⟨fun i cells2 hi => ?_, hT2.mem.far, hT2.mem.fin⟩⟩, ⟨kp.os, kp.tape, kp.output, kp.size, kp.free, stG⟩⟩
  · rw [getD_put _ _ _ _ (by rw [hr.size]; exact hn)]
    have h0 := hT2.slot i
    rw [getD_put _ _ _ _ (by rw [hr.size]; exact hn)] at h0
    show RelS P G' _ (.slot i) (look .any ((d, .gptr id 0) :: s.fr) i) _
    have h0' : RelS P G' (w.alloc (.cells cs.toArray t)) (.slot i) (look .any ((d, .lit (.pointer (some ⟨w.heap.size, 0, none⟩))) :: s.fr) i) (if i = d then .pointer (some ⟨w.heap.size, 0, none⟩) else a.tmps.getD i undef) := h0
    simp only [look] at h0' ⊢
    by_cases e : i = d
    · subst e
      simp only [if_true]
      exact RelV.gptr id 0 _ hid'
    · rw [if_neg (Ne.symm e), if_neg e] at h0'
      rw [if_neg (Ne.symm e), if_neg e]
      exact h0'
  · by_cases e : i = id
    · subst e
      have hi' : setM s.mem i cells i = some cells2 := hi
      rw [setM_get] at hi'
      cases hi'
      refine ⟨w.heap.size, hid', .inl ⟨⟨cs.toArray, t, heap_new _ _, by simpa using h2.1, ?_, ?_, hsc, fun j c u h1 h2' => ?_⟩, cs.toArray, by rw [hid]; exact heap_new _ _⟩⟩
      · show (if w.heap.size = w.heap.size then _ else _) = _; simp
      · show (if w.heap.size = w.heap.size then _ else _) = _; simp
      · have := (h2.2 j c u h1 (by simpa using h2')).stab stG
        exact this.toO (hfl c (List.mem_of_getElem? h1))
    · have hi' : setM s.mem id cells i = some cells2 := hi
      rw [setM_ne e] at hi'
      exact hT2.mem.obj i cells2 hi'


/-- A value in an object of its own. -/
theorem AOps.boxG {v : AV} {cells : List AV} (hg : Wants ops s o) (hd : o.dst = some d) (hn : d < n) (ht : t < 10000) (ho : o.op = .box t x) (hx : ArgOf s x v) (hok : Operand.ok x = true) (hp : v.part = true) (hc : v.cells = cells) (hfl : ∀ c ∈ cells, c.flat = true)
    (k : ∀ id, s.mem id = none → id % 10000 = t → AOps P n ops rest { s with fr := (d, .gptr id 0) :: s.fr, mem := setM s.mem id cells } Q) : AOps P n ops (o :: rest) s Q := by
  subst hc
  refine AOps.newG hg hd hn ht (fun c hc => ?_) hfl ?_ k
  · cases v with
    | agg cs => exact List.all_eq_true.1 (show cs.all AV.scalar = true from hp) c hc
    | _ => simp only [AV.cells, List.mem_singleton] at hc; subst hc; exact hp
  · intro G a w hr
    obtain ⟨h2, h3⟩ := (hx.rel hr (ok_const hok)).cells hp
    exact ⟨(a.eval x).cells.toList, h2, by simp [execOp, ho, Instr.box, newVar, newRow]⟩
/-- A call of a function value. -/
theorem AOps.callV {c : Call} {ars cap args : List AV} {R : AV → (Nat → Option (List AV)) → Prop} (hg : Wants ops s o) (hd : o.dst = some d) (hn : d < n) (ho : o.op = .call c) (hc : c.callee = .value (.tmp r)) (hfn : s.get r = .fn f cap)
    (henter : ∀ (vs : Array Value) (w : World), (callFunc f vs).run P w = .ok (.enter f vs) w) (hcon : ∀ x ∈ c.args, ∀ v cs, x = .const v → v = .agg cs → ∀ c ∈ cs, c.oneCell' = true)
    (hlen : c.args.size = ars.length) (hargs : ∀ (j : Nat) x v, c.args[j]? = some x → ars[j]? = some v → ArgOf s x v) (hall : ars ++ cap = args) (h : ACall P f args s.mem R)
    (k : ∀ r M, R r M → AOps P n ops rest { (s.put d r) with mem := M } Q) : AOps P n ops (o :: rest) s Q := by
  intro G a w K hr hfx hK
  simp only [wpList]
  rw [if_pos (wants_eval hr (fun t => by omega) hg)]
  left
  unfold Oper.wp
  subst hall
  have hfv : ∃ vs : List Value, a.tmps.getD r undef = .func (.func f) #[] vs.toArray ∧ vs.length = cap.length ∧ ∀ (j : Nat) (c : AV) (v : Value), cap[j]? = some c → vs[j]? = some v → RelV P G w c v := by
    have h0 := hr.slot r
    rw [hfn] at h0
    have h1 : RelV P G w (.fn f cap) (a.tmps.getD r undef) := h0
    generalize a.tmps.getD r undef = u at h1
    cases h1 with
    | fn _ _ vs h2 h3 => exact ⟨vs, rfl, h2, h3⟩
  obtain ⟨vs, hv1, hv2, hv3⟩ := hfv
  have hev : a.eval (.tmp r) = .func (.func f) #[] vs.toArray := hv1
  have hrun : (execOp a.eval o).run P w = .ok (.enter f (c.args.map a.eval ++ vs.toArray)) w := by
    simp [execOp, ho, resolve, hc, hev, Deferred.ofValue, invoke, henter]
  rw [hrun, Oper.upon_enter]
  have hcall := h G.out w (c.args.map a.eval ++ vs.toArray).toList hr.mem.out (hfx.keep (out_keep (G := G) (w := w))) (by simp [hlen, hv2]) (fun j x v hx hv => by
    rw [Array.toList_append] at hv
    rcases Nat.lt_or_ge j ars.length with hj | hj
    · rw [List.getElem?_append_left hj] at hx
      rw [List.getElem?_append_left (by simp; omega), Array.toList_map, List.getElem?_map] at hv
      cases hy : c.args.toList[j]? with
      | none => simp [hy] at hv
      | some y =>
        simp only [hy, Option.map_some, Option.some.injEq] at hv
        subst hv
        have hy' : c.args[j]? = some y := by simpa using hy
        have := (hargs j y x hy' hx).rel hr (hcon y (by have := List.mem_of_getElem? hy; simpa using this))
        exact this.stab out_stab
    · rw [List.getElem?_append_right hj] at hx
      rw [List.getElem?_append_right (by simp; omega)] at hv
      have e : (c.args.map a.eval).toList.length = ars.length := by simp [hlen]
      rw [e] at hv
      exact (hv3 _ x v hx (by simpa using hv)).stab out_stab)
  simp only [Array.toArray_toList] at hcall
  refine hcall.mono ?_
  rintro e w' ⟨r, M', G', u, rfl, hR, hnl, hu, hm, hk⟩
  have hf : ∀ b, w'.heap.size ≤ b → (G.back G' w.heap.size d).tip b = 0 ∧ (G.back G' w.heap.size d).owner b = none := fun b hb => ⟨(hm.far b hb).1, back_none (fun h => by have := hk.size; omega) (hm.far b hb).2⟩
  have st0 : Stab G' w' (G.back G' w.heap.size d) w' := ⟨fun _ => Nat.le_refl _, fun _ _ _ => rfl, fun _ _ h => h⟩
  have st : Stab G w (G.back G' w.heap.size d) w' := (out_stab (G := G) (w := w)).trans (hk.stab.trans st0)
  have hu' : RelS P (G.back G' w.heap.size d) w' (.slot d) r u := by
    exact hu.move st0 (Nat.le_refl _) (fun k off e => by subst e; cases hnl) (fun c b hb h2 => ⟨back_res (back_foreign hk h2) h2, rfl, rfl⟩)
  have hkb : Keep G w (G.back G' w.heap.size d) w' := by
    refine ⟨hk.os, hk.tape, hk.output, hk.size, fun b hb ho => ?_, st⟩
    obtain ⟨h1, h2, h3⟩ := hk.free b hb (out_none (fun q e => by rw [ho] at e; cases e))
    exact ⟨back_none (fun _ => ho) h1, h2, h3⟩
  refine k r M' hR (G.back G' w.heap.size d) (a.put o.dst u) w' K ?_ (hfx.keep hkb) (fun s' G2 a2 w2 hq hr2 hk2 => hK s' G2 a2 w2 hq hr2 (Keep.trans hkb hk2))
  · rw [hd]
    refine ⟨by simp [Act.put, hr.size], by simpa [Act.put] using hr.defers, fun i => ?_, fun k cells hkk => ?_, ?_⟩
    · rw [getD_put _ _ _ _ (by rw [hr.size]; exact hn)]
      show RelS P _ w' (.slot i) (look .any ((d, r) :: s.fr) i) _
      simp only [look]
      by_cases e : i = d
      · subst e; simp only [if_true]; exact hu'
      · rw [if_neg (Ne.symm e), if_neg e]
        exact (hr.slot i).move st hk.size (fun _ _ _ => rfl) (fun c b h1 h2 => back_kept hk h1 h2 rfl)
    · have h0 := hr.loc k cells hkk
      have h1 := back_kept (d := d) hk h0.lt h0.own rfl
      exact h0.move st hk.size h1.2.1 (h1.1.trans h0.own.symm) h1.2.2 (fun c b h1 h2 => back_kept hk h1 h2 rfl)
    · exact hm.move st0 (Nat.le_refl _) (fun q b hq hb h2 => ⟨back_own (back_foreign hk h2) h2 hq, rfl, rfl⟩) hf rfl
end
end
section
open Go.RowKit

/-- Where a key stands. -/
def findS (k : List UInt8) : List (List UInt8 × AV) → Nat → Option (Nat × AV)
  | [], _ => none
  | p :: r, i => if k = p.1 then some (i, p.2) else findS k r (i + 1)
theorem bytes_eq {k l : List UInt8} : ((⟨k.toArray⟩ : ByteArray) == ⟨l.toArray⟩) = decide (k = l) := by
  rw [Bool.eq_iff_iff, decide_eq_true_iff]
  constructor
  · intro h
    have := MapKept.sameNow_of_keys (d := .string) (a := .string ⟨k.toArray⟩) (b := .string ⟨l.toArray⟩) trivial trivial
    obtain ⟨r, h1, h2⟩ := this
    simp only [Instr.sameNow, h, Option.some.injEq] at h1
    have h3 := h2.1 h1.symm
    simpa using h3
  · intro h
    subst h
    obtain ⟨r, h1, h2⟩ := MapKept.sameNow_of_keys (d := .string) (a := .string ⟨k.toArray⟩) (b := .string ⟨k.toArray⟩) trivial trivial
    have h3 := h2.2 rfl
    subst h3
    simpa [Instr.sameNow] using h1
section
variable {P : Program} {G G' : Gh} {w w' : World} {b : Nat} {own : Pos} {S : List (List UInt8 × AV)}
end

section
variable {P : Program} {n : Nat} {s : St} {ops : Array Oper} {o : Oper} {rest : List Oper} {Q : St → Prop} {d : Nat} {t kt et : TypeId} {x y z : Operand} {S : List (List UInt8 × AV)}

theorem RelSt.evM {G : Gh} {a : Act} {w : World} {id : Nat} (h : RelSt P G n s a w) (hx : s.eval x = .gmap id) : ∃ b, G.mb id = some b ∧ a.eval x = .map (some b) := by
  obtain ⟨p, hp⟩ := h.ev x (fun v cs e1 e2 => by subst e1; subst e2; simp [St.eval, ofConst] at hx)
  rw [hx] at hp
  generalize hav : a.eval x = va at hp
  have hp' : RelV P G w (.gmap id) va := hp
  cases hp' with
  | gmap _ b hb => exact ⟨b, hb, rfl⟩

/-- A new map. -/
theorem AOps.newMap (hg : Wants ops s o) (hd : o.dst = some d) (hn : d < n) (ho : o.op = .makeMap t none)
    (k : ∀ id, s.mem id = none → AOps P n ops rest { s with fr := (d, .gmap id) :: s.fr, mem := setM s.mem id (mapA []) } Q) : AOps P n ops (o :: rest) s Q := by
  intro G a w K hr hfx hK
  obtain ⟨N, hN⟩ := hr.mem.fin
  have hge : N ≤ N := Nat.le_refl _
  generalize hidd : N = id at hge
  have hmb : G.mb id = none := by subst hidd; exact hN _ (Nat.le_refl _)
  have hM : s.mem id = none := by
    cases hx : s.mem id with
    | none => rfl
    | some c => obtain ⟨b, hb, _⟩ := hr.mem.obj id c hx; rw [hmb] at hb; cases hb
  refine AOps.step1 hg hd hr hfx hK ?_ (k id hM)
  have hrun : (execOp a.eval o).run P w = .ok (.value (.map (some w.heap.size))) (w.alloc (.map #[] 0)) := by
    have h1 : (Instr.makeMap t none).run P w = .ok (.map (some w.heap.size)) (w.alloc (.map #[] 0)) := rfl
    simp [execOp, ho, h1]
  have hfar := hr.mem.far
  have st1 : Stab G w (G.new w.heap.size (.mb id) 0) (w.alloc (.map #[] 0)) := stab_new _ _ _ hfar
  have kp := keep_new (.map #[] 0) (.mb id) 0 hfar
  have hT1 := hr.turn (G' := G.new w.heap.size (.mb id) 0) (d := d) (v := .lit (.map (some w.heap.size))) (u := .map (some w.heap.size)) hn st1 (by rw [size_alloc]; omega) (fun _ _ => rfl)
    (fun q b h1 h2 _ => own_new _ _ _ _ b h1 h2) (fun b hb => far_new _ _ _ hfar b hb) rfl (lit_toS _)
  let G' : Gh := { G.new w.heap.size (.mb id) 0 with mb := fun i => if i = id then some w.heap.size else G.mb i }
  have hmbG : ∀ i b, G.mb i = some b → G'.mb i = some b := fun i b h => by
    show (if i = id then some w.heap.size else G.mb i) = some b
    rw [if_neg (fun e => by subst e; rw [hmb] at h; cases h)]; exact h
  have hid' : G'.mb id = some w.heap.size := by show (if id = id then some w.heap.size else G.mb id) = _; simp
  have hT2 := hT1.reghost (G' := G') ⟨fun _ => Nat.le_refl _, fun _ _ _ => rfl, hmbG⟩ rfl rfl rfl ⟨N + id + 1, fun i hi => by
    show (if i = id then some w.heap.size else G.mb i) = none
    rw [if_neg (by omega)]; exact hN i (by omega)⟩
  have stG : Stab G w G' (w.alloc (.map #[] 0)) := ⟨st1.tip, st1.cell, hmbG⟩
  refine ⟨_, _, G', hrun, ⟨hT2.size, hT2.defers, fun i => ?_, hT2.loc, ⟨fun i cells2 hi => ?_, hT2.mem.far, hT2.mem.fin⟩⟩, ⟨kp.os, kp.tape, kp.output, kp.size, kp.free, stG⟩⟩
  · rw [getD_put _ _ _ _ (by rw [hr.size]; exact hn)]
    have h0 := hT2.slot i
    rw [getD_put _ _ _ _ (by rw [hr.size]; exact hn)] at h0
    show RelS P G' _ (.slot i) (look .any ((d, .gmap id) :: s.fr) i) _
    have h0' : RelS P G' (w.alloc (.map #[] 0)) (.slot i) (look .any ((d, .lit (.map (some w.heap.size))) :: s.fr) i) (if i = d then .map (some w.heap.size) else a.tmps.getD i undef) := h0
    simp only [look] at h0' ⊢
    by_cases e : i = d
    · subst e
      simp only [if_true]
      exact RelV.gmap id _ hid'
    · rw [if_neg (Ne.symm e), if_neg e] at h0'
      rw [if_neg (Ne.symm e), if_neg e]
      exact h0'
  · by_cases e : i = id
    · subst e
      have hi' : setM s.mem i (mapA []) i = some cells2 := hi
      rw [setM_get] at hi'
      cases hi'
      refine ⟨w.heap.size, hid', .inr (.inl ⟨[], rfl, #[], 0, (MapKept.heap_alloc w _).1, ?_, ?_, ⟨rfl, rfl, fun i e h => by simp at h⟩, fun i k x h => by simp at h⟩)⟩
      · show (if w.heap.size = w.heap.size then _ else _) = _; simp
      · show (if w.heap.size = w.heap.size then _ else _) = _; simp
    · have hi' : setM s.mem id (mapA []) i = some cells2 := hi
      rw [setM_ne e] at hi'
      exact hT2.mem.obj i cells2 hi'

end
end
section
open Go.RowKit

section
variable {P : Program} {n : Nat} {s : St} {w0 : World} {Q : Exit → St → Prop} {ops : Array Oper} {b : Bool} {t : Nat}

end

section
variable {P : Program} {n : Nat} {s : St} {w0 : World} {Q : Exit → St → Prop}
end

section
variable {P : Program} {G : Gh} {w w' : World} {k : Nat}
end

section
variable {P : Program} {n : Nat} {s : St} {w0 : World} {Q : Exit → St → Prop}

end
end
section
open Go.RowKit

/-- Whatever operation comes next. -/
def AAny (P : Program) (n : Nat) (ops : Array Oper) (Q : St → Prop) : Nat → Array Bool → St → Prop
  | 0, listed, s => Region.ready .any ops listed = [] ∧ Q s
  | k + 1, listed, s => (Region.ready .any ops listed = [] → Q s) ∧ ∀ i ∈ Region.ready .any ops listed, ∃ o, ops[i]? = some o ∧ AOps P n ops [o] s fun s' => AAny P n ops Q k (listed.setIfInBounds i true) s'

section
variable {P : Program} {n : Nat} {s : St} {ops : Array Oper} {Q : St → Prop} {QE : Exit → St → Prop} {k : Nat} {listed : Array Bool}

theorem upon_same {o : Oper} {a : Act} {X : Act → World → Prop} {K : Exit → Act → World → Prop} {r : Result Next} (h : o.upon P a X (fun e a w => match e with | .normal => X a w | e => K e a w) r) : o.upon P a X K r := by
  cases r with
  | ok nx w => cases nx <;> exact h
  | halt x w => cases x <;> exact h

theorem AAny.sound : ∀ (k : Nat) (listed : Array Bool) (s : St), AAny P n ops Q k listed s → ∀ (G : Gh) (a : Act) (w : World) (K : Exit → Act → World → Prop), RelSt P G n s a w → Fix G w →
    (∀ s' G' a' w', Q s' → RelSt P G' n s' a' w' → Keep G w G' w' → K .normal a' w') → wpAny P .any ops K k listed a w
  | 0, listed, s, h, G, a, w, K, hr, _, hK => ⟨h.1, hK s G a w h.2 hr (Keep.refl _ _)⟩
  | k + 1, listed, s, h, G, a, w, K, hr, hfx, hK => by
    refine ⟨fun e => hK s G a w (h.1 e) hr (Keep.refl _ _), fun i hi => ?_⟩
    obtain ⟨o, ho, hop⟩ := h.2 i hi
    have := hop G a w (fun e a w => match e with | .normal => wpAny P .any ops K k (listed.setIfInBounds i true) a w | e => K e a w) hr hfx
      (fun s' G' a' w' hq hr' hk' => AAny.sound k _ s' hq G' a' w' K hr' (hfx.keep hk') fun s2 G2 a2 w2 hq2 hr2 hk2 => hK s2 G2 a2 w2 hq2 hr2 (hk'.trans hk2))
    unfold wpOp
    simp only [ho]
    simp only [wpList] at this
    split at this
    · rename_i hw
      rw [if_pos hw]
      rcases this with h1 | h1
      · left; exact upon_same h1
      · right; exact h1
    · rename_i hw
      rw [if_neg hw]; exact this

end
end
section
open Go.RowKit

section
variable {P : Program} {n : Nat} {s : St} {o : Oper} {d : Nat} {t t' : TypeId} {x y : Operand} {k k' : IntKind} {i j : Int}
end
section
variable {P : Program} {n : Nat} {s : St} {o : Oper} {d : Nat} {t t' : TypeId} {x y : Operand} {k k' : IntKind} {i j : Int}
end
section
variable {P : Program} {n : Nat} {s : St} {o : Oper} {d : Nat} {t t' : TypeId} {x y : Operand} {k k' : IntKind} {i j : Int}
end
section
variable {P : Program} {n : Nat} {s : St} {o : Oper} {d : Nat} {t t' : TypeId} {x y : Operand} {k k' : IntKind} {i j : Int}
end
section
variable {P : Program} {n : Nat} {s : St} {o : Oper} {d : Nat} {t t' : TypeId} {x y : Operand} {k k' : IntKind} {i j : Int}
end
section
variable {P : Program} {n : Nat} {s : St} {o : Oper} {d : Nat} {t t' : TypeId} {x y : Operand} {k k' : IntKind} {i j : Int}
end
section
variable {P : Program} {n : Nat} {s : St} {o : Oper} {d : Nat} {t t' : TypeId} {x y : Operand} {k k' : IntKind} {i j : Int}
end
section
variable {P : Program} {n : Nat} {s : St} {o : Oper} {d : Nat} {t t' : TypeId} {x y : Operand} {k k' : IntKind} {i j : Int}
end
section
variable {P : Program} {n : Nat} {s : St} {o : Oper} {d : Nat} {t t' : TypeId} {x y : Operand} {k k' : IntKind} {i j : Int}
end
section
variable {P : Program} {n : Nat} {s : St} {o : Oper} {d : Nat} {t t' : TypeId} {x y : Operand} {k k' : IntKind} {i j : Int}
end
section
variable {P : Program} {n : Nat} {s : St} {o : Oper} {d : Nat} {t t' : TypeId} {x y : Operand} {k k' : IntKind} {i j : Int}
end
section
variable {P : Program} {n : Nat} {s : St} {o : Oper} {d : Nat} {t t' : TypeId} {x y : Operand} {k k' : IntKind} {i j : Int}
end
section
variable {P : Program} {n : Nat} {s : St} {o : Oper} {d : Nat} {t t' E : TypeId} {x y : Operand} {k : IntKind} {i : Int}
end
section
variable {P : Program} {n : Nat} {s : St} {o : Oper} {d : Nat} {t t' E : TypeId} {x y : Operand} {k : IntKind} {i : Int}
end
section
variable {P : Program} {n : Nat} {s : St} {o : Oper} {d : Nat} {t t' E : TypeId} {x y : Operand} {k : IntKind} {i : Int}
end
section
variable {P : Program} {n : Nat} {s : St} {o : Oper} {d : Nat} {t t' E : TypeId} {x y : Operand} {k : IntKind} {i : Int}
end
section
variable {P : Program} {n : Nat} {s : St} {o : Oper} {d : Nat} {t t' E : TypeId} {x y : Operand} {k : IntKind} {i : Int}
end
section
variable {P : Program} {n : Nat} {s : St} {o : Oper} {d : Nat} {t t' E : TypeId} {x y : Operand} {k : IntKind} {i : Int}
end
section
variable {P : Program} {n : Nat} {s : St} {o : Oper} {d : Nat} {t t' E : TypeId} {x y : Operand} {k : IntKind} {i : Int}
end
section
variable {P : Program} {n : Nat} {s : St} {ops : Array Oper} {o : Oper} {rest : List Oper} {Q : St → Prop} {d : Nat} {t t' tx E : TypeId} {x y : Operand} {G : Gh} {a : Act} {w : World}
end
section
variable {P : Program} {n : Nat} {s : St} {ops : Array Oper} {o : Oper} {rest : List Oper} {Q : St → Prop} {d : Nat} {t t' tx E : TypeId} {x y : Operand} {G : Gh} {a : Act} {w : World}
end
section
variable {P : Program} {n : Nat} {s : St} {ops : Array Oper} {o : Oper} {rest : List Oper} {Q : St → Prop} {d : Nat} {t t' E : TypeId} {x y : Operand} {G : Gh} {a : Act} {w : World}
end
end
section
open Go.RowKit

section
variable {P : Program} {n : Nat} {s : St} {ops : Array Oper} {Q : St → Prop} {QE : Exit → St → Prop} {k d : Nat} {listed : Array Bool} {o : Oper}

end
section
variable {P : Program} {n : Nat} {s : St} {QE : Exit → St → Prop}
end
section
variable {P : Program} {n : Nat} {s : St} {ops : Array Oper} {rest : List Oper} {Q : St → Prop} {o : Oper} {x y : Operand} {t : TypeId}
end
end
section
open Go.RowKit
abbrev zI (x : Int) : AV := .lit (.int .i64 x)
abbrev zB (b : Bool) : AV := .lit (.bool b)
section
variable {P : Program} {n : Nat} {s : St} {ops : Array Oper} {o : Oper} {rest : List Oper} {Q : St → Prop} {QE : Exit → St → Prop} {d : Nat} {t t' E : TypeId} {x y : Operand} {k : IntKind} {i j : Int}
def ArgsL (s : St) : List Operand → List AV → Prop
  | [], [] => True
  | x :: xs, v :: vs => ArgOf s x v ∧ ArgsL s xs vs
  | _, _ => False
theorem al0 : ArgsL s [] [] := trivial
theorem al1 {xs : List Operand} {vs : List AV} {v : AV} (h : ArgsL s xs vs) (h1 : (s.eval x).un = v) (h2 : v.flat = true) : ArgsL s (x :: xs) (v :: vs) := ⟨.inl ⟨h1, h2⟩, h⟩
theorem al2 {xs : List Operand} {vs : List AV} {E : TypeId} (h : ArgsL s xs vs) : ArgsL s (.const (.slice none 0 0) :: xs) (.list false E [] :: vs) := ⟨.inr ⟨rfl, E, .inl rfl⟩, h⟩
theorem al3 {xs : List Operand} {vs : List AV} {u v : AV} (h : ArgsL s xs vs) (h0 : s.eval x = u) (h1 : u.un = v) (h2 : v.flat = true) : ArgsL s (x :: xs) (v :: vs) := ⟨.inl ⟨by rw [h0]; exact h1, h2⟩, h⟩
theorem un_of {a u v : AV} (h : a = u) (h2 : u.un = v) : a.un = v := by rw [h]; exact h2
theorem ArgsL.len : ∀ {xs : List Operand} {vs : List AV}, ArgsL s xs vs → xs.length = vs.length
  | [], [], _ => rfl
  | _ :: _, _ :: _, h => congrArg (· + 1) (ArgsL.len h.2)
  | [], _ :: _, h => h.elim
  | _ :: _, [], h => h.elim
theorem ArgsL.at : ∀ {xs : List Operand} {vs : List AV}, ArgsL s xs vs → ∀ (j : Nat) x v, xs[j]? = some x → vs[j]? = some v → ArgOf s x v
  | _ :: _, _ :: _, h, 0, x, v, h1, h2 => by cases h1; cases h2; exact h.1
  | _ :: _, _ :: _, h, j + 1, x, v, h1, h2 => ArgsL.at h.2 j x v h1 h2
  | [], [], _, j, x, v, h1, _ => by simp at h1
  | [], _ :: _, h, _, _, _, _, _ => h.elim
  | _ :: _, [], h, _, _, _, _, _ => h.elim
def PartsL (s : St) : List (Nat × Operand) → List (Nat × AV) → Prop
  | [], [] => True
  | p :: ps, x :: xs => (p.1 = x.1 ∧ ArgOf s p.2 x.2 ∧ x.2.part = true ∧ Operand.ok p.2 = true) ∧ PartsL s ps xs
  | _, _ => False
theorem pl0 : PartsL s [] [] := trivial
theorem pl1 {ps : List (Nat × Operand)} {xs : List (Nat × AV)} {p : Nat × Operand} {q : Nat × AV} (h : PartsL s ps xs) (h0 : p.1 = q.1) (h1 : (s.eval p.2).un = q.2) (h2 : q.2.flat = true) (h3 : q.2.part = true) (h4 : Operand.ok p.2 = true) : PartsL s (p :: ps) (q :: xs) := ⟨⟨h0, .inl ⟨h1, h2⟩, h3, h4⟩, h⟩
theorem pl2 {ps : List (Nat × Operand)} {xs : List (Nat × AV)} {m : Nat} {E : TypeId} (h : PartsL s ps xs) : PartsL s ((m, .const (.slice none 0 0)) :: ps) ((m, .list false E []) :: xs) := ⟨⟨rfl, .inr ⟨rfl, E, .inl rfl⟩, rfl, rfl⟩, h⟩
theorem pl3 {ps : List (Nat × Operand)} {xs : List (Nat × AV)} {p : Nat × Operand} {q : Nat × AV} {u : AV} (h : PartsL s ps xs) (h0 : p.1 = q.1) (hu : s.eval p.2 = u) (h1 : u.un = q.2) (h2 : q.2.flat = true) (h3 : q.2.part = true) (h4 : Operand.ok p.2 = true) : PartsL s (p :: ps) (q :: xs) := ⟨⟨h0, .inl ⟨by rw [hu]; exact h1, h2⟩, h3, h4⟩, h⟩
theorem PartsL.len : ∀ {ps : List (Nat × Operand)} {xs : List (Nat × AV)}, PartsL s ps xs → ps.length = xs.length
  | [], [], _ => rfl
  | _ :: _, _ :: _, h => congrArg (· + 1) (PartsL.len h.2)
  | [], _ :: _, h => h.elim
  | _ :: _, [], h => h.elim
theorem PartsL.at : ∀ {ps : List (Nat × Operand)} {xs : List (Nat × AV)}, PartsL s ps xs → ∀ (j : Nat) p x, ps[j]? = some p → xs[j]? = some x → p.1 = x.1 ∧ ArgOf s p.2 x.2 ∧ x.2.part = true ∧ Operand.ok p.2 = true
  | _ :: _, _ :: _, h, 0, x, v, h1, h2 => by cases h1; cases h2; exact h.1
  | _ :: _, _ :: _, h, j + 1, x, v, h1, h2 => PartsL.at h.2 j x v h1 h2
  | [], [], _, j, x, v, h1, _ => by simp at h1
  | [], _ :: _, h, _, _, _, _, _ => h.elim
  | _ :: _, [], h, _, _, _, _, _ => h.elim
theorem PartsL.of {ps : Array (Nat × Operand)} {xs : List (Nat × AV)} (h : PartsL s ps.toList xs) : Parts s ps xs := ⟨by simpa using h.len, fun j p x h1 h2 => h.at j p x (by simpa using h1) h2⟩
def ysOf : Nat → List AV → List (Nat × AV)
  | _, [] => []
  | i, x :: xs => (i, x) :: ysOf (i + 1) xs

theorem zr {v : AV} (h : Reader P n s o d v) (k : AOps P n ops rest (s.put d v) Q) (hg : Wants ops s o := by first | exact trivial | exact ⟨_, rfl, rfl⟩) (hd : o.dst = some d := by rfl) (hn : d < n := by decide) : AOps P n ops (o :: rest) s Q := AOps.read hg hd hn h k
theorem zM (v : AV) (k : AOps P n ops rest (s.put d v) Q) (ho : o.op = .move x ∨ o.op = .assign x := by first | exact .inl rfl | exact .inr rfl) (hc : Operand.ok x = true := by rfl) (hv : (s.eval x).un = v := by first | rfl | exact un_of (by assumption) rfl) (hg : Wants ops s o := by first | exact trivial | exact ⟨_, rfl, rfl⟩) (hd : o.dst = some d := by rfl) (hn : d < n := by decide) :
    AOps P n ops (o :: rest) s Q := AOps.read hg hd hn (Reader.move ho (ok_const hc) hv) k
theorem zs (k : AOps P n ops rest (s.put d (.lit undef)) Q) (hg : Skips ops s o := by exact ⟨_, _, _, _, rfl, rfl, rfl, by simp [undef]⟩) (hd : o.dst = some d := by rfl) (hn : d < n := by decide) : AOps P n ops (o :: rest) s Q := AOps.skip hg hd hn k
theorem zlG {cells : List AV} (v : AV) {k0 kk size : Nat} {D : TypeDesc} (hu : P.underlying t = some D) (hs : SizeOf P t size) (hc : s.mem k0 = some cells) (ho : o.op = .load t x := by rfl) (hx : s.eval x = .gptr k0 kk := by first | rfl | assumption)
    (hv : loaded (TypeDesc.agg D) size cells kk = some v := by rfl) (hf : v.flat = true := by rfl) (hall : cells.all AV.scalar = true := by first | rfl | (simp only [List.all_cons, List.all_nil, *]; rfl)) (hne : cells ≠ [] := by first | (intro h; cases h) | simp) : Reader P n s o d v := Reader.loadG ho hu hs hx hc hv hf hall hne
theorem zfG {kk k0 f off size : Nat} {ft : TypeId} {fs : Array Field} {F : Field} (hu : P.underlying t = some (.struct fs)) (hs : SizeOf P ft size) (ho : o.op = .fieldAddr t x f := by rfl) (hF : fs[f]? = some F := by rfl) (h1 : F.offset = off := by rfl) (h2 : F.type = ft := by rfl) (h0 : size ≠ 0 := by decide) (hx : s.eval x = .gptr kk k0 := by first | rfl | assumption) :
    Reader P n s o d (.gptr kk (k0 + off)) := Reader.fieldG ho ⟨_, _, hu, hF, h1, h2, hs⟩ h0 hx
theorem zS (l : List UInt8) {c : Call} (m : Nat) (hu : P.underlying t = some .string) (hm : l.length = m := by rfl) (ho : o.op = .call c := by rfl) (hc : c.callee = .builtin .len := by rfl) (ha : c.args = #[x] := by rfl) (ht : c.argTypes = #[t] := by rfl) (hx : s.eval x = .str l := by first | rfl | assumption) :
    Reader P n s o d (.lit (.int .i64 m)) := Reader.lenStr' ho hc ha ht hu hx hm
theorem zc {f : FuncId} {c : Call} (args : List AV) {R : AV → (Nat → Option (List AV)) → Prop} (henter : ∀ (vs : Array Value) (w : World), (callFunc f vs).run P w = .ok (.enter f vs) w) (h : ACall P f args s.mem R) (k : ∀ r M, R r M → AOps P n ops rest { (s.put d r) with mem := M } Q)
    (ho : o.op = .call c := by rfl) (hc : c.callee = .value (.func f) := by rfl) (hcon : c.args.toList.all Operand.ok = true := by rfl) (hargs : ArgsL s c.args.toList args := by repeat' first | exact al0 | refine al1 ?_ rfl rfl | refine al2 ?_ | refine al3 ?_ (by assumption) rfl rfl)
    (hg : Wants ops s o := by first | exact trivial | exact ⟨_, rfl, rfl⟩) (hd : o.dst = some d := by rfl) (hn : d < n := by decide) : AOps P n ops (o :: rest) s Q :=
  AOps.call hg hd hn ho hc henter (args_ok hcon) (by simpa using hargs.len) (fun j x v h1 h2 => hargs.at j x v (by simpa using h1) h2) h k
theorem zbS {len size : Nat} {ps : Array (Nat × Operand)} {z : Value} (Es : List TypeId) (xs : List AV) {i : TypeInfo} (hu : P.underlying t = some (.slice E)) (hi : P.info? E = some i) (k : AOps P n ops rest (s.put d (.list true E xs)) Q) (ho : o.op = .buildSlice t len ps := by rfl) (hsz : i.size = size := by rfl) (hz : i.zero = some z := by rfl) (hz1 : z.cells.toList.all (fun c => c.oneCell') = true := by rfl)
    (hpos : ¬ len * size > 2 ^ 24 ∧ ¬ len * size = 0 := by decide) (hp : PartsL s ps.toList (ysOf 0 xs) := by repeat' first | exact pl0 | refine pl1 ?_ rfl rfl rfl rfl rfl | refine pl2 ?_ | refine pl3 ?_ rfl (by assumption) rfl rfl rfl rfl) (hf : fillA (fun i => some (i * size, size)) (zcells (List.replicate len z.cells.toList).flatten Es) (ysOf 0 xs) = some (xs.flatMap AV.cells) := by rfl) (hzs : z.cells.size = size := by rfl)
    (hl : (xs.all fun x => x.cells.length == size) = true := by rfl) (hsc : (xs.all fun x => x.cells.all AV.scalar) = true := by rfl) (hlen : xs.length = len := by rfl) (hg : Wants ops s o := by first | exact trivial | exact ⟨_, rfl, rfl⟩) (hd : o.dst = some d := by rfl) (hn : d < n := by decide) : AOps P n ops (o :: rest) s Q :=
  AOps.buildSlice hg hd hn ho hu hi hsz hz hz1 hpos hp.of hf hzs rfl (all_len hl) (all_sc hsc) hlen k
theorem zg {id : Nat} {y : Code} (h : AOps P n ops ops.toList s fun s' => AWp P n y s' QE) : AWp P n (.seq (.region id ops false) y) s QE := AWp.seq (AWp.region h)
theorem zN (h : Q s) : AOps P n ops [] s Q := AOps.nil h
theorem znc (v : AV) (ho : o.op = .nilCheck x := by rfl) (hx : s.eval x = v := by first | rfl | assumption) (hv : (∃ k f, v = .lptr k f) ∨ (∃ k f, v = .gptr k f) ∨ ∃ e k, v = .eptr e k := by first | exact .inl ⟨_, _, rfl⟩ | exact .inr (.inl ⟨_, _, rfl⟩) | exact .inr (.inr ⟨_, _, rfl⟩)) : Reader P n s o d v := Reader.nilCheck ho hx hv
theorem ziG {kk k0 size len : Nat} (m : Nat) (hu : P.underlying t = some (.array len E)) (hs : SizeOf P E size) (ho : o.op = .indexAddr t x y := by rfl) (hx : s.eval x = .gptr kk k0 := by first | rfl | assumption) (hy : s.eval y = .lit (.int k i) := by first | rfl | assumption) (hi : i = m := by rfl) (hm : m < len := by decide) : Reader P n s o d (.gptr kk (k0 + m * size)) := Reader.indexG ho hu hs hx hy hi hm
theorem zap {r : Nat} {tx : TypeId} (bytes : Nat) {size : Nat} {ti : TypeInfo} {z : Value} {o2 : Bool} (xs ys zs : List AV) {c : Call} {m1 m2 : Nat} (ht : P.underlying t = some (.slice E)) (htx : P.underlying tx = some (.slice E)) (hi : P.info? E = some ti) (hm1 : xs.length = m1) (hm2 : ys.length = m2) (hzz : xs ++ ys = zs)
    (k : AOps P n ops rest { s with fr := (d, .list true E zs) :: (r, .list false E xs) :: s.fr } Q) (h63 : m1 + m2 ≤ maxLen := by first | omega | (unfold maxLen; omega)) (hb : (m1 + m2) * bytes ≤ 140737488355328 := by omega)
    (ho : o.op = .call c := by rfl) (hc : c.callee = .builtin .append := by rfl) (ha : c.args = #[.tmp r, y] := by rfl) (hat : c.argTypes = #[t, tx] := by rfl) (hz : ti.zero = some z := by rfl) (hsz : ti.size = size := by rfl) (hby : ti.bytes = bytes := by rfl) (hzs : z.cells.size = size := by rfl)
    (hx : s.get r = .list true E xs := by first | rfl | assumption) (hy : s.eval y = .list o2 E ys := by first | rfl | assumption) (hg : Wants ops s o := by first | exact trivial | exact ⟨_, rfl, rfl⟩) (hd : o.dst = some d := by rfl) (hn : d < n := by decide) (hrd : r ≠ d := by decide) : AOps P n ops (o :: rest) s Q :=
  AOps.appL hg hd hn hrd ho hc ha hat ht htx hi hz hsz hby hzs hx hy hm1 hm2 h63 hb hzz k
end
end
end Go.Proofs.YtdjojfibjbjpdaaGreatDoor
