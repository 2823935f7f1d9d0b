/- Abstract values: pieces, conversions, sources of append, makes. -/
import Derived.Test.YtfnbfkgknfagmaaAvOp2
import Derived.Lib.ConvBytes
namespace Go.Proofs.Ytfnbfkgknfagmaa
open Go.RowKit

section
variable {P : Program} {n : Nat} {s : St} {ops : Array Oper} {o : Oper} {rest : List Oper} {Q : St → Prop} {d : Nat} {t t' tx E : TypeId} {x y : Operand} {G : Gh} {a : Act} {w : World}

/-- A list's piece as what is appended. -/
theorem src_list {o2 : Bool} {ys : List AV} {size : Nat} (hk : P.underlying tx = some (.slice E)) (hs : SizeOf P E size) (hy : s.eval y = .list o2 E ys) :
    ∀ (G : Gh) (a : Act) (w : World), RelSt P G n s a w → ∃ news, Src P size tx (a.eval y) ys.length news w ∧ ∀ (j : Nat) c u, (ys.flatMap AV.cells)[j]? = some c → news[j]? = some u → RelV P G w c u := by
  intro G a w h
  obtain ⟨p, hp⟩ := h.ev y (fun v cs e1 e2 => by subst e1; subst e2; simp [St.eval, ofConst] at hy)
  rw [hy] at hp
  have hv := RelS.un (p' := p) hp
  generalize a.eval y = v at hv
  have hv' : RelV P G w (.list false E ys) v := hv
  cases hv' with
  | nil => exact ⟨[], Src.ofNil w hk 0, fun j c u h => by simp at h⟩
  | zero _ b => exact ⟨[], Src.ofSlice w hk b 0 0 [] (by simp) (fun j u h => by simp at h) (fun u h => by cases h), fun j c u h => by simp at h⟩
  | row _ _ _ b off cap size' us hs' hl hsc hcap hmax htip hc hr =>
    have hsz : size' = size := by unfold SizeOf at hs hs'; rw [hs] at hs'; exact (Option.some.inj hs').symm
    subst hsz
    obtain ⟨h1, h2, h3, h4⟩ := news_of hl hsc hc hr
    exact ⟨_, Src.ofSlice w hk ⟨b, off, none⟩ ys.length cap _ h1 h2 h3, h4⟩

theorem list_cells {o2 : Bool} {ys : List AV} {size : Nat} (hs : SizeOf P E size) (hy : s.eval y = .list o2 E ys) (G : Gh) (a : Act) (w : World) (h : RelSt P G n s a w) :
    (∀ x ∈ ys, x.cells.length = size) ∧ (∀ x ∈ ys, ∀ c ∈ x.cells, c.scalar = true) ∧ ys.length ≤ maxLen := by
  obtain ⟨p, hp⟩ := h.ev y (fun v cs e1 e2 => by subst e1; subst e2; simp [St.eval, ofConst] at hy)
  rw [hy] at hp
  have hv := RelS.un (p' := p) hp
  generalize a.eval y = v at hv
  have hv' : RelV P G w (.list false E ys) v := hv
  cases hv' with
  | nil => exact ⟨fun x h => (by cases h), fun x h => (by cases h), Nat.zero_le _⟩
  | zero => exact ⟨fun x h => (by cases h), fun x h => (by cases h), Nat.zero_le _⟩
  | row _ _ _ b off cap size' us hs' hl hsc hcap hmax htip hc hr =>
    have hsz : size' = size := by unfold SizeOf at hs hs'; rw [hs] at hs'; exact (Option.some.inj hs').symm
    subst hsz
    exact ⟨hl, hsc, Nat.le_trans hcap hmax⟩

def byteAVs (l : List UInt8) : List AV := l.map fun b => .lit (.int .u8 b.toNat)

theorem byteAVs_flat (l : List UInt8) : (byteAVs l).flatMap AV.cells = byteAVs l := by
  induction l with
  | nil => rfl
  | cons b r ih => simp only [byteAVs, List.map_cons, List.flatMap_cons] at *; rw [ih]; rfl
theorem byteAVs_cells (l : List UInt8) : ∀ x ∈ byteAVs l, x.cells.length = 1 := by
  intro x hx; obtain ⟨b, _, rfl⟩ := List.mem_map.1 hx; rfl
theorem byteAVs_scalar (l : List UInt8) : ∀ x ∈ byteAVs l, ∀ c ∈ x.cells, c.scalar = true := by
  intro x hx c hc; obtain ⟨b, _, rfl⟩ := List.mem_map.1 hx; simp [AV.cells] at hc; subst hc; rfl
theorem byteAVs_len (l : List UInt8) : (byteAVs l).length = l.length := by simp [byteAVs]
theorem byteAVs_get (l : List UInt8) (j : Nat) : (byteAVs l)[j]? = (l[j]?).map fun b => .lit (.int .u8 b.toNat) := by simp [byteAVs]

theorem src_str {l : List UInt8} (hk : P.underlying tx = some .string) (hy : s.eval y = .str l) :
    ∀ (G : Gh) (a : Act) (w : World), RelSt P G n s a w → ∃ news, Src P 1 tx (a.eval y) (byteAVs l).length news w ∧ ∀ (j : Nat) c u, ((byteAVs l).flatMap AV.cells)[j]? = some c → news[j]? = some u → RelV P G w c u := by
  intro G a w h
  rw [h.evStr hy]
  have := Src.ofString w hk ⟨l.toArray⟩
  rw [bsize] at this
  refine ⟨_, by rw [byteAVs_len]; exact this, fun j c u h1 h2 => ?_⟩
  rw [byteAVs_flat, byteAVs_get] at h1
  simp only [Go.byteCells, List.getElem?_map] at h2
  cases hb : l[j]? with
  | none => simp [hb] at h1
  | some b =>
    simp only [hb, Option.map_some, Option.some.injEq] at h1 h2
    subst h1; subst h2
    exact .lit _

/-- A piece of a text. -/
def bnd (s : St) (x : Option Operand) (dflt v : Nat) : Prop := match x with | none => v = dflt | some x => ∃ (k : IntKind) (i : Int), s.eval x = .lit (.int k i) ∧ i = v

theorem Reader.sub {l m : List UInt8} {lo hi : Option Operand} {i j : Nat} (ho : o.op = .slice t x lo hi none) (hu : P.underlying t = some .string) (hx : s.eval x = .str l) (h1 : bnd s lo 0 i) (h2 : bnd s hi l.length j) (hij : i ≤ j) (hj : j ≤ l.length) (hm : (l.take j).drop i = m) : Reader P n s o d (.str m) := by
  intro G a w h
  subst hm
  refine ⟨_, RelV.str _, fun w' _ => ?_⟩
  have hs := h.evStr hx
  have key : ∀ (b : Option Operand) (df v : Nat), bnd s b df v → (b = none ∧ v = df) ∨ ∃ x k, b = some x ∧ a.eval x = .int k v := by
    intro b df v hb
    cases b with
    | none => exact .inl ⟨rfl, hb⟩
    | some x => obtain ⟨k, i, e1, e2⟩ := hb; subst e2; exact .inr ⟨x, k, rfl, h.evLit e1⟩
  have hsz : (⟨l.toArray⟩ : ByteArray).size = l.length := rfl
  rcases key lo 0 i h1 with ⟨rfl, rfl⟩ | ⟨xl, kl, rfl, hl⟩ <;> rcases key hi l.length j h2 with ⟨rfl, rfl⟩ | ⟨xh, kh, rfl, hh⟩ <;>
    simp [execOp, ho, Instr.sliceAt, Instr.slice, run_underlying hu, hs, Instr.sliceBounds, Instr.sliceBound, asIntOf, *, bytes_extract]

/-- A piece of a list. -/
theorem Reader.piece {ow : Bool} {xs ys : List AV} {size : Nat} {lo hi : Option Operand} {i j : Nat} (ho : o.op = .slice t x lo hi none) (hu : P.underlying t = some (.slice E)) (hs : SizeOf P E size) (hx : s.eval x = .list ow E xs) (h1 : bnd s lo 0 i) (h2 : bnd s hi xs.length j) (hij : i ≤ j) (hj : j ≤ xs.length)
    (hm : (xs.take j).drop i = ys) : Reader P n s o d (.list false E ys) := by
  intro G a w h
  subst hm
  obtain ⟨p, hp⟩ := h.ev x (fun v cs e1 e2 => by subst e1; subst e2; simp [St.eval, ofConst] at hx)
  rw [hx] at hp
  have key : ∀ (b : Option Operand) (df v : Nat), bnd s b df v → (b = none ∧ v = df) ∨ ∃ x k, b = some x ∧ a.eval x = .int k v := by
    intro b df v hb
    cases b with
    | none => exact .inl ⟨rfl, hb⟩
    | some x => obtain ⟨k, i, e1, e2⟩ := hb; subst e2; exact .inr ⟨x, k, rfl, h.evLit e1⟩
  have hv := RelS.un (p' := p) hp
  generalize hav : a.eval x = v at hv
  have hv' : RelV P G w (.list false E xs) v := hv
  have hlen : ((xs.take j).drop i).length = j - i := by simp; omega
  cases hv' with
  | nil =>
    have hj0 : j = 0 := by simpa using hj
    subst hj0
    have hi0 : i = 0 := by omega
    subst hi0
    refine ⟨.slice none 0 0, RelV.nil _ _, fun w' _ => ?_⟩
    rcases key lo 0 0 h1 with ⟨rfl, e0⟩ | ⟨xl, kl, rfl, hl⟩
    · rcases key hi _ 0 h2 with ⟨rfl, e1⟩ | ⟨xh, kh, rfl, hh⟩
      · clear e1 e0
        simp [execOp, ho, Instr.sliceAt, Instr.slice, run_underlying hu, hav, Instr.sliceBounds, Instr.sliceBound, asIntOf, run_size hs]
      · clear e0
        simp [execOp, ho, Instr.sliceAt, Instr.slice, run_underlying hu, hav, Instr.sliceBounds, Instr.sliceBound, asIntOf, run_size hs, hh]
    · rcases key hi _ 0 h2 with ⟨rfl, e1⟩ | ⟨xh, kh, rfl, hh⟩
      · clear e1
        simp [execOp, ho, Instr.sliceAt, Instr.slice, run_underlying hu, hav, Instr.sliceBounds, Instr.sliceBound, asIntOf, run_size hs, hl]
      · simp [execOp, ho, Instr.sliceAt, Instr.slice, run_underlying hu, hav, Instr.sliceBounds, Instr.sliceBound, asIntOf, run_size hs, hl, hh]
  | zero _ b =>
    have hj0 : j = 0 := by simpa using hj
    subst hj0
    have hi0 : i = 0 := by omega
    subst hi0
    refine ⟨.slice (some b) 0 0, RelV.zero _ _, fun w' _ => ?_⟩
    rcases key lo 0 0 h1 with ⟨rfl, e0⟩ | ⟨xl, kl, rfl, hl⟩
    · rcases key hi _ 0 h2 with ⟨rfl, e1⟩ | ⟨xh, kh, rfl, hh⟩
      · clear e1 e0
        simp [execOp, ho, Instr.sliceAt, Instr.slice, run_underlying hu, hav, Instr.sliceBounds, Instr.sliceBound, asIntOf, run_size hs]
      · clear e0
        simp [execOp, ho, Instr.sliceAt, Instr.slice, run_underlying hu, hav, Instr.sliceBounds, Instr.sliceBound, asIntOf, run_size hs, hh]
    · rcases key hi _ 0 h2 with ⟨rfl, e1⟩ | ⟨xh, kh, rfl, hh⟩
      · clear e1
        simp [execOp, ho, Instr.sliceAt, Instr.slice, run_underlying hu, hav, Instr.sliceBounds, Instr.sliceBound, asIntOf, run_size hs, hl]
      · simp [execOp, ho, Instr.sliceAt, Instr.slice, run_underlying hu, hav, Instr.sliceBounds, Instr.sliceBound, asIntOf, run_size hs, hl, hh]
  | row _ _ _ b off cap size' us hs' hl hsc hcap hmax htip hc hr =>
    have hsz : size' = size := by unfold SizeOf at hs hs'; rw [hs] at hs'; exact (Option.some.inj hs').symm
    subst hsz
    have hrun : ∀ w' : World, (execOp a.eval o).run P w' = .ok (.value (.slice (if cap = i then some ⟨b, off, none⟩ else some ⟨b, off + i * size', none⟩) (j - i) (cap - i))) w' := by
      intro w'
      have hic : i ≤ cap := by omega
      have hjc : j ≤ cap := by omega
      rcases key lo 0 i h1 with ⟨rfl, rfl⟩ | ⟨xl, kl, rfl, hl⟩ <;> rcases key hi xs.length j h2 with ⟨rfl, rfl⟩ | ⟨xh, kh, rfl, hh⟩ <;>
        simp [execOp, ho, Instr.sliceAt, Instr.slice, run_underlying hu, hav, Instr.sliceBounds, Instr.sliceBound, asIntOf, run_size hs, add_at, *]
    have hlx : ∀ x ∈ (xs.take j).drop i, x.cells.length = size' := fun x hx => hl x (List.mem_of_mem_take (List.mem_of_mem_drop hx))
    have hscx : ∀ x ∈ (xs.take j).drop i, ∀ c ∈ x.cells, c.scalar = true := fun x hx => hsc x (List.mem_of_mem_take (List.mem_of_mem_drop hx))
    have hrow : ∀ off', (0 < j - i → off' = off + i * size') → RelV P G w (.list false E ((xs.take j).drop i)) (.slice (some ⟨b, off', none⟩) (j - i) (cap - i)) := by
      intro off' hoff
      have := RelV.row (P := P) (G := G) (w := w) false E ((xs.take j).drop i) b off' (cap - i) size' (fun m => us (i * size' + m)) hs hlx hscx (by rw [hlen]; omega) (by omega) (fun h0 => ?_) (fun m hm => ?_) (fun m c hm => ?_)
      · rw [hlen] at this; exact this
      · rw [hlen] at h0 ⊢
        rw [hoff h0]
        have := htip (by omega)
        have h5 : (i + (j - i)) * size' ≤ xs.length * size' := Nat.mul_le_mul_right _ (by omega)
        rw [Nat.add_mul] at h5
        omega
      · rw [hlen] at hm
        have h0 : 0 < j - i := by
          rcases Nat.eq_zero_or_pos (j - i) with h | h
          · rw [h] at hm; omega
          · exact h
        rw [hoff h0, Nat.add_assoc]
        refine hc _ ?_
        have h5 : (i + (j - i)) * size' ≤ xs.length * size' := Nat.mul_le_mul_right _ (by omega)
        rw [Nat.add_mul] at h5
        omega
      · have hml := (List.getElem?_eq_some_iff.1 hm).1
        rw [flat_len hlx, hlen] at hml
        refine hr (i * size' + m) c ?_
        have e : xs.flatMap AV.cells = (xs.take i).flatMap AV.cells ++ ((xs.take j).drop i).flatMap AV.cells ++ (xs.drop j).flatMap AV.cells := by
          rw [← List.flatMap_append, ← List.flatMap_append]
          congr 1
          rw [show (xs.take i) = (xs.take j).take i by rw [List.take_take, Nat.min_eq_left hij], List.take_append_drop, List.take_append_drop]
        have hl1 : ((xs.take i).flatMap AV.cells).length = i * size' := by
          rw [flat_len (fun x hx => hl x (List.mem_of_mem_take hx)), List.length_take, Nat.min_eq_left (by omega)]
        rw [e, List.append_assoc, List.getElem?_append_right (by omega), hl1, show i * size' + m - i * size' = m by omega, List.getElem?_append_left (by rw [flat_len hlx, hlen]; exact hml)]
        exact hm
    by_cases hci : cap = i
    · refine ⟨.slice (some ⟨b, off, none⟩) (j - i) (cap - i), hrow off (fun h => by omega), fun w' _ => ?_⟩
      rw [hrun w', if_pos hci]
    · refine ⟨.slice (some ⟨b, off + i * size', none⟩) (j - i) (cap - i), hrow _ (fun _ => rfl), fun w' _ => ?_⟩
      rw [hrun w', if_neg hci]

end
end Go.Proofs.Ytfnbfkgknfagmaa
