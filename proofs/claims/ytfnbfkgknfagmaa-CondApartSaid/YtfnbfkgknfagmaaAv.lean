/- Abstract values: what a Go value reads as, whatever lies where; and when a machine's state agrees with an abstract one. No program in sight. -/
import Derived.WalkKit
import Derived.Test.YtfnbfkgknfagmaaFx
import Derived.Maps.AppendAt
import Derived.Deep.MidRow
import Derived.Laws.CopyRow
namespace Go.Proofs.Ytfnbfkgknfagmaa
open Go.RowKit

/-- What a value reads as. -/
inductive AV where
  | any
  | lit (v : Value)
  | str (l : List UInt8)
  | lptr (k off : Nat)
  | gptr (id off : Nat)
  | gmap (id : Nat)
  | eptr (x : AV) (k : Nat)
  | list (own : Bool) (E : TypeId) (xs : List AV)
  | agg (cs : List AV)
  | tuple (cs : List AV)
  | fn (f : FuncId) (captured : List AV)
  | pin (x : AV) (v : Value)
  deriving Inhabited

def AV.cells : AV → List AV
  | .agg cs => cs
  | a => [a]

/-- One cell of memory may hold it. -/
def AV.scalar : AV → Bool
  | .lit v => v.oneCell'
  | .str _ | .gptr _ _ | .list _ _ _ | .fn _ _ => true
  | _ => false

/-- Who may write a block. -/
inductive Pos where
  | slot (i c : Nat) | lb (k : Nat) | lc (k j : Nat) | mb (id : Nat) | mc (id j : Nat) | res (c : Nat)
  deriving DecidableEq

def Pos.glob : Pos → Bool
  | .mb _ | .mc _ _ => true
  | _ => false

structure Gh where
  tip : Nat → Nat
  owner : Nat → Option Pos
  lb : Nat → Nat
  mb : Nat → Option Nat

def SizeOf (P : Program) (E : TypeId) (n : Nat) : Prop := (P.info? E).map (·.size) = some n

/-- A value reads as x. -/
inductive RelV (P : Program) (G : Gh) (w : World) : AV → Value → Prop
  | any (v : Value) : RelV P G w .any v
  | lit (v : Value) : RelV P G w (.lit v) v
  | str (l : List UInt8) : RelV P G w (.str l) (.string ⟨l.toArray⟩)
  | gptr (id off b : Nat) (h : G.mb id = some b) : RelV P G w (.gptr id off) (.pointer (some ⟨b, off, none⟩))
  | gmap (id b : Nat) (h : G.mb id = some b) : RelV P G w (.gmap id) (.map (some b))
  | nil (o : Bool) (E : TypeId) : RelV P G w (.list o E []) (.slice none 0 0)
  | zero (E : TypeId) (a : Addr) : RelV P G w (.list false E []) (.slice (some a) 0 0)
  | row (o : Bool) (E : TypeId) (xs : List AV) (b off cap size : Nat) (us : Nat → Value) (hs : SizeOf P E size) (hl : ∀ x ∈ xs, x.cells.length = size)
      (hsc : ∀ x ∈ xs, ∀ c ∈ x.cells, c.scalar = true) (hcap : xs.length ≤ cap) (hmax : cap ≤ maxLen) (htip : 0 < xs.length → off + xs.length * size ≤ G.tip b)
      (hc : ∀ j, j < xs.length * size → w.cell? ⟨b, off + j, none⟩ = some (us j)) (hr : ∀ (j : Nat) (c : AV), (xs.flatMap AV.cells)[j]? = some c → RelV P G w c (us j)) :
      RelV P G w (.list o E xs) (.slice (some ⟨b, off, none⟩) xs.length cap)
  | agg (cs : List AV) (vs : List Value) (hl : vs.length = cs.length) (hr : ∀ (j : Nat) (c : AV) (v : Value), cs[j]? = some c → vs[j]? = some v → RelV P G w c v) : RelV P G w (.agg cs) (.agg vs.toArray)
  | fn (f : FuncId) (cap : List AV) (vs : List Value) (hl : vs.length = cap.length) (hr : ∀ (j : Nat) (c : AV) (v : Value), cap[j]? = some c → vs[j]? = some v → RelV P G w c v) :
      RelV P G w (.fn f cap) (.func (.func f) #[] vs.toArray)
  | tuple (cs : List AV) (vs : List Value) (hl : vs.length = cs.length) (hr : ∀ (j : Nat) (c : AV) (v : Value), cs[j]? = some c → vs[j]? = some v → RelV P G w c v) : RelV P G w (.tuple cs) (.tuple vs.toArray)

/-- All that was read reads so later. -/
structure Stab (G : Gh) (w : World) (G' : Gh) (w' : World) : Prop where
  tip : ∀ b, G.tip b ≤ G'.tip b
  cell : ∀ b o, o < G.tip b → w'.cell? ⟨b, o, none⟩ = w.cell? ⟨b, o, none⟩
  mb : ∀ id b, G.mb id = some b → G'.mb id = some b

theorem Stab.refl (G : Gh) (w : World) : Stab G w G w := ⟨fun _ => Nat.le_refl _, fun _ _ _ => rfl, fun _ _ h => h⟩
theorem Stab.trans {G G1 G2 : Gh} {w w1 w2 : World} (h : Stab G w G1 w1) (k : Stab G1 w1 G2 w2) : Stab G w G2 w2 :=
  ⟨fun b => Nat.le_trans (h.tip b) (k.tip b), fun b o ho => (k.cell b o (Nat.lt_of_lt_of_le ho (h.tip b))).trans (h.cell b o ho), fun id b e => k.mb id b (h.mb id b e)⟩

theorem RelV.stab {P : Program} {G G' : Gh} {w w' : World} (s : Stab G w G' w') {x : AV} {v : Value} (h : RelV P G w x v) : RelV P G' w' x v := by
  induction h with
  | any v => exact .any v
  | lit v => exact .lit v
  | str l => exact .str l
  | gptr id off b h => exact .gptr id off b (s.mb id b h)
  | gmap id b h => exact .gmap id b (s.mb id b h)
  | nil o E => exact .nil o E
  | zero E a => exact .zero E a
  | row o E xs b off cap size us hs hl hsc hcap hmax htip hc hr ih =>
    refine .row o E xs b off cap size us hs hl hsc hcap hmax (fun h => Nat.le_trans (htip h) (s.tip b)) (fun j hj => ?_) (fun j c hj => ih j c hj)
    have h0 : 0 < xs.length := by
      rcases Nat.eq_zero_or_pos xs.length with h | h
      · rw [h] at hj; omega
      · exact h
    rw [s.cell b (off + j) (by have := htip h0; omega)]
    exact hc j hj
  | agg cs vs hl hr ih => exact .agg cs vs hl ih
  | fn f cap vs hl hr ih => exact .fn f cap vs hl ih
  | tuple cs vs hl hr ih => exact .tuple cs vs hl ih

theorem flat_len {xs : List AV} {size : Nat} (h : ∀ x ∈ xs, x.cells.length = size) : (xs.flatMap AV.cells).length = xs.length * size := by
  induction xs with
  | nil => simp
  | cons a r ih =>
    rw [List.flatMap_cons, List.length_append, ih (fun x hx => h x (List.mem_cons_of_mem _ hx)), h a (List.mem_cons_self ..), List.length_cons, Nat.add_mul]
    omega

theorem RelV.oneCell {P : Program} {G : Gh} {w : World} {x : AV} {v : Value} (h : RelV P G w x v) (hs : x.scalar = true) : v.oneCell' = true := by
  cases h with
  | lit v => exact hs
  | any | agg | tuple | gmap => cases hs
  | _ => rfl

/-- A value that may own its row: at place p. -/
def RelO (P : Program) (G : Gh) (w : World) (p : Pos) : AV → Value → Prop
  | .list true E xs, v => (∃ size us, SizeOf P E size ∧ (∀ x ∈ xs, x.cells.length = size) ∧ (∀ x ∈ xs, ∀ c ∈ x.cells, c.scalar = true) ∧ w.ownsRow 0 E size v xs.length us ∧
      (∀ (j : Nat) (c : AV) (u : Value), (xs.flatMap AV.cells)[j]? = some c → us[j]? = some u → RelV P G w c u) ∧ (∀ b, v.ownBlock = some b → b < w.heap.size ∧ G.owner b = some p ∧ G.tip b = xs.length * size)) ∨
      (xs = [] ∧ (v = .slice none 0 0 ∨ ∃ b off size, SizeOf P E size ∧ v = .slice (some ⟨b, off, none⟩) 0 0))
  | x, v => RelV P G w x v

/-- A list that owns nothing, a text, a literal. -/
def AV.plain : AV → Bool
  | .list false _ _ | .str _ | .lit _ => true
  | _ => false

/-- A value in a slot. -/
def RelS (P : Program) (G : Gh) (w : World) (p : Nat → Pos) : AV → Value → Prop
  | .lptr k off, v => v = .pointer (some ⟨G.lb k, off, none⟩)
  | .eptr x k, v => ∃ (b o : Nat) (us : Nat → Value), v = .pointer (some ⟨b, o + k, none⟩) ∧ o + x.cells.length ≤ G.tip b ∧
      (∀ (j : Nat) (c : AV), x.cells[j]? = some c → w.cell? ⟨b, o + j, none⟩ = some (us j) ∧ RelV P G w c (us j))
  | .pin x v0, v => v = v0 ∧ x.plain = true ∧ RelV P G w x v
  | .tuple cs, v => ∃ vs : List Value, v = .tuple vs.toArray ∧ vs.length = cs.length ∧ ∀ (j : Nat) (c : AV) (u : Value), cs[j]? = some c → vs[j]? = some u → RelO P G w (p j) c u
  | x, v => RelO P G w (p 0) x v

structure St where
  fr : List (Nat × AV)
  loc : List (Nat × List AV)
  mem : Nat → Option (List AV)

def look {α : Type} (d : α) : List (Nat × α) → Nat → α
  | [], _ => d
  | (k, v) :: r, i => if k = i then v else look d r i

def St.get (s : St) (i : Nat) : AV := look .any s.fr i
def lookL : List (Nat × List AV) → Nat → Option (List AV)
  | [], _ => none
  | (k, v) :: r, i => if k = i then some v else lookL r i

/-- A block of the call's own holds these cells. -/
def Holds (P : Program) (G : Gh) (w : World) (b : Nat) (own : Pos) (p : Nat → Pos) (cells : List AV) : Prop :=
  ∃ (arr : Array Value) (T : TypeId), w.heap[b]? = some (.cells arr T (0, 0)) ∧ arr.size = cells.length ∧ G.owner b = some own ∧ G.tip b = 0 ∧
    (∀ c ∈ cells, c.scalar = true) ∧ ∀ (j : Nat) (c : AV) (u : Value), cells[j]? = some c → arr[j]? = some u → RelO P G w (p j) c u

/-- A map's keys and values, as an object's cells. -/
def mapA (S : List (List UInt8 × AV)) : List AV := [.tuple (S.flatMap fun p => [.str p.1, p.2])]
theorem mapA_inj {S T : List (List UInt8 × AV)} (h : mapA S = mapA T) : S = T := by
  have h1 : (S.flatMap fun p => [AV.str p.1, p.2]) = T.flatMap fun p => [AV.str p.1, p.2] := by
    injection h with h _
    injection h
  clear h
  induction S generalizing T with
  | nil => cases T with
    | nil => rfl
    | cons b r => simp at h1
  | cons a r ih =>
    cases T with
    | nil => simp at h1
    | cons b q =>
      simp only [List.flatMap_cons, List.cons_append, List.nil_append, List.cons.injEq] at h1
      obtain ⟨e1, e2, e3⟩ := h1
      injection e1 with e1
      rw [ih e3, Prod.ext e1 e2]
/-- A map of the call's own holds these, whose keys are texts. -/
def HoldsM (P : Program) (G : Gh) (w : World) (b : Nat) (own : Pos) (S : List (List UInt8 × AV)) : Prop :=
  ∃ (es : Array MapEntry) (clock : Nat), w.heap[b]? = some (.map es clock) ∧ G.owner b = some own ∧ G.tip b = 0 ∧ (es.size = S.length ∧ clock = es.size ∧ ∀ (i : Nat) e, es[i]? = some e → e.born = i) ∧
    ∀ (i : Nat) (k : List UInt8) (x : AV), S[i]? = some (k, x) → ∃ e, es[i]? = some e ∧ e.key = .string ⟨k.toArray⟩ ∧ RelV P G w x e.val
/-- An object: some cells, or a map. -/
def HoldsX (P : Program) (G : Gh) (w : World) (b id : Nat) (cells : List AV) : Prop :=
  (Holds P G w b (.mb id) (.mc id) cells ∧ ∃ arr, w.heap[b]? = some (.cells arr (id % 10000) (0, 0))) ∨ ∃ S, cells = mapA S ∧ HoldsM P G w b (.mb id) S
theorem HoldsX.cells {P : Program} {G : Gh} {w : World} {b id : Nat} {cells : List AV} (h : HoldsX P G w b id cells) (hs : cells.all AV.scalar = true) : Holds P G w b (.mb id) (.mc id) cells ∧ ∃ arr, w.heap[b]? = some (.cells arr (id % 10000) (0, 0)) := by
  rcases h with h | ⟨S, rfl, _⟩
  · exact h
  · cases hs
theorem HoldsX.map {P : Program} {G : Gh} {w : World} {b id : Nat} {S : List (List UInt8 × AV)} (h : HoldsX P G w b id (mapA S)) : HoldsM P G w b (.mb id) S := by
  rcases h with ⟨⟨_, _, _, _, _, _, hs, _⟩, _⟩ | ⟨T, e, h⟩
  · exact absurd (hs _ (List.mem_singleton_self _)) (by simp [AV.scalar])
  · rw [mapA_inj e]; exact h

structure RelM (P : Program) (G : Gh) (w : World) (M : Nat → Option (List AV)) : Prop where
  obj : ∀ id cells, M id = some cells → ∃ b, G.mb id = some b ∧ HoldsX P G w b id cells
  far : ∀ b, w.heap.size ≤ b → G.tip b = 0 ∧ G.owner b = none
  fin : ∃ N, ∀ id, N ≤ id → G.mb id = none

structure RelSt (P : Program) (G : Gh) (n : Nat) (s : St) (a : Act) (w : World) : Prop where
  size : a.tmps.size = n
  defers : a.defers = []
  slot : ∀ i, RelS P G w (.slot i) (s.get i) (a.tmps.getD i undef)
  loc : ∀ k cells, lookL s.loc k = some cells → Holds P G w (G.lb k) (.lb k) (.lc k) cells
  mem : RelM P G w s.mem

/-- From one state to a later one: what is nobody's stays. -/
structure Keep (G : Gh) (w : World) (G' : Gh) (w' : World) : Prop where
  os : w'.os = w.os
  tape : w'.tape = w.tape
  output : w'.output = w.output
  size : w.heap.size ≤ w'.heap.size
  free : ∀ b, b < w.heap.size → G.owner b = none → G'.owner b = none ∧ w'.heap[b]? = w.heap[b]? ∧ G'.tip b = G.tip b
  stab : Stab G w G' w'

theorem Keep.refl (G : Gh) (w : World) : Keep G w G w := ⟨rfl, rfl, rfl, Nat.le_refl _, fun _ _ h => ⟨h, rfl, rfl⟩, Stab.refl _ _⟩
theorem Keep.trans {G G1 G2 : Gh} {w w1 w2 : World} (h : Keep G w G1 w1) (k : Keep G1 w1 G2 w2) : Keep G w G2 w2 :=
  ⟨k.os.trans h.os, k.tape.trans h.tape, k.output.trans h.output, Nat.le_trans h.size k.size, fun b hb ho => by
    obtain ⟨h1, h2, h3⟩ := h.free b hb ho
    obtain ⟨k1, k2, k3⟩ := k.free b (Nat.lt_of_lt_of_le hb h.size) h1
    exact ⟨k1, k2.trans h2, k3.trans h3⟩, h.stab.trans k.stab⟩

/-- The blocks of package variables that are told of: nobody owns them, so they stay. -/
def Fix (G : Gh) (w : World) : Prop := ∃ F : Nat → Option Obj, (∀ b o, F b = some o → b < w.heap.size ∧ w.heap[b]? = some o ∧ G.owner b = none) ∧ LibOK F

theorem Fix.keep {G G' : Gh} {w w' : World} (h : Fix G w) (k : Keep G w G' w') : Fix G' w' := by
  obtain ⟨F, h1, h2⟩ := h
  refine ⟨F, fun b o e => ?_, h2⟩
  obtain ⟨a1, a2, a3⟩ := h1 b o e
  obtain ⟨k1, k2, _⟩ := k.free b a1 a3
  exact ⟨Nat.lt_of_lt_of_le a1 k.size, k2.trans a2, k1⟩

/-- The abstract weakest precondition, by what it means. -/
def AWp (P : Program) (n : Nat) (c : Code) (s : St) (Q : Exit → St → Prop) : Prop :=
  ∀ (G : Gh) (a : Act) (w : World) (K : Exit → Act → World → Prop), RelSt P G n s a w → Fix G w →
    (∀ e s' G' a' w', Q e s' → RelSt P G' n s' a' w' → Keep G w G' w' → K e a' w') → c.wp P K a w

def AV.isL : AV → Bool
  | .lptr _ _ => true
  | _ => false

/-- What a call answers. -/
def ACall (P : Program) (f : FuncId) (args : List AV) (M : Nat → Option (List AV)) (R : AV → (Nat → Option (List AV)) → Prop) : Prop :=
  ∀ (G : Gh) (w : World) (vs : List Value), RelM P G w M → Fix G w → vs.length = args.length → (∀ (j : Nat) (x : AV) (v : Value), args[j]? = some x → vs[j]? = some v → RelV P G w x v) →
    Calls P f vs.toArray w fun e w' => ∃ r M' G' u, e = .returned u ∧ R r M' ∧ r.isL = false ∧ RelS P G' w' .res r u ∧ RelM P G' w' M' ∧ Keep G w G' w'

section
variable {P : Program} {n : Nat} {s : St} {Q : Exit → St → Prop}

theorem AWp.seq {x y : Code} (h : AWp P n x s fun e s' => match e with | .normal => AWp P n y s' Q | e => Q e s') : AWp P n (.seq x y) s Q := by
  intro G a w K hr hfx hK
  refine wp_seq (h G a w _ hr hfx ?_)
  intro e s' G' a' w' hq hr' hk
  cases e with
  | normal => exact hq G' a' w' K hr' (hfx.keep hk) fun e s2 G2 a2 w2 hq2 hr2 hk2 => hK e s2 G2 a2 w2 hq2 hr2 (hk.trans hk2)
  | _ => exact hK _ s' G' a' w' hq hr' hk

theorem AWp.skip (h : Q .normal s) : AWp P n .skip s Q := by
  intro G a w K hr hfx hK
  exact wp_skip (hK _ _ _ _ _ h hr (Keep.refl _ _))

theorem AWp.ret (h : Q .ret s) : AWp P n .ret s Q := by
  intro G a w K hr hfx hK
  exact wp_ret (hK _ _ _ _ _ h hr (Keep.refl _ _))

theorem AWp.exit {id : Nat} (h : Q (.exit id) s) : AWp P n (.exit id) s Q := by
  intro G a w K hr hfx hK
  exact wp_exit (hK _ _ _ _ _ h hr (Keep.refl _ _))

theorem AWp.block {id : Nat} {c : Code} (h : AWp P n c s fun e s' => match e with | .exit id' => if id' = id then Q .normal s' else Q (.exit id') s' | e => Q e s') : AWp P n (.block id c) s Q := by
  intro G a w K hr hfx hK
  refine wp_block (h G a w _ hr hfx ?_)
  intro e s' G' a' w' hq hr' hk
  cases e with
  | exit id' =>
    simp only [Exit.inBlock]
    split
    · rename_i he; simp only [he, if_true] at hq; exact hK _ _ _ _ _ hq hr' hk
    · rename_i he; simp only [he, if_false] at hq; exact hK _ _ _ _ _ hq hr' hk
  | _ => exact hK _ _ _ _ _ hq hr' hk

/-- Fewer slots and fewer blocks are spoken of. -/
def St.keep (s : St) (ls ks : List Nat) : St := ⟨ls.map fun i => (i, s.get i), ks.filterMap fun k => (lookL s.loc k).map fun c => (k, c), s.mem⟩

theorem look_map (f : Nat → AV) (ls : List Nat) (i : Nat) : look .any (ls.map fun i => (i, f i)) i = f i ∨ look .any (ls.map fun i => (i, f i)) i = .any := by
  induction ls with
  | nil => right; rfl
  | cons a r ih =>
    simp only [List.map_cons, look]
    split
    · rename_i h; subst h; left; rfl
    · exact ih

theorem lookL_keep (f : Nat → Option (List AV)) (ks : List Nat) (k : Nat) (c : List AV) (h : lookL (ks.filterMap fun k => (f k).map fun c => (k, c)) k = some c) : f k = some c := by
  induction ks with
  | nil => simp [lookL] at h
  | cons a r ih =>
    simp only [List.filterMap_cons] at h
    cases hf : f a with
    | none => simp only [hf, Option.map_none] at h; exact ih h
    | some d =>
      simp only [hf, Option.map_some, lookL] at h
      split at h
      · rename_i e; subst e; cases h; exact hf
      · exact ih h

theorem RelS.weak {G : Gh} {w : World} {p : Nat → Pos} (v : Value) : RelS P G w p .any v := RelV.any v

theorem RelSt.keep {G : Gh} {a : Act} {w : World} (h : RelSt P G n s a w) (ls ks : List Nat) : RelSt P G n (s.keep ls ks) a w := by
  refine ⟨h.size, h.defers, fun i => ?_, fun k c hc => h.loc k c (lookL_keep _ ks k c hc), h.mem⟩
  show RelS P G w (.slot i) (look .any (ls.map fun i => (i, s.get i)) i) _
  rcases look_map s.get ls i with e | e
  · rw [e]; exact h.slot i
  · rw [e]; exact RelS.weak _

theorem AWp.weak (ls ks : List Nat) {c : Code} (h : AWp P n c (s.keep ls ks) Q) : AWp P n c s Q := fun G a w K hr hfx hK => h G a w K (hr.keep ls ks) hfx hK

theorem AWp.mono {Q' : Exit → St → Prop} {c : Code} (h : AWp P n c s Q) (hq : ∀ e s', Q e s' → Q' e s') : AWp P n c s Q' :=
  fun G a w K hr hfx hK => h G a w K hr hfx fun e s' G' a' w' q => hK e s' G' a' w' (hq e s' q)

theorem wp_loop_ind {Q : Exit → Act → World → Prop} {a : Act} {w : World} {c : Code} (I : Nat → Act → World → Prop) (m : Nat) (h₀ : I m a w)
    (round : ∀ m a w, I m a w → c.wp P (Exit.then (fun a' w' => ∃ m', m' < m ∧ I m' a' w') Q) a w) : (Code.loop c).wp P Q a w := by
  intro b k cs
  have key : ∀ m a w, I m a w →
      ∃ e a' w', Q e a' w' ∧ Arrives P (lone (b.at a (.code c :: .inLoop c :: k)) cs w) b k cs e a' w' := by
    intro m
    induction m using Nat.strongRecOn with
    | _ m ih =>
      intro a w hI
      obtain ⟨e, a₁, w₁, hq, harr⟩ := round m a w hI b (.inLoop c :: k) cs
      cases e with
      | normal =>
        obtain ⟨m', hlt, hI₁⟩ := hq
        obtain ⟨e₂, a₂, w₂, hq₂, harr₂⟩ := ih m' hlt a₁ w₁ hI₁
        exact ⟨e₂, a₂, w₂, hq₂, .of_steps (Steps.trans harr (.one step_inLoop)) harr₂⟩
      | exit id => exact ⟨_, a₁, w₁, hq, .pass (x := .inLoop c) rfl (fun _ _ => .inl (by simp)) harr⟩
      | goto l => exact ⟨_, a₁, w₁, hq, .pass (x := .inLoop c) rfl (fun _ _ => .inl (by simp)) harr⟩
      | ret => exact ⟨_, a₁, w₁, hq, .pass (x := .inLoop c) rfl (fun _ _ => .inl (by simp)) harr⟩
      | panic ch => exact ⟨_, a₁, w₁, hq, .pass (x := .inLoop c) rfl (fun _ _ => .inl (by simp)) harr⟩
      | outgrown => exact ⟨_, a₁, w₁, hq, .pass (x := .inLoop c) rfl (fun _ _ => .inl (by simp)) harr⟩
  obtain ⟨e, a', w', hq, harr⟩ := key m a w h₀
  exact ⟨e, a', w', hq, .of_steps (.one step_loop) harr⟩

/-- A loop: the slots and blocks that are spoken of at its head, what holds there, and a measure. -/
theorem AWp.loop (ls ks : List Nat) (I : Nat → St → Prop) (m : Nat) {c : Code} (h0 : I m (s.keep ls ks))
    (hr : ∀ m s, I m s → AWp P n c s fun e s' => match e with | .normal => ∃ m', m' < m ∧ I m' (s'.keep ls ks) | e => Q e s') : AWp P n (.loop c) s Q := by
  intro G a w K hrel hfx hK
  refine wp_loop_ind (fun m a' w' => ∃ s' G', I m s' ∧ RelSt P G' n s' a' w' ∧ Keep G w G' w') m ⟨_, G, h0, hrel.keep ls ks, Keep.refl _ _⟩ ?_
  rintro m1 a1 w1 ⟨s1, G1, hi, hr1, hk1⟩
  refine hr _ s1 hi G1 a1 w1 _ hr1 (hfx.keep hk1) ?_
  intro e s2 G2 a2 w2 hq hr2 hk2
  cases e with
  | normal =>
    obtain ⟨m', hlt, hi'⟩ := hq
    exact ⟨m', hlt, _, G2, hi', hr2.keep ls ks, hk1.trans hk2⟩
  | _ => exact hK _ s2 G2 a2 w2 hq hr2 (hk1.trans hk2)

end
end Go.Proofs.Ytfnbfkgknfagmaa
