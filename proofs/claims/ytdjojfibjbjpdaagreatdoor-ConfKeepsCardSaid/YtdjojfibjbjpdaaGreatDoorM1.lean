/- Fx, Av, AvOps, AvRd, AvMem, AvWr, AvApp, AvApp2, AvCall, AvFun, AvBld, AvOp2. -/
import Derived.WalkKit
import Derived.Test.YtdjojfibjbjpdaaGreatDoorProg
import Derived.ShapedOpen
import Derived.Lib.LaidTab
import Derived.Lib.ItoaNum
import Derived.Maps.AppendAt
import Derived.Deep.MidRow
import Derived.Laws.CopyRow
import Derived.Laws.Strings
import Derived.ChangeKeysEq
import Derived.Great.BuildSlice
import Derived.Deep.AppendSrc
import Derived.Laws.OwnMore
namespace Go.Proofs.YtdjojfibjbjpdaaGreatDoor
section
def LibOK (F : Nat → Option Obj) : Prop := ∀ w : World, (∀ b o, F b = some o → w.heap[b]? = some o) → w.ShapedOpen Tryz.prog ∧ Lib.TabIs Tryz.prog w "internal/strconv.uint64pow10" .u64 Lib.pow10Tab ∧ (∃ v, w.cell? ⟨4, 0, none⟩ = some v ∧ (v = .nilIface ∨ ∃ te pe, v = .iface te pe)) ∧ (∃ v, w.cell? ⟨5, 0, none⟩ = some v ∧ (v = .nilIface ∨ ∃ te pe, v = .iface te pe))
end
section
open Go.RowKit

/-- What a value reads as. -/
inductive AV where
  | any
  | lit (v : Value)
  | str (l : List UInt8)
  | lptr (k off : Nat)
  | gptr (id off : Nat)
  | gmap (id : Nat)
  | gsl (id off len cap : Nat)
  | eptr (x : AV) (k : Nat)
  | list (own : Bool) (E : TypeId) (xs : List AV)
  | agg (cs : List AV)
  | tuple (cs : List AV)
  | fn (f : FuncId) (captured : List AV)
  | fnm (f : FuncId) (first : List AV)
  | pin (x : AV) (v : Value)
  deriving Inhabited

def AV.cells : AV → List AV
  | .agg cs => cs
  | a => [a]

/-- One cell of memory may hold it. -/
def AV.scalar : AV → Bool
  | .lit v => v.oneCell'
  | .str _ | .gptr _ _ | .gmap _ | .list _ _ _ | .fn _ _ | .fnm _ _ | .gsl _ _ _ _ => true
  | _ => false

/-- Who may write a block. -/
inductive Pos where
  | slot (i c : Nat) | lb (k : Nat) | lc (k j : Nat) | mb (id : Nat) | mc (id j : Nat) | res (c : Nat)
  deriving DecidableEq

def Pos.glob : Pos → Bool
  | .mb _ | .mc _ _ => true
  | _ => false

structure Gh where
  tip : Nat → Nat
  owner : Nat → Option Pos
  lb : Nat → Nat
  mb : Nat → Option Nat

def SizeOf (P : Program) (E : TypeId) (n : Nat) : Prop := (P.info? E).map (·.size) = some n

/-- A value reads as x. -/
inductive RelV (P : Program) (G : Gh) (w : World) : AV → Value → Prop
  | any (v : Value) : RelV P G w .any v
  | lit (v : Value) : RelV P G w (.lit v) v
  | str (l : List UInt8) : RelV P G w (.str l) (.string ⟨l.toArray⟩)
  | gptr (id off b : Nat) (h : G.mb id = some b) : RelV P G w (.gptr id off) (.pointer (some ⟨b, off, none⟩))
  | gmap (id b : Nat) (h : G.mb id = some b) : RelV P G w (.gmap id) (.map (some b))
  | gsl (id off len cap b : Nat) (h : G.mb id = some b) (hc : len ≤ cap) (hm : cap ≤ maxLen) : RelV P G w (.gsl id off len cap) (.slice (some ⟨b, off, none⟩) len cap)
  | gsl0 (id off : Nat) : RelV P G w (.gsl id off 0 0) (.slice none 0 0)
  | gslz (id off : Nat) (a : Addr) : RelV P G w (.gsl id off 0 0) (.slice (some a) 0 0)
  | nil (o : Bool) (E : TypeId) : RelV P G w (.list o E []) (.slice none 0 0)
  | zero (E : TypeId) (a : Addr) : RelV P G w (.list false E []) (.slice (some a) 0 0)
  | row (o : Bool) (E : TypeId) (xs : List AV) (b off cap size : Nat) (us : Nat → Value) (hs : SizeOf P E size) (hl : ∀ x ∈ xs, x.cells.length = size)
      (hsc : ∀ x ∈ xs, ∀ c ∈ x.cells, c.scalar = true) (hcap : xs.length ≤ cap) (hmax : cap ≤ maxLen) (htip : 0 < xs.length → off + xs.length * size ≤ G.tip b)
      (hc : ∀ j, j < xs.length * size → w.cell? ⟨b, off + j, none⟩ = some (us j)) (hr : ∀ (j : Nat) (c : AV), (xs.flatMap AV.cells)[j]? = some c → RelV P G w c (us j)) :
      RelV P G w (.list o E xs) (.slice (some ⟨b, off, none⟩) xs.length cap)
  | agg (cs : List AV) (vs : List Value) (hl : vs.length = cs.length) (hr : ∀ (j : Nat) (c : AV) (v : Value), cs[j]? = some c → vs[j]? = some v → RelV P G w c v) : RelV P G w (.agg cs) (.agg vs.toArray)
  | fn (f : FuncId) (cap : List AV) (vs : List Value) (hl : vs.length = cap.length) (hr : ∀ (j : Nat) (c : AV) (v : Value), cap[j]? = some c → vs[j]? = some v → RelV P G w c v) :
      RelV P G w (.fn f cap) (.func (.func f) #[] vs.toArray)
  | fnm (f : FuncId) (cap : List AV) (vs : List Value) (hl : vs.length = cap.length) (hr : ∀ (j : Nat) (c : AV) (v : Value), cap[j]? = some c → vs[j]? = some v → RelV P G w c v) :
      RelV P G w (.fnm f cap) (.func (.func f) vs.toArray #[])
  | tuple (cs : List AV) (vs : List Value) (hl : vs.length = cs.length) (hr : ∀ (j : Nat) (c : AV) (v : Value), cs[j]? = some c → vs[j]? = some v → RelV P G w c v) : RelV P G w (.tuple cs) (.tuple vs.toArray)

/-- All that was read reads so later. -/
structure Stab (G : Gh) (w : World) (G' : Gh) (w' : World) : Prop where
  tip : ∀ b, G.tip b ≤ G'.tip b
  cell : ∀ b o, o < G.tip b → w'.cell? ⟨b, o, none⟩ = w.cell? ⟨b, o, none⟩
  mb : ∀ id b, G.mb id = some b → G'.mb id = some b

theorem Stab.refl (G : Gh) (w : World) : Stab G w G w := ⟨fun _ => Nat.le_refl _, fun _ _ _ => rfl, fun _ _ h => h⟩
theorem Stab.trans {G G1 G2 : Gh} {w w1 w2 : World} (h : Stab G w G1 w1) (k : Stab G1 w1 G2 w2) : Stab G w G2 w2 :=
  ⟨fun b => Nat.le_trans (h.tip b) (k.tip b), fun b o ho => (k.cell b o (Nat.lt_of_lt_of_le ho (h.tip b))).trans (h.cell b o ho), fun id b e => k.mb id b (h.mb id b e)⟩

theorem RelV.stab {P : Program} {G G' : Gh} {w w' : World} (s : Stab G w G' w') {x : AV} {v : Value} (h : RelV P G w x v) : RelV P G' w' x v := by
  induction h with
  | any v => exact .any v
  | lit v => exact .lit v
  | str l => exact .str l
  | gptr id off b h => exact .gptr id off b (s.mb id b h)
  | gmap id b h => exact .gmap id b (s.mb id b h)
  | gsl id off len cap b h hc hm => exact .gsl id off len cap b (s.mb id b h) hc hm
  | gsl0 id off => exact .gsl0 id off
  | gslz id off a => exact .gslz id off a
  | nil o E => exact .nil o E
  | zero E a => exact .zero E a
  | row o E xs b off cap size us hs hl hsc hcap hmax htip hc hr ih =>
    refine .row o E xs b off cap size us hs hl hsc hcap hmax (fun h => Nat.le_trans (htip h) (s.tip b)) (fun j hj => ?_) (fun j c hj => ih j c hj)
    have h0 : 0 < xs.length := by
      rcases Nat.eq_zero_or_pos xs.length with h | h
      · rw [h] at hj; omega
      · exact h
    rw [s.cell b (off + j) (by have := htip h0; omega)]
    exact hc j hj
  | agg cs vs hl hr ih => exact .agg cs vs hl ih
  | fn f cap vs hl hr ih => exact .fn f cap vs hl ih
  | fnm f cap vs hl hr ih => exact .fnm f cap vs hl ih
  | tuple cs vs hl hr ih => exact .tuple cs vs hl ih

theorem flat_len {xs : List AV} {size : Nat} (h : ∀ x ∈ xs, x.cells.length = size) : (xs.flatMap AV.cells).length = xs.length * size := by
  induction xs with
  | nil => simp
  | cons a r ih =>
    rw [List.flatMap_cons, List.length_append, ih (fun x hx => h x (List.mem_cons_of_mem _ hx)), h a (List.mem_cons_self ..), List.length_cons, Nat.add_mul]
    omega

theorem RelV.oneCell {P : Program} {G : Gh} {w : World} {x : AV} {v : Value} (h : RelV P G w x v) (hs : x.scalar = true) : v.oneCell' = true := by
  cases h with
  | lit v => exact hs
  | any | agg | tuple => cases hs
  | _ => rfl

/-- A value that may own its row: at place p. -/
def RelO (P : Program) (G : Gh) (w : World) (p : Pos) : AV → Value → Prop
  | .list true E xs, v => (∃ size us, SizeOf P E size ∧ (∀ x ∈ xs, x.cells.length = size) ∧ (∀ x ∈ xs, ∀ c ∈ x.cells, c.scalar = true) ∧ w.ownsRow 0 E size v xs.length us ∧
      (∀ (j : Nat) (c : AV) (u : Value), (xs.flatMap AV.cells)[j]? = some c → us[j]? = some u → RelV P G w c u) ∧ (∀ b, v.ownBlock = some b → b < w.heap.size ∧ G.owner b = some p ∧ G.tip b = xs.length * size)) ∨
      (xs = [] ∧ (v = .slice none 0 0 ∨ ∃ b off size, SizeOf P E size ∧ v = .slice (some ⟨b, off, none⟩) 0 0))
  | x, v => RelV P G w x v

/-- A list that owns nothing, a text, a literal. -/
def AV.plain : AV → Bool
  | .list false _ _ | .str _ | .lit _ => true
  | _ => false

/-- A value in a slot. -/
def RelS (P : Program) (G : Gh) (w : World) (p : Nat → Pos) : AV → Value → Prop
  | .lptr k off, v => v = .pointer (some ⟨G.lb k, off, none⟩)
  | .eptr x k, v => ∃ (b o : Nat) (us : Nat → Value), v = .pointer (some ⟨b, o + k, none⟩) ∧ o + x.cells.length ≤ G.tip b ∧
      (∀ (j : Nat) (c : AV), x.cells[j]? = some c → w.cell? ⟨b, o + j, none⟩ = some (us j) ∧ RelV P G w c (us j))
  | .pin x v0, v => v = v0 ∧ x.plain = true ∧ RelV P G w x v
  | .tuple cs, v => ∃ vs : List Value, v = .tuple vs.toArray ∧ vs.length = cs.length ∧ ∀ (j : Nat) (c : AV) (u : Value), cs[j]? = some c → vs[j]? = some u → RelO P G w (p j) c u
  | x, v => RelO P G w (p 0) x v

structure St where
  fr : List (Nat × AV)
  loc : List (Nat × List AV)
  mem : Nat → Option (List AV)

def look {α : Type} (d : α) : List (Nat × α) → Nat → α
  | [], _ => d
  | (k, v) :: r, i => if k = i then v else look d r i

def St.get (s : St) (i : Nat) : AV := look .any s.fr i
def lookL : List (Nat × List AV) → Nat → Option (List AV)
  | [], _ => none
  | (k, v) :: r, i => if k = i then some v else lookL r i

/-- A block of the call's own holds these cells. -/
def Holds (P : Program) (G : Gh) (w : World) (b : Nat) (own : Pos) (p : Nat → Pos) (cells : List AV) : Prop :=
  ∃ (arr : Array Value) (T : TypeId), w.heap[b]? = some (.cells arr T (0, 0)) ∧ arr.size = cells.length ∧ G.owner b = some own ∧ G.tip b = 0 ∧
    (∀ c ∈ cells, c.scalar = true) ∧ ∀ (j : Nat) (c : AV) (u : Value), cells[j]? = some c → arr[j]? = some u → RelO P G w (p j) c u

/-- A map's keys and values, as an object's cells. -/
def mapA (S : List (List UInt8 × AV)) : List AV := [.tuple (S.flatMap fun p => [.str p.1, p.2])]
theorem mapA_inj {S T : List (List UInt8 × AV)} (h : mapA S = mapA T) : S = T := by
  have h1 : (S.flatMap fun p => [AV.str p.1, p.2]) = T.flatMap fun p => [AV.str p.1, p.2] := by
    injection h with h _
    injection h
  clear h
  induction S generalizing T with
  | nil => cases T with
    | nil => rfl
    | cons b r => simp at h1
  | cons a r ih =>
    cases T with
    | nil => simp at h1
    | cons b q =>
      simp only [List.flatMap_cons, List.cons_append, List.nil_append, List.cons.injEq] at h1
      obtain ⟨e1, e2, e3⟩ := h1
      injection e1 with e1
      rw [ih e3, Prod.ext e1 e2]
/-- A map of the call's own holds these, whose keys are texts. -/
def HoldsM (P : Program) (G : Gh) (w : World) (b : Nat) (own : Pos) (S : List (List UInt8 × AV)) : Prop :=
  ∃ (es : Array MapEntry) (clock : Nat), w.heap[b]? = some (.map es clock) ∧ G.owner b = some own ∧ G.tip b = 0 ∧ (es.size = S.length ∧ clock = es.size ∧ ∀ (i : Nat) e, es[i]? = some e → e.born = i) ∧
    ∀ (i : Nat) (k : List UInt8) (x : AV), S[i]? = some (k, x) → ∃ e, es[i]? = some e ∧ e.key = .string ⟨k.toArray⟩ ∧ RelV P G w x e.val
/-- A map's keys and values, as an object's cells; its keys are whatever. -/
def mapG (S : List (Value × AV)) : List AV := [.tuple (.any :: S.flatMap fun p => [.lit p.1, p.2])]
theorem mapG_inj {S T : List (Value × AV)} (h : mapG S = mapG T) : S = T := by
  have h1 : (S.flatMap fun p => [AV.lit p.1, p.2]) = T.flatMap fun p => [AV.lit p.1, p.2] := by
    injection h with h _
    injection h with h
    injection h
  clear h
  induction S generalizing T with
  | nil => cases T with
    | nil => rfl
    | cons b r => simp at h1
  | cons a r ih =>
    cases T with
    | nil => simp at h1
    | cons b q =>
      simp only [List.flatMap_cons, List.cons_append, List.nil_append, List.cons.injEq] at h1
      obtain ⟨e1, e2, e3⟩ := h1
      injection e1 with e1
      rw [ih e3, Prod.ext e1 e2]
def HoldsG (P : Program) (G : Gh) (w : World) (b : Nat) (own : Pos) (S : List (Value × AV)) : Prop :=
  ∃ (es : Array MapEntry) (clock : Nat), w.heap[b]? = some (.map es clock) ∧ G.owner b = some own ∧ G.tip b = 0 ∧ es.toList.map (·.key) = S.map (·.1) ∧
    ∀ (i : Nat) (k : Value) (x : AV), S[i]? = some (k, x) → ∃ e, es[i]? = some e ∧ RelV P G w x e.val
theorem mapG_mapA {S : List (Value × AV)} {T : List (List UInt8 × AV)} (h : mapG S = mapA T) : False := by
  injection h with h _
  injection h with h
  cases T with
  | nil => cases h
  | cons a r => simp at h
/-- A text's bytes, as an object: how many there are; what they are, if it is told. -/
def bytA (o : Option (List UInt8)) (n : Nat) : List AV := [.tuple [.tuple [], (match o with | some l => .str l | none => .any), .lit (.int .i64 n)]]
theorem bytA_inj {o o' : Option (List UInt8)} {n n' : Nat} (h : bytA o n = bytA o' n') : o = o' ∧ n = n' := by
  simp only [bytA, List.cons.injEq, AV.tuple.injEq, AV.lit.injEq, Value.int.injEq, true_and, and_true] at h
  obtain ⟨h1, h2⟩ := h
  refine ⟨?_, by omega⟩
  cases o <;> cases o' <;> simp_all
/-- Bytes that were made of a text: their row is marked, one past its end. -/
def HoldsB (G : Gh) (w : World) (b : Nat) (own : Pos) (o : Option (List UInt8)) (n : Nat) : Prop :=
  ∃ (arr : Array Value) (E : TypeId), w.heap[b]? = some (.cells arr E (arr.size, arr.size + 1)) ∧ n ≤ arr.size ∧ (∀ l, o = some l → l.length = n ∧ ∀ j, j < n → arr[j]? = some (.int .u8 (l.getD j 0).toNat)) ∧ G.owner b = some own ∧ G.tip b = 0
theorem bytA_map {o : Option (List UInt8)} {n : Nat} {T : List (List UInt8 × AV)} (h : bytA o n = mapA T) : False := by
  injection h with h _
  injection h with h
  cases T with
  | nil => cases h
  | cons a r => simp at h
theorem bytA_mapG {o : Option (List UInt8)} {n : Nat} {T : List (Value × AV)} (h : bytA o n = mapG T) : False := by
  injection h with h _
  injection h with h
  simp at h
/-- An object: some cells, a map, or a text's bytes. -/
def HoldsX (P : Program) (G : Gh) (w : World) (b id : Nat) (cells : List AV) : Prop :=
  (Holds P G w b (.mb id) (.mc id) cells ∧ ∃ arr, w.heap[b]? = some (.cells arr (id % 10000) (0, 0))) ∨ (∃ S, cells = mapA S ∧ HoldsM P G w b (.mb id) S) ∨ cells = [] ∨ (∃ S, cells = mapG S ∧ HoldsG P G w b (.mb id) S) ∨ ∃ o n, cells = bytA o n ∧ HoldsB G w b (.mb id) o n
theorem HoldsX.cells {P : Program} {G : Gh} {w : World} {b id : Nat} {cells : List AV} (h : HoldsX P G w b id cells) (hs : cells.all AV.scalar = true) (hne : cells ≠ []) : Holds P G w b (.mb id) (.mc id) cells ∧ ∃ arr, w.heap[b]? = some (.cells arr (id % 10000) (0, 0)) := by
  rcases h with h | ⟨S, rfl, _⟩ | h | ⟨S, rfl, _⟩ | ⟨o, n, rfl, _⟩
  · exact h
  · cases hs
  · exact absurd h hne
  · cases hs
  · cases hs
theorem HoldsX.map {P : Program} {G : Gh} {w : World} {b id : Nat} {S : List (List UInt8 × AV)} (h : HoldsX P G w b id (mapA S)) : HoldsM P G w b (.mb id) S := by
  rcases h with ⟨⟨_, _, _, _, _, _, hs, _⟩, _⟩ | ⟨T, e, h⟩ | h | ⟨T, e, _⟩ | ⟨o, n, e, _⟩
  · exact absurd (hs _ (List.mem_singleton_self _)) (by simp [AV.scalar])
  · rw [mapA_inj e]; exact h
  · cases h
  · exact (mapG_mapA e.symm).elim
  · exact (bytA_map e.symm).elim
theorem HoldsX.mapG {P : Program} {G : Gh} {w : World} {b id : Nat} {S : List (Value × AV)} (h : HoldsX P G w b id (mapG S)) : HoldsG P G w b (.mb id) S := by
  rcases h with ⟨⟨_, _, _, _, _, _, hs, _⟩, _⟩ | ⟨T, e, h⟩ | h | ⟨T, e, h⟩ | ⟨o, n, e, _⟩
  · exact absurd (hs _ (List.mem_singleton_self _)) (by simp [AV.scalar])
  · exact (mapG_mapA e).elim
  · cases h
  · rw [mapG_inj e]; exact h
  · exact (bytA_mapG e.symm).elim
theorem HoldsX.byt {P : Program} {G : Gh} {w : World} {b id : Nat} {o : Option (List UInt8)} {n : Nat} (h : HoldsX P G w b id (bytA o n)) : HoldsB G w b (.mb id) o n := by
  rcases h with ⟨⟨_, _, _, _, _, _, hs, _⟩, _⟩ | ⟨T, e, h⟩ | h | ⟨T, e, h⟩ | ⟨o, n, e, h⟩
  · exact absurd (hs _ (List.mem_singleton_self _)) (by simp [AV.scalar])
  · exact (bytA_map e).elim
  · cases h
  · exact (bytA_mapG e).elim
  · obtain ⟨rfl, rfl⟩ := bytA_inj e; exact h

structure RelM (P : Program) (G : Gh) (w : World) (M : Nat → Option (List AV)) : Prop where
  obj : ∀ id cells, M id = some cells → ∃ b, G.mb id = some b ∧ HoldsX P G w b id cells
  far : ∀ b, w.heap.size ≤ b → G.tip b = 0 ∧ G.owner b = none
  fin : ∃ N, ∀ id, N ≤ id → G.mb id = none

structure RelSt (P : Program) (G : Gh) (n : Nat) (s : St) (a : Act) (w : World) : Prop where
  size : a.tmps.size = n
  defers : a.defers = []
  slot : ∀ i, RelS P G w (.slot i) (s.get i) (a.tmps.getD i undef)
  loc : ∀ k cells, lookL s.loc k = some cells → Holds P G w (G.lb k) (.lb k) (.lc k) cells
  mem : RelM P G w s.mem

/-- From one state to a later one: what is nobody's stays. -/
structure Keep (G : Gh) (w : World) (G' : Gh) (w' : World) : Prop where
  os : w'.os = w.os
  tape : w'.tape = w.tape
  output : w'.output = w.output
  size : w.heap.size ≤ w'.heap.size
  free : ∀ b, b < w.heap.size → G.owner b = none → G'.owner b = none ∧ w'.heap[b]? = w.heap[b]? ∧ G'.tip b = G.tip b
  stab : Stab G w G' w'

theorem Keep.refl (G : Gh) (w : World) : Keep G w G w := ⟨rfl, rfl, rfl, Nat.le_refl _, fun _ _ h => ⟨h, rfl, rfl⟩, Stab.refl _ _⟩
theorem Keep.trans {G G1 G2 : Gh} {w w1 w2 : World} (h : Keep G w G1 w1) (k : Keep G1 w1 G2 w2) : Keep G w G2 w2 :=
  ⟨k.os.trans h.os, k.tape.trans h.tape, k.output.trans h.output, Nat.le_trans h.size k.size, fun b hb ho => by
    obtain ⟨h1, h2, h3⟩ := h.free b hb ho
    obtain ⟨k1, k2, k3⟩ := k.free b (Nat.lt_of_lt_of_le hb h.size) h1
    exact ⟨k1, k2.trans h2, k3.trans h3⟩, h.stab.trans k.stab⟩

/-- The blocks of package variables that are told of: nobody owns them, so they stay. -/
def Fix (G : Gh) (w : World) : Prop := ∃ F : Nat → Option Obj, (∀ b o, F b = some o → b < w.heap.size ∧ w.heap[b]? = some o ∧ G.owner b = none) ∧ LibOK F

theorem Fix.keep {G G' : Gh} {w w' : World} (h : Fix G w) (k : Keep G w G' w') : Fix G' w' := by
  obtain ⟨F, h1, h2⟩ := h
  refine ⟨F, fun b o e => ?_, h2⟩
  obtain ⟨a1, a2, a3⟩ := h1 b o e
  obtain ⟨k1, k2, _⟩ := k.free b a1 a3
  exact ⟨Nat.lt_of_lt_of_le a1 k.size, k2.trans a2, k1⟩

/-- The abstract weakest precondition, by what it means. -/
def AWp (P : Program) (n : Nat) (c : Code) (s : St) (Q : Exit → St → Prop) : Prop :=
  ∀ (G : Gh) (a : Act) (w : World) (K : Exit → Act → World → Prop), RelSt P G n s a w → Fix G w →
    (∀ e s' G' a' w', Q e s' → RelSt P G' n s' a' w' → Keep G w G' w' → K e a' w') → c.wp P K a w

def AV.isL : AV → Bool
  | .lptr _ _ => true
  | _ => false

/-- What a call answers. -/
def ACall (P : Program) (f : FuncId) (args : List AV) (M : Nat → Option (List AV)) (R : AV → (Nat → Option (List AV)) → Prop) : Prop :=
  ∀ (G : Gh) (w : World) (vs : List Value), RelM P G w M → Fix G w → vs.length = args.length → (∀ (j : Nat) (x : AV) (v : Value), args[j]? = some x → vs[j]? = some v → RelV P G w x v) →
    Calls P f vs.toArray w fun e w' => ∃ r M' G' u, e = .returned u ∧ R r M' ∧ r.isL = false ∧ RelS P G' w' .res r u ∧ RelM P G' w' M' ∧ Keep G w G' w'

section
variable {P : Program} {n : Nat} {s : St} {Q : Exit → St → Prop}

theorem AWp.seq {x y : Code} (h : AWp P n x s fun e s' => match e with | .normal => AWp P n y s' Q | e => Q e s') : AWp P n (.seq x y) s Q := by
  intro G a w K hr hfx hK
  refine wp_seq (h G a w _ hr hfx ?_)
  intro e s' G' a' w' hq hr' hk
  cases e with
  | normal => exact hq G' a' w' K hr' (hfx.keep hk) fun e s2 G2 a2 w2 hq2 hr2 hk2 => hK e s2 G2 a2 w2 hq2 hr2 (hk.trans hk2)
  | _ => exact hK _ s' G' a' w' hq hr' hk

theorem AWp.skip (h : Q .normal s) : AWp P n .skip s Q := by
  intro G a w K hr hfx hK
  exact wp_skip (hK _ _ _ _ _ h hr (Keep.refl _ _))

theorem AWp.ret (h : Q .ret s) : AWp P n .ret s Q := by
  intro G a w K hr hfx hK
  exact wp_ret (hK _ _ _ _ _ h hr (Keep.refl _ _))

/-- Fewer slots and fewer blocks are spoken of. -/
def St.keep (s : St) (ls ks : List Nat) : St := ⟨ls.map fun i => (i, s.get i), ks.filterMap fun k => (lookL s.loc k).map fun c => (k, c), s.mem⟩

theorem look_map (f : Nat → AV) (ls : List Nat) (i : Nat) : look .any (ls.map fun i => (i, f i)) i = f i ∨ look .any (ls.map fun i => (i, f i)) i = .any := by
  induction ls with
  | nil => right; rfl
  | cons a r ih =>
    simp only [List.map_cons, look]
    split
    · rename_i h; subst h; left; rfl
    · exact ih

theorem lookL_keep (f : Nat → Option (List AV)) (ks : List Nat) (k : Nat) (c : List AV) (h : lookL (ks.filterMap fun k => (f k).map fun c => (k, c)) k = some c) : f k = some c := by
  induction ks with
  | nil => simp [lookL] at h
  | cons a r ih =>
    simp only [List.filterMap_cons] at h
    cases hf : f a with
    | none => simp only [hf, Option.map_none] at h; exact ih h
    | some d =>
      simp only [hf, Option.map_some, lookL] at h
      split at h
      · rename_i e; subst e; cases h; exact hf
      · exact ih h

theorem RelS.weak {G : Gh} {w : World} {p : Nat → Pos} (v : Value) : RelS P G w p .any v := RelV.any v

theorem RelSt.keep {G : Gh} {a : Act} {w : World} (h : RelSt P G n s a w) (ls ks : List Nat) : RelSt P G n (s.keep ls ks) a w := by
  refine ⟨h.size, h.defers, fun i => ?_, fun k c hc => h.loc k c (lookL_keep _ ks k c hc), h.mem⟩
  show RelS P G w (.slot i) (look .any (ls.map fun i => (i, s.get i)) i) _
  rcases look_map s.get ls i with e | e
  · rw [e]; exact h.slot i
  · rw [e]; exact RelS.weak _

theorem wp_loop_ind {Q : Exit → Act → World → Prop} {a : Act} {w : World} {c : Code} (I : Nat → Act → World → Prop) (m : Nat) (h₀ : I m a w)
    (round : ∀ m a w, I m a w → c.wp P (Exit.then (fun a' w' => ∃ m', m' < m ∧ I m' a' w') Q) a w) : (Code.loop c).wp P Q a w := by
  intro b k cs
  have key : ∀ m a w, I m a w →
      ∃ e a' w', Q e a' w' ∧ Arrives P (lone (b.at a (.code c :: .inLoop c :: k)) cs w) b k cs e a' w' := by
    intro m
    induction m using Nat.strongRecOn with
    | _ m ih =>
      intro a w hI
      obtain ⟨e, a₁, w₁, hq, harr⟩ := round m a w hI b (.inLoop c :: k) cs
      cases e with
      | normal =>
        obtain ⟨m', hlt, hI₁⟩ := hq
        obtain ⟨e₂, a₂, w₂, hq₂, harr₂⟩ := ih m' hlt a₁ w₁ hI₁
        exact ⟨e₂, a₂, w₂, hq₂, .of_steps (Steps.trans harr (.one step_inLoop)) harr₂⟩
      | exit id => exact ⟨_, a₁, w₁, hq, .pass (x := .inLoop c) rfl (fun _ _ => .inl (by simp)) harr⟩
      | goto l => exact ⟨_, a₁, w₁, hq, .pass (x := .inLoop c) rfl (fun _ _ => .inl (by simp)) harr⟩
      | ret => exact ⟨_, a₁, w₁, hq, .pass (x := .inLoop c) rfl (fun _ _ => .inl (by simp)) harr⟩
      | panic ch => exact ⟨_, a₁, w₁, hq, .pass (x := .inLoop c) rfl (fun _ _ => .inl (by simp)) harr⟩
      | outgrown => exact ⟨_, a₁, w₁, hq, .pass (x := .inLoop c) rfl (fun _ _ => .inl (by simp)) harr⟩
  obtain ⟨e, a', w', hq, harr⟩ := key m a w h₀
  exact ⟨e, a', w', hq, .of_steps (.one step_loop) harr⟩

end
end
section
open Go.RowKit

/-- A constant, as it reads. -/
def ofCell : Value → AV
  | .string s => .str s.data.toList
  | .slice none 0 0 => .list false 0 []
  | v => .lit v
def ofConst : Value → AV
  | .string s => .str s.data.toList
  | .slice none 0 0 => .list true 0 []
  | .agg cs => .agg (cs.toList.map ofCell)
  | v => .lit v

def St.eval (s : St) : Operand → AV
  | .tmp t => s.get t
  | .const v => ofConst v
  | .func f => .fn f []
  | .global _ => .any

def St.put (s : St) (d : Nat) (v : AV) : St := { s with fr := (d, v) :: s.fr }

/-- A copy: who owns the row stays who owned it. -/
def AV.un1 : AV → AV
  | .list _ E xs => .list false E xs
  | c => c
def AV.un : AV → AV
  | .list _ E xs => .list false E xs
  | .tuple cs => .tuple (cs.map AV.un1)
  | .pin x _ => x.un
  | v => v

def AV.flat : AV → Bool
  | .lptr _ _ | .eptr _ _ | .tuple _ | .list true _ _ | .pin _ _ => false
  | _ => true

section
variable {P : Program} {G : Gh} {w : World} {p : Nat → Pos} {q : Pos}

theorem RelO.toV {x : AV} {v : Value} (h : RelO P G w q x v) : RelV P G w x.un v ∨ ∃ cs, x = .tuple cs := by
  cases x with
  | tuple cs => exact .inr ⟨_, rfl⟩
  | pin x u => have h' : RelV P G w (.pin x u) v := h; cases h'
  | list o E xs =>
    left
    cases o with
    | false => exact h
    | true =>
      rcases h with ⟨size, us, hs, hl, hsc, hown, hr, hb⟩ | ⟨rfl, rfl | ⟨b, off, size, hs, rfl⟩⟩
      · obtain ⟨h1, h2⟩ := hown
        rcases h2 with ⟨rfl, h0⟩ | ⟨g, cap, cur, rfl, hg, hh, hc, hm, hz, ht⟩
        · have : xs = [] := List.length_eq_zero_iff.1 h0
          subst this; exact .nil _ _
        · obtain ⟨hb1, hb2, hb3⟩ := hb g rfl
          refine RelV.row false E xs g 0 cap size (fun j => us.getD j undef) hs hl hsc hc hm (fun _ => by omega) (fun j hj => ?_) (fun j c hj => ?_)
          · rw [← ht] at *
            have hlt : j < cur.size := by rw [hz]; exact Nat.lt_of_lt_of_le hj (Nat.mul_le_mul_right _ hc)
            simp [World.cell?, hh, hlt, hj]
          · have hjl : j < (xs.flatMap AV.cells).length := (List.getElem?_eq_some_iff.1 hj).1
            rw [flat_len hl] at hjl
            have : us[j]? = some (us.getD j undef) := by
              rw [List.getD_eq_getElem?_getD, List.getElem?_eq_getElem (by omega)]; rfl
            exact hr j c _ hj this
      · exact .nil _ _
      · exact RelV.row false E [] b off 0 size (fun _ => undef) hs (fun x h => by cases h) (fun x h => by cases h) (Nat.le_refl _) (Nat.zero_le _) (fun h => by simp at h) (fun j h => by simp at h) (fun j c h => by simp at h)
  | _ => exact .inl h

theorem RelV.toO {x : AV} {v : Value} (h : RelV P G w x v) (hf : x.flat = true) : RelO P G w q x v := by
  cases x with
  | list o E xs => cases o with
    | false => exact h
    | true => cases hf
  | _ => exact h

theorem RelV.toS {x : AV} {v : Value} (h : RelV P G w x v) (hf : x.flat = true) : RelS P G w p x v := by
  cases x with
  | lptr | eptr | tuple | pin => cases hf
  | _ => exact RelV.toO (q := p 0) h hf

theorem plain_un {x : AV} (h : x.plain = true) : x.un = x := by
  cases x with
  | list o E xs => cases o <;> first | rfl | cases h
  | str | lit => rfl
  | _ => cases h
theorem plain_flat {x : AV} (h : x.plain = true) : x.flat = true := by
  cases x with
  | list o E xs => cases o <;> first | rfl | cases h
  | str | lit => rfl
  | _ => cases h

theorem RelS.toV {x : AV} {v : Value} (h : RelS P G w p x v) (hf : x.un.flat = true) : RelV P G w x.un v := by
  cases x with
  | pin x u => rw [show (AV.pin x u).un = x.un from rfl, plain_un h.2.1]; exact h.2.2
  | lptr | eptr | tuple => cases hf
  | list o E xs =>
    rcases RelO.toV (q := p 0) (x := .list o E xs) h with h | ⟨cs, e⟩
    · exact h
    · cases e
  | _ => exact h

theorem RelS.lit {v u : Value} (h : RelS P G w p (.lit v) u) : u = v := by cases h; rfl
theorem RelS.str {l : List UInt8} {u : Value} (h : RelS P G w p (.str l) u) : u = .string ⟨l.toArray⟩ := by cases h; rfl

theorem relV_ofCell (v : Value) (h : v.oneCell' = true) : RelV P G w (ofCell v) v := by
  unfold ofCell
  split
  · rename_i s; exact .str _
  · exact .nil _ _
  · exact .lit _

theorem relS_ofConst (v : Value) (h : ∀ cs, v = .agg cs → ∀ c ∈ cs, c.oneCell' = true) : RelS P G w p (ofConst v) v := by
  unfold ofConst
  split
  · rename_i s; exact RelV.str _
  · exact .inr ⟨rfl, .inl rfl⟩
  · rename_i cs
    have := RelV.agg (P := P) (G := G) (w := w) (cs.toList.map ofCell) cs.toList (by simp) (fun j c v hc hv => by
      rw [List.getElem?_map, hv] at hc
      simp at hc
      subst hc
      exact relV_ofCell _ (h cs rfl v (by have := List.mem_of_getElem? hv; simpa using this)))
    simp only [Array.toArray_toList] at this
    exact this
  · exact RelV.lit _
end

/-- An operation that reads: it yields v, now and in every later world in which the blocks are as they are. -/
def Reader (P : Program) (n : Nat) (s : St) (o : Oper) (d : Nat) (v : AV) : Prop :=
  ∀ (G : Gh) (a : Act) (w : World), RelSt P G n s a w → ∃ u, RelS P G w (.slot d) v u ∧ ∀ w' : World, Below w.heap.size w w' → (execOp a.eval o).run P w' = .ok (.value u) w'

/-- The guard says: do it; leave it out. -/
def Wants (ops : Array Oper) (s : St) (o : Oper) : Prop :=
  match o.guard with
  | none => True
  | some (g, b) => ∃ t, (ops[g]?).bind (·.dst) = some t ∧ s.get t = .lit (.bool b)
def Skips (ops : Array Oper) (s : St) (o : Oper) : Prop :=
  ∃ g b t v, o.guard = some (g, b) ∧ (ops[g]?).bind (·.dst) = some t ∧ s.get t = .lit v ∧ v ≠ .bool b

def AOps (P : Program) (n : Nat) (ops : Array Oper) (l : List Oper) (s : St) (Q : St → Prop) : Prop :=
  ∀ (G : Gh) (a : Act) (w : World) (K : Exit → Act → World → Prop), RelSt P G n s a w → Fix G w →
    (∀ s' G' a' w', Q s' → RelSt P G' n s' a' w' → Keep G w G' w' → K .normal a' w') → wpList P ops K l a w

section
variable {P : Program} {n : Nat} {s : St} {ops : Array Oper} {o : Oper} {rest : List Oper} {Q : St → Prop} {d : Nat} {G : Gh} {a : Act} {w : World}

theorem getD_put (a : Act) (d i : Nat) (u : Value) (h : d < a.tmps.size) : (a.put (some d) u).tmps.getD i undef = if i = d then u else a.tmps.getD i undef := by
  simp only [Act.put, Array.getD_eq_getD_getElem?]
  by_cases e : i = d
  · subst e; simp [h]
  · rw [Array.getElem?_setIfInBounds_ne (Ne.symm e), if_neg e]

theorem RelSt.put (h : RelSt P G n s a w) {v : AV} {u : Value} (hd : d < n) (hv : RelS P G w (.slot d) v u) : RelSt P G n (s.put d v) (a.put (some d) u) w := by
  refine ⟨by simp [Act.put, h.size], by simpa [Act.put] using h.defers, fun i => ?_, h.loc, h.mem⟩
  rw [getD_put _ _ _ _ (by rw [h.size]; exact hd)]
  show RelS P G w (.slot i) (look .any ((d, v) :: s.fr) i) _
  simp only [look]
  by_cases e : i = d
  · subst e; simp only [if_true]; exact hv
  · rw [if_neg (Ne.symm e), if_neg e]; exact h.slot i

theorem wants_eval (h : RelSt P G n s a w) (_hn : ∀ t, t < n ∨ n ≤ t) : Wants ops s o → Region.wanted o (yielded ops a.tmps) = true := by
  intro hw
  unfold Wants at hw
  unfold Region.wanted
  cases hg : o.guard with
  | none => rfl
  | some x =>
    obtain ⟨g, b⟩ := x
    simp only [hg] at hw ⊢
    obtain ⟨t, ht, hs⟩ := hw
    have hv := h.slot t
    rw [hs] at hv
    have := RelS.lit hv
    have hyd : yielded ops a.tmps g = some b := by
      unfold yielded
      rw [ht]
      simp only [Option.bind_some]
      rw [Array.getD_eq_getD_getElem?] at this
      cases hx : a.tmps[t]? with
      | none => simp [hx, undef] at this
      | some y => simp [hx] at this; subst this; rfl
    rw [hyd]; simp

theorem skips_eval (h : RelSt P G n s a w) : Skips ops s o → Region.wanted o (yielded ops a.tmps) = false := by
  rintro ⟨g, b, t, v, hg, ht, hs, hne⟩
  unfold Region.wanted
  simp only [hg]
  have hv := h.slot t
  rw [hs] at hv
  have := RelS.lit hv
  have hyd : yielded ops a.tmps g ≠ some b := by
    unfold yielded
    rw [ht]
    simp only [Option.bind_some]
    rw [Array.getD_eq_getD_getElem?] at this
    cases hx : a.tmps[t]? with
    | none => simp
    | some y =>
      simp [hx] at this; subst this
      cases y <;> simp
      rename_i b'
      intro e; subst e; exact hne rfl
  simpa using hyd

theorem AOps.nil (h : Q s) : AOps P n ops [] s Q := fun G a w _K hr _hfx hK => hK s G a w h hr (Keep.refl _ _)

theorem AOps.read {v : AV} (hg : Wants ops s o) (hd : o.dst = some d) (hn : d < n) (h : Reader P n s o d v) (k : AOps P n ops rest (s.put d v) Q) : AOps P n ops (o :: rest) s Q := by
  intro G a w K hr hfx hK
  simp only [wpList]
  rw [if_pos (wants_eval hr (fun t => by omega) hg)]
  left
  obtain ⟨u, hu, hrun⟩ := h G a w hr
  unfold Oper.wp
  rw [hrun w (Below.refl _ _), Oper.upon_value, hd]
  exact k G _ w K (hr.put hn hu) hfx hK

theorem AOps.skip (hg : Skips ops s o) (hd : o.dst = some d) (hn : d < n) (k : AOps P n ops rest (s.put d (.lit undef)) Q) : AOps P n ops (o :: rest) s Q := by
  intro G a w K hr hfx hK
  simp only [wpList]
  rw [if_neg (by rw [skips_eval hr hg]; simp), hd]
  exact k G _ w K (hr.put hn (RelV.lit _)) hfx hK

theorem AWp.region {id : Nat} {Q : Exit → St → Prop} (h : AOps P n ops ops.toList s (Q .normal)) : AWp P n (.region id ops false) s Q := by
  intro G a w K hr hfx hK
  refine wp_region_list (h G a w K hr hfx ?_)
  intro s' G' a' w' hq hr' hk
  exact hK _ _ _ _ _ hq hr' hk

theorem RelSt.ev (h : RelSt P G n s a w) (x : Operand) (hx : ∀ v cs, x = .const v → v = .agg cs → ∀ c ∈ cs, c.oneCell' = true) : ∃ p, RelS P G w p (s.eval x) (a.eval x) := by
  cases x with
  | tmp t => exact ⟨_, h.slot t⟩
  | const v => exact ⟨.slot 0, relS_ofConst v (fun cs e => hx v cs rfl e)⟩
  | func f => exact ⟨.slot 0, RelV.fn f [] [] rfl (fun j c v h => by simp at h)⟩
  | global g => exact ⟨.slot 0, RelV.any _⟩

theorem RelSt.evLit (h : RelSt P G n s a w) {x : Operand} {v : Value} (hx : s.eval x = .lit v) : a.eval x = v := by
  cases x with
  | tmp t => have := h.slot t; rw [show s.get t = .lit v from hx] at this; exact RelS.lit this
  | const c =>
    simp only [St.eval, ofConst] at hx
    split at hx <;> first | (cases hx; done) | (injection hx)
  | func f => cases hx
  | global g => cases hx

theorem RelSt.evStr (h : RelSt P G n s a w) {x : Operand} {l : List UInt8} (hx : s.eval x = .str l) : a.eval x = .string ⟨l.toArray⟩ := by
  cases x with
  | tmp t => have := h.slot t; rw [show s.get t = .str l from hx] at this; exact RelS.str this
  | const c =>
    simp only [St.eval, ofConst] at hx
    split at hx <;> first | (cases hx; done) | (injection hx with hx; subst hx; simp [Act.eval]; done)
  | func f => cases hx
  | global g => cases hx

theorem lit_toS {w' : World} {p : Nat → Pos} (v : Value) : RelS P G w' p (.lit v) v := RelV.lit v
end
end
section
open Go.RowKit

def intBin (op : BinOp) (k : IntKind) (a b : Int) : Option Value :=
  match op with
  | .add => some (.int k (k.wrap (a + b)))
  | .sub => some (.int k (k.wrap (a - b)))
  | .mul => some (.int k (k.wrap (a * b)))
  | .eql => some (.bool (a == b))
  | .neq => some (.bool (a != b))
  | .lss => some (.bool (a < b))
  | .leq => some (.bool (a ≤ b))
  | .gtr => some (.bool (a > b))
  | .geq => some (.bool (a ≥ b))
  | .and => some (.int k (k.wrap (BitVec.ofInt k.bits a &&& BitVec.ofInt k.bits b).toNat))
  | .or => some (.int k (k.wrap (BitVec.ofInt k.bits a ||| BitVec.ofInt k.bits b).toNat))
  | .xor => some (.int k (k.wrap (BitVec.ofInt k.bits a ^^^ BitVec.ofInt k.bits b).toNat))
  | _ => none

def strBin (op : BinOp) (a b : List UInt8) : Option Bool :=
  match op with
  | .eql => some (a == b)
  | .neq => some !(a == b)
  | .lss => some (Op.bytesLess a b)
  | .leq => some (Op.bytesLess a b || a == b)
  | .gtr => some !(Op.bytesLess a b || a == b)
  | .geq => some !(Op.bytesLess a b)
  | _ => none

theorem sizeOf_some {P : Program} {E : TypeId} {n : Nat} (h : SizeOf P E n) : ∃ i, P.info? E = some i ∧ i.size = n := by
  unfold SizeOf at h
  cases hi : P.info? E with
  | none => simp [hi] at h
  | some i => exact ⟨i, rfl, by simpa [hi] using h⟩
theorem run_size {P : Program} {E : TypeId} {n : Nat} (h : SizeOf P E n) (w : World) : (sizeOf E).run P w = .ok n w := by
  obtain ⟨i, hi, rfl⟩ := sizeOf_some h
  simp [sizeOf, typeInfo, hi]

def TypeDesc.agg : TypeDesc → Bool
  | .struct _ | .array _ _ => true
  | _ => false
theorem run_agg {P : Program} {t : TypeId} {d : TypeDesc} (h : P.underlying t = some d) (w : World) : (isAgg t).run P w = .ok (TypeDesc.agg d) w := by
  simp only [isAgg, Sem.run_bind, run_underlying h, Result.andThen]
  cases d <;> rfl

section
variable {P : Program} {n : Nat} {s : St} {o : Oper} {d : Nat} {t t' : TypeId} {x y : Operand} {k k' : IntKind} {i j : Int}

theorem RelS.un {G : Gh} {w : World} {p p' : Nat → Pos} {x : AV} {v : Value} (h : RelS P G w p x v) : RelS P G w p' x.un v := by
  cases x with
  | pin x u => rw [show (AV.pin x u).un = x.un from rfl, plain_un h.2.1]; exact h.2.2.toS (plain_flat h.2.1)
  | list o E xs =>
    rcases RelO.toV (q := p 0) (x := .list o E xs) h with h | ⟨cs, e⟩
    · exact h
    · cases e
  | tuple cs =>
    obtain ⟨vs, rfl, hl, hr⟩ := h
    refine ⟨vs, rfl, by simpa using hl, fun j c u hc hu => ?_⟩
    rw [List.getElem?_map] at hc
    cases hx : cs[j]? with
    | none => simp [hx] at hc
    | some c' =>
      simp only [hx, Option.map_some, Option.some.injEq] at hc
      have h1 := hr j c' u hx hu
      subst hc
      cases c' with
      | list o E xs =>
        rcases RelO.toV (q := p j) (x := .list o E xs) h1 with h | ⟨cs, e⟩
        · exact h
        · cases e
      | _ => exact h1
  | _ => exact h

theorem Reader.move (ho : o.op = .move x ∨ o.op = .assign x) (hc : ∀ v cs, x = .const v → v = .agg cs → ∀ c ∈ cs, c.oneCell' = true) {v : AV} (hv : (s.eval x).un = v) : Reader P n s o d v := by
  intro G a w hr
  obtain ⟨p, hp⟩ := hr.ev x hc
  subst hv
  refine ⟨_, hp.un, fun w' _ => ?_⟩
  rcases ho with ho | ho <;> simp [execOp, ho]

theorem Reader.int {op : BinOp} (ho : o.op = .binOp op t x y t') (hx : s.eval x = .lit (.int k i)) (hy : s.eval y = .lit (.int k j)) {r : Value} (hr : intBin op k i j = some r) : Reader P n s o d (.lit r) := by
  intro G a w h
  refine ⟨_, lit_toS r, fun w' _ => ?_⟩
  have h1 := h.evLit hx
  have h2 := h.evLit hy
  simp only [execOp, ho, h1, h2]
  unfold intBin at hr
  split at hr <;> first | (cases hr; done) | (cases hr; simp [eqGuard, binOp, Op.intArith, Op.intCmp, Op.intBits])

theorem Reader.quo (ho : o.op = .binOp .quo t x y t') (hx : s.eval x = .lit (.int k i)) (hy : s.eval y = .lit (.int k j)) (hj : j ≠ 0) {c : Int} (hc : k.wrap (i.tdiv j) = c) : Reader P n s o d (.lit (.int k c)) := by
  intro G a w h
  refine ⟨_, lit_toS _, fun w' _ => ?_⟩
  simp only [execOp, ho, h.evLit hx, h.evLit hy]
  simp [eqGuard, binOp, Op.intDiv, hj, hc]

theorem Reader.rem (ho : o.op = .binOp .rem t x y t') (hx : s.eval x = .lit (.int k i)) (hy : s.eval y = .lit (.int k j)) (hj : j ≠ 0) {c : Int} (hc : i.tmod j = c) : Reader P n s o d (.lit (.int k c)) := by
  intro G a w h
  refine ⟨_, lit_toS _, fun w' _ => ?_⟩
  simp only [execOp, ho, h.evLit hx, h.evLit hy]
  simp [eqGuard, binOp, Op.intDiv, hj, hc]

theorem Reader.shift {op : BinOp} (ho : o.op = .binOp op t x y t') (hop : op = .shl ∨ op = .shr) (hx : s.eval x = .lit (.int k i)) (hy : s.eval y = .lit (.int k' j)) (hj : 0 ≤ j) {c : Int}
    (hc : (if op = .shl then k.wrap (i * 2 ^ (min j.toNat k.bits)) else i.fdiv (2 ^ (min j.toNat k.bits))) = c) : Reader P n s o d (.lit (.int k c)) := by
  intro G a w h
  refine ⟨_, lit_toS _, fun w' _ => ?_⟩
  simp only [execOp, ho, h.evLit hx, h.evLit hy]
  have hj' : ¬ j < 0 := by omega
  subst hc
  rcases hop with rfl | rfl <;> simp [eqGuard, binOp, Op.shift, hj']

theorem run_equalIn_bool (dd : Nat) {a b : Bool} (hu : P.underlying t = some .bool) (w : World) : (Op.equalIn (dd + 1) t (.bool a) (.bool b)).run P w = .ok (a == b) w := by
  simp [Op.equalIn, run_underlying hu]
theorem bsize (l : List UInt8) : (⟨l.toArray⟩ : ByteArray).size = l.length := rfl

theorem Reader.bools {op : BinOp} {a b r : Bool} (ho : o.op = .binOp op t x y t') (hu : P.underlying t = some .bool) (hx : s.eval x = .lit (.bool a)) (hy : s.eval y = .lit (.bool b)) (hr : (op = .eql ∧ r = (a == b)) ∨ (op = .neq ∧ r = !(a == b))) : Reader P n s o d (.lit (.bool r)) := by
  intro G ac w h
  refine ⟨_, lit_toS _, fun w' _ => ?_⟩
  simp only [execOp, ho, h.evLit hx, h.evLit hy]
  rcases hr with ⟨rfl, rfl⟩ | ⟨rfl, rfl⟩
  · have e1 : (eqGuard .eql t x y (.bool a) (.bool b)).run P w' = .ok () w' := by simp [eqGuard]
    have e2 : (binOp .eql t (.bool a) (.bool b)).run P w' = .ok (.bool (a == b)) w' := by
      simp only [binOp, Op.equal, Op.maxDepth]
      simp [run_equalIn_bool 9999 hu]
    simp [e1, e2, Result.andThen]
  · have e1 : (eqGuard .neq t x y (.bool a) (.bool b)).run P w' = .ok () w' := by simp [eqGuard]
    have e2 : (binOp .neq t (.bool a) (.bool b)).run P w' = .ok (.bool (!(a == b))) w' := by
      simp only [binOp, Op.equal, Op.maxDepth]
      simp [run_equalIn_bool 9999 hu]
    simp [e1, e2, Result.andThen]

theorem Reader.strs {op : BinOp} {l m : List UInt8} {r : Bool} (ho : o.op = .binOp op t x y t') (hx : s.eval x = .str l) (hy : s.eval y = .str m) (hr : strBin op l m = some r) : Reader P n s o d (.lit (.bool r)) := by
  intro G a w h
  refine ⟨_, lit_toS _, fun w' _ => ?_⟩
  simp only [execOp, ho, h.evStr hx, h.evStr hy]
  unfold strBin at hr
  split at hr <;> first | (cases hr; done) | (cases hr; simp [eqGuard, binOp, Op.stringOp])

theorem bytes_app (l m : List UInt8) : (⟨l.toArray⟩ : ByteArray) ++ ⟨m.toArray⟩ = ⟨(l ++ m).toArray⟩ := by
  apply ByteArray.ext
  simp [ByteArray.data_append]

theorem Reader.cat {l m c : List UInt8} (ho : o.op = .binOp .add t x y t') (hx : s.eval x = .str l) (hy : s.eval y = .str m) (hb : l.length + m.length ≤ 9223372036854775807) (hc : l ++ m = c) : Reader P n s o d (.str c) := by
  intro G a w h
  subst hc
  refine ⟨_, RelV.str _, fun w' _ => ?_⟩
  simp only [execOp, ho, h.evStr hx, h.evStr hy]
  simp [eqGuard, binOp, Op.stringOp, bytes_app, IntKind.max, IntKind.signed, IntKind.bits]
  rw [bsize, bsize]
  omega

theorem Reader.not {b : Bool} (ho : o.op = .unOp .not t x) (hx : s.eval x = .lit (.bool b)) : Reader P n s o d (.lit (.bool !b)) := by
  intro G a w h
  refine ⟨_, lit_toS _, fun w' _ => ?_⟩
  simp only [execOp, ho, h.evLit hx]
  simp [Op.unary]

theorem Reader.neg {c : Int} (ho : o.op = .unOp .neg t x) (hx : s.eval x = .lit (.int k i)) (hc : k.wrap (0 - i) = c) : Reader P n s o d (.lit (.int k c)) := by
  intro G a w h
  refine ⟨_, lit_toS _, fun w' _ => ?_⟩
  simp only [execOp, ho, h.evLit hx]
  simp [Op.unary, Op.intArith, ← hc]

theorem Reader.conv {c : Int} {D : TypeDesc} (ho : o.op = .convert t t' x) (h1 : P.underlying t = some D) (h2 : P.underlying t' = some (.int k')) (hD : D ≠ .unsafePointer) (hx : s.eval x = .lit (.int k i)) (hc : k'.wrap i = c) : Reader P n s o d (.lit (.int k' c)) := by
  intro G a w h
  refine ⟨_, lit_toS _, fun w' _ => ?_⟩
  simp only [execOp, ho, h.evLit hx]
  simp only [convert, Sem.run_bind, run_underlying h1, run_underlying h2, Result.andThen]
  cases D <;> first | exact absurd rfl hD | simp [Conv.intToInt, hc]

theorem Reader.len {o' : Bool} {E : TypeId} {xs : List AV} {c : Call} (ho : o.op = .call c) (hc : c.callee = .builtin .len) (ha : c.args = #[x]) (ht : c.argTypes = #[t]) (hu : P.underlying t = some (.slice E)) {E' : TypeId} (hx : s.eval x = .list o' E' xs) :
    Reader P n s o d (.lit (.int .i64 xs.length)) := by
  intro G a w h
  obtain ⟨p, hp⟩ := h.ev x (fun v cs e1 e2 => by subst e1; subst e2; simp [St.eval, ofConst] at hx)
  rw [hx] at hp
  have hv : ∃ b cap, a.eval x = .slice b xs.length cap := by
    have := RelS.un (p' := p) hp
    generalize a.eval x = v at this
    cases this with
    | nil => exact ⟨_, _, rfl⟩
    | zero => exact ⟨_, _, rfl⟩
    | row => exact ⟨_, _, rfl⟩
  obtain ⟨b, cap, hv⟩ := hv
  refine ⟨_, lit_toS _, fun w' _ => ?_⟩
  simp [execOp, ho, resolve, hc, ha, ht, hv, invoke, builtin, Builtin.len_, run_underlying hu, goInt]

theorem Reader.lenStr {l : List UInt8} {c : Call} (ho : o.op = .call c) (hc : c.callee = .builtin .len) (ha : c.args = #[x]) (ht : c.argTypes = #[t]) (hu : P.underlying t = some .string) (hx : s.eval x = .str l) :
    Reader P n s o d (.lit (.int .i64 l.length)) := by
  intro G a w h
  refine ⟨_, lit_toS _, fun w' _ => ?_⟩
  simp [execOp, ho, resolve, hc, ha, ht, h.evStr hx, invoke, builtin, Builtin.len_, run_underlying hu, goInt, bsize]

/-- A byte of a text. -/
theorem Reader.byte {l : List UInt8} {m : Nat} {c : UInt8} (ho : o.op = .index t x y) (hu : P.underlying t = some .string) (hx : s.eval x = .str l) (hy : s.eval y = .lit (.int k i)) (hi : i = m) (hc : l[m]? = some c) :
    Reader P n s o d (.lit (.int .u8 c.toNat)) := by
  intro G a w h
  subst hi
  refine ⟨_, lit_toS _, fun w' _ => ?_⟩
  obtain ⟨hlt, hcc⟩ := List.getElem?_eq_some_iff.1 hc
  have e : (⟨l.toArray⟩ : ByteArray)[m]? = some c := by
    have hs : m < (⟨l.toArray⟩ : ByteArray).size := by rw [bsize]; exact hlt
    rw [getElem?_pos (⟨l.toArray⟩ : ByteArray) m hs]
    show some ((⟨l.toArray⟩ : ByteArray).data[m]) = _
    simp [hcc]
  simp [execOp, ho, Instr.index, asIntOf, h.evStr hx, h.evLit hy, run_underlying hu, e]

theorem bytes_extract (l : List UInt8) (a b : Nat) : (⟨l.toArray⟩ : ByteArray).extract a b = ⟨((l.take b).drop a).toArray⟩ := by
  apply ByteArray.ext
  simp [ByteArray.data_extract, List.extract_eq_take_drop, List.drop_take]

end
end
section
open Go.RowKit

theorem add_at (b o j : Nat) : (⟨b, o, none⟩ : Addr).add j = ⟨b, o + j, none⟩ := Addr.add_mid b o j

theorem flat_get {xs : List AV} {size m j : Nat} {x c : AV} (hl : ∀ x ∈ xs, x.cells.length = size) (hx : xs[m]? = some x) (hc : x.cells[j]? = some c) : (xs.flatMap AV.cells)[m * size + j]? = some c := by
  induction xs generalizing m with
  | nil => simp at hx
  | cons a r ih =>
    have ha := hl a (List.mem_cons_self ..)
    have hr : ∀ x ∈ r, x.cells.length = size := fun x hx => hl x (List.mem_cons_of_mem _ hx)
    rw [List.flatMap_cons]
    cases m with
    | zero =>
      simp only [List.getElem?_cons_zero, Option.some.injEq] at hx
      subst hx
      have := (List.getElem?_eq_some_iff.1 hc).1
      rw [List.getElem?_append_left (by omega)]
      simpa using hc
    | succ m =>
      simp only [List.getElem?_cons_succ] at hx
      rw [List.getElem?_append_right (by rw [ha, Nat.add_mul]; omega), ha]
      have e : (m + 1) * size + j - size = m * size + j := by rw [Nat.add_mul]; omega
      rw [e]
      exact ih hr hx

def fieldOf (P : Program) (t : TypeId) (f : Nat) (off : Nat) (ft : TypeId) (size : Nat) : Prop :=
  ∃ fs F, P.underlying t = some (.struct fs) ∧ fs[f]? = some F ∧ F.offset = off ∧ F.type = ft ∧ SizeOf P ft size

section
variable {P : Program} {n : Nat} {s : St} {o : Oper} {d : Nat} {t t' E : TypeId} {x y : Operand} {k : IntKind} {i : Int}

theorem elem_lt {m len : Nat} (h : m < len) (size off tot : Nat) (hh : off + len * size ≤ tot) : off + m * size + size ≤ tot := by
  have : (m + 1) * size ≤ len * size := Nat.mul_le_mul_right _ h
  rw [Nat.add_mul] at this
  omega

theorem Reader.elemAddr {ow : Bool} {xs : List AV} {m size : Nat} {e : AV} (ho : o.op = .indexAddr t x y) (hu : P.underlying t = some (.slice E)) (hs : SizeOf P E size) (hx : s.eval x = .list ow E xs)
    (hy : s.eval y = .lit (.int k i)) (hi : i = m) (he : xs[m]? = some e) : Reader P n s o d (.eptr e 0) := by
  intro G a w h
  obtain ⟨p, hp⟩ := h.ev x (fun v cs e1 e2 => by subst e1; subst e2; simp [St.eval, ofConst] at hx)
  rw [hx] at hp
  have hv := RelS.un (p' := p) hp
  have hm := (List.getElem?_eq_some_iff.1 he).1
  generalize hav : a.eval x = v at hv
  have hv' : RelV P G w (.list false E xs) v := hv
  cases hv' with
  | nil => simp at he
  | zero => simp at he
  | row _ _ _ b off cap size' us hs' hl hsc hcap hmax htip hc hr =>
    have hsz : size' = size := by unfold SizeOf at hs hs'; rw [hs] at hs'; exact (Option.some.inj hs').symm
    subst hsz
    refine ⟨.pointer (some ⟨b, off + m * size', none⟩), ⟨b, off + m * size', fun j => us (m * size' + j), rfl, ?_, ?_⟩, fun w' _ => ?_⟩
    · rw [hl e (List.mem_of_getElem? he)]
      exact elem_lt hm _ _ _ (htip (by omega))
    · intro j c hj
      have hjl := (List.getElem?_eq_some_iff.1 hj).1
      rw [hl e (List.mem_of_getElem? he)] at hjl
      refine ⟨?_, hr _ c (flat_get hl he hj)⟩
      have := elem_lt hm size' 0 _ (Nat.le_refl _)
      rw [Nat.add_assoc]
      exact hc (m * size' + j) (by omega)
    · subst hi
      simp [execOp, ho, Instr.indexAt, asIntOf, hav, h.evLit hy, run_underlying hu, run_size hs, hm, add_at]

/-- A field's address. -/
theorem Reader.fieldE {e : AV} {kk f off size : Nat} {ft : TypeId} (ho : o.op = .fieldAddr t x f) (hf : fieldOf P t f off ft size) (h0 : size ≠ 0) (hx : s.eval x = .eptr e kk) : Reader P n s o d (.eptr e (kk + off)) := by
  intro G a w h
  obtain ⟨fs, F, hu, hF, rfl, rfl, hs⟩ := hf
  obtain ⟨p, hp⟩ := h.ev x (fun v cs e1 e2 => by subst e1; subst e2; simp [St.eval, ofConst] at hx)
  rw [hx] at hp
  obtain ⟨b, oo, us, hv, h1, h2⟩ := hp
  refine ⟨_, ⟨b, oo, us, rfl, h1, h2⟩, fun w' _ => ?_⟩
  simp [execOp, ho, Instr.fieldAt, Instr.sureAddr, hv, run_underlying hu, hF, fieldPlace, run_size hs, h0, add_at, Nat.add_assoc]

theorem Reader.fieldL {kk k0 f off size : Nat} {ft : TypeId} (ho : o.op = .fieldAddr t x f) (hf : fieldOf P t f off ft size) (h0 : size ≠ 0) (hx : s.eval x = .lptr kk k0) : Reader P n s o d (.lptr kk (k0 + off)) := by
  intro G a w h
  obtain ⟨fs, F, hu, hF, rfl, rfl, hs⟩ := hf
  obtain ⟨p, hp⟩ := h.ev x (fun v cs e1 e2 => by subst e1; subst e2; simp [St.eval, ofConst] at hx)
  rw [hx] at hp
  have hv : a.eval x = .pointer (some ⟨G.lb kk, k0, none⟩) := hp
  refine ⟨_, rfl, fun w' _ => ?_⟩
  simp [execOp, ho, Instr.fieldAt, Instr.sureAddr, hv, run_underlying hu, hF, fieldPlace, run_size hs, h0, add_at]

theorem Reader.fieldG {kk k0 f off size : Nat} {ft : TypeId} (ho : o.op = .fieldAddr t x f) (hf : fieldOf P t f off ft size) (h0 : size ≠ 0) (hx : s.eval x = .gptr kk k0) : Reader P n s o d (.gptr kk (k0 + off)) := by
  intro G a w h
  obtain ⟨fs, F, hu, hF, rfl, rfl, hs⟩ := hf
  obtain ⟨p, hp⟩ := h.ev x (fun v cs e1 e2 => by subst e1; subst e2; simp [St.eval, ofConst] at hx)
  rw [hx] at hp
  generalize hav : a.eval x = v at hp
  have hp' : RelV P G w (.gptr kk k0) v := hp
  cases hp' with
  | gptr _ _ b hb =>
    refine ⟨_, RelV.gptr kk (k0 + F.offset) b hb, fun w' _ => ?_⟩
    simp [execOp, ho, Instr.fieldAt, Instr.sureAddr, hav, run_underlying hu, hF, fieldPlace, run_size hs, h0, add_at]

theorem Reader.indexL {kk k0 m size len : Nat} (ho : o.op = .indexAddr t x y) (hu : P.underlying t = some (.array len E)) (hs : SizeOf P E size) (hx : s.eval x = .lptr kk k0) (hy : s.eval y = .lit (.int k i)) (hi : i = m) (hm : m < len) :
    Reader P n s o d (.lptr kk (k0 + m * size)) := by
  intro G a w h
  obtain ⟨p, hp⟩ := h.ev x (fun v cs e1 e2 => by subst e1; subst e2; simp [St.eval, ofConst] at hx)
  rw [hx] at hp
  have hv : a.eval x = .pointer (some ⟨G.lb kk, k0, none⟩) := hp
  refine ⟨_, rfl, fun w' _ => ?_⟩
  subst hi
  simp [execOp, ho, Instr.indexAt, Instr.sureAddr, asIntOf, hv, h.evLit hy, run_underlying hu, run_size hs, hm, add_at]

theorem Reader.indexE {e : AV} {k0 m size len : Nat} (ho : o.op = .indexAddr t x y) (hu : P.underlying t = some (.array len E)) (hs : SizeOf P E size) (hx : s.eval x = .eptr e k0) (hy : s.eval y = .lit (.int k i)) (hi : i = m) (hm : m < len) :
    Reader P n s o d (.eptr e (k0 + m * size)) := by
  intro G a w h
  obtain ⟨p, hp⟩ := h.ev x (fun v cs e1 e2 => by subst e1; subst e2; simp [St.eval, ofConst] at hx)
  rw [hx] at hp
  obtain ⟨b, oo, us, hv, h1, h2⟩ := hp
  refine ⟨_, ⟨b, oo, us, rfl, h1, h2⟩, fun w' _ => ?_⟩
  subst hi
  simp [execOp, ho, Instr.indexAt, Instr.sureAddr, asIntOf, hv, h.evLit hy, run_underlying hu, run_size hs, hm, add_at, Nat.add_assoc]

theorem Reader.indexG {kk k0 m size len : Nat} (ho : o.op = .indexAddr t x y) (hu : P.underlying t = some (.array len E)) (hs : SizeOf P E size) (hx : s.eval x = .gptr kk k0) (hy : s.eval y = .lit (.int k i)) (hi : i = m) (hm : m < len) :
    Reader P n s o d (.gptr kk (k0 + m * size)) := by
  intro G a w h
  obtain ⟨p, hp⟩ := h.ev x (fun v cs e1 e2 => by subst e1; subst e2; simp [St.eval, ofConst] at hx)
  rw [hx] at hp
  generalize hav : a.eval x = v at hp
  have hp' : RelV P G w (.gptr kk k0) v := hp
  cases hp' with
  | gptr _ _ b hb =>
    refine ⟨_, RelV.gptr kk (k0 + m * size) b hb, fun w' _ => ?_⟩
    subst hi
    simp [execOp, ho, Instr.indexAt, Instr.sureAddr, asIntOf, hav, h.evLit hy, run_underlying hu, run_size hs, hm, add_at]

theorem RelV.un1 {G : Gh} {w : World} {x : AV} {v : Value} (h : RelV P G w x v) : RelV P G w x.un1 v := by
  cases h with
  | nil => exact .nil _ _
  | zero => exact .zero _ _
  | row _ _ _ b off cap size us hs hl hsc hcap hmax htip hc hr => exact .row _ _ _ b off cap size us hs hl hsc hcap hmax htip hc hr
  | any v => exact .any v
  | lit v => exact .lit v
  | str l => exact .str l
  | gptr id off b h => exact .gptr id off b h
  | gmap id b h => exact .gmap id b h
  | gsl id of n c b h h1 h2 => exact .gsl id of n c b h h1 h2
  | gsl0 id of => exact .gsl0 id of
  | gslz id of a => exact .gslz id of a
  | agg cs vs hl hr => exact .agg cs vs hl hr
  | fn f cap vs hl hr => exact .fn f cap vs hl hr
  | fnm f cap vs hl hr => exact .fnm f cap vs hl hr
  | tuple cs vs hl hr => exact .tuple cs vs hl hr

theorem RelV.un {G : Gh} {w : World} {x : AV} {v : Value} (h : RelV P G w x v) : RelV P G w x.un v := by
  cases h with
  | tuple cs vs hl hr =>
    refine .tuple _ vs (by simpa using hl) (fun j c u hc hu => ?_)
    rw [List.getElem?_map] at hc
    cases hx : cs[j]? with
    | none => simp [hx] at hc
    | some c' =>
      simp only [hx, Option.map_some, Option.some.injEq] at hc
      subst hc
      exact (hr j c' u hx hu).un1
  | nil => exact .nil _ _
  | zero => exact .zero _ _
  | row _ _ _ b off cap size us hs hl hsc hcap hmax htip hc hr => exact .row _ _ _ b off cap size us hs hl hsc hcap hmax htip hc hr
  | any v => exact .any v
  | lit v => exact .lit v
  | str l => exact .str l
  | gptr id off b h => exact .gptr id off b h
  | gmap id b h => exact .gmap id b h
  | gsl id of n c b h h1 h2 => exact .gsl id of n c b h h1 h2
  | gsl0 id of => exact .gsl0 id of
  | gslz id of a => exact .gslz id of a
  | agg cs vs hl hr => exact .agg cs vs hl hr
  | fn f cap vs hl hr => exact .fn f cap vs hl hr
  | fnm f cap vs hl hr => exact .fnm f cap vs hl hr

/-- What a load gives: one cell; some cells. -/
def loaded (agg : Bool) (size : Nat) (cells : List AV) (k : Nat) : Option AV :=
  if agg then (if k + size ≤ cells.length then some (.agg (((cells.drop k).take size).map AV.un)) else none) else (cells[k]?).map AV.un

theorem cell_later {w w' : World} {b o : Nat} {u : Value} (hb : Below w.heap.size w w') (h : w.cell? ⟨b, o, none⟩ = some u) : w'.cell? ⟨b, o, none⟩ = some u := by
  have hlt : b < w.heap.size := by
    simp only [World.cell?] at h
    cases hh : w.heap[b]? with
    | none => simp [hh] at h
    | some x => exact (Array.getElem?_eq_some_iff.1 hh).1
  rw [hb.cell (p := ⟨b, o, none⟩) hlt]
  exact h

/-- Cells that lie in a row read as they should: what a load of them gives. -/
theorem run_loadVar_cells {w w' : World} {b o kk size : Nat} {D : TypeDesc} {cells : List AV} {us : Nat → Value} {v : AV} {G : Gh} (_hb : Below w.heap.size w w') (hu : P.underlying t = some D) (hs : SizeOf P t size)
    (hl : loaded (TypeDesc.agg D) size cells kk = some v) (hc : ∀ j c, cells[j]? = some c → w.cell? ⟨b, o + j, none⟩ = some (us j) ∧ RelV P G w c.un (us j)) :
    ∃ u, RelV P G w v u ∧ ∀ w' : World, Below w.heap.size w w' → (loadVar t ⟨b, o + kk, none⟩).run P w' = .ok u w' := by
  unfold loaded at hl
  cases hA : TypeDesc.agg D with
  | false =>
    rw [hA] at hl
    simp only [Bool.false_eq_true, if_false] at hl
    cases hck : cells[kk]? with
    | none => simp [hck] at hl
    | some c =>
      simp only [hck, Option.map_some, Option.some.injEq] at hl
      subst hl
      obtain ⟨h1, h2⟩ := hc kk c hck
      refine ⟨_, h2, fun w' hb => ?_⟩
      simp [loadVar, run_agg hu, hA, Result.andThen, cell_later hb h1]
  | true =>
    rw [hA] at hl
    simp only [if_true] at hl
    split at hl
    · rename_i hk
      cases hl
      have hlen : ((cells.drop kk).take size).length = size := by simp; omega
      refine ⟨.agg ((List.range size).map fun j => us (kk + j)).toArray, RelV.agg _ _ (by simp; omega) (fun j c u h1 h2 => ?_), fun w' hb => ?_⟩
      · rw [List.getElem?_map] at h1 h2
        cases h3 : ((cells.drop kk).take size)[j]? with
        | none => simp [h3] at h1
        | some c' =>
          simp only [h3, Option.map_some, Option.some.injEq] at h1
          subst h1
          have hj : j < size := by have := (List.getElem?_eq_some_iff.1 h3).1; omega
          rw [List.getElem?_range hj] at h2
          simp only [Option.map_some, Option.some.injEq] at h2
          subst h2
          rw [List.getElem?_take_of_lt hj, List.getElem?_drop] at h3
          exact (hc (kk + j) c' h3).2
      · have := run_loadCells (P := P) w' ⟨b, o + kk, none⟩ size (fun j => us (kk + j)) (fun j hj => by
          rw [add_at]
          obtain ⟨c, hcc⟩ : ∃ c, cells[kk + j]? = some c := ⟨cells[kk + j]'(by omega), by simp⟩
          have := (hc (kk + j) c hcc).1
          rw [Nat.add_assoc]
          exact cell_later hb this)
        simp [loadVar, run_agg hu, hA, Result.andThen, run_size hs, this]
    · cases hl

theorem Reader.loadE {e v : AV} {kk size : Nat} {D : TypeDesc} (ho : o.op = .load t x) (hu : P.underlying t = some D) (hs : SizeOf P t size) (hx : s.eval x = .eptr e kk) (hv : loaded (TypeDesc.agg D) size e.cells kk = some v) (hf : v.flat = true) : Reader P n s o d v := by
  intro G a w h
  obtain ⟨p, hp⟩ := h.ev x (fun v cs e1 e2 => by subst e1; subst e2; simp [St.eval, ofConst] at hx)
  rw [hx] at hp
  obtain ⟨b, oo, us, hav, h1, h2⟩ := hp
  obtain ⟨u, hu1, hu2⟩ := run_loadVar_cells (w' := w) (us := us) (G := G) (Below.refl _ _) hu hs hv (fun j c hj => ⟨(h2 j c hj).1, (h2 j c hj).2.un⟩)
  refine ⟨u, hu1.toS hf, fun w' hb => ?_⟩
  simp [execOp, ho, Instr.loadAt, Instr.sureAddr, hav, hu2 w' hb]

theorem RelO.un {G : Gh} {w : World} {q : Pos} {c : AV} {v : Value} (h : RelO P G w q c v) (hs : c.scalar = true) : RelV P G w c.un v := by
  rcases h.toV with h | ⟨cs, rfl⟩
  · exact h
  · cases hs

theorem Reader.loadL {cells : List AV} {v : AV} {k0 kk size : Nat} {D : TypeDesc} (ho : o.op = .load t x) (hu : P.underlying t = some D) (hs : SizeOf P t size) (hx : s.eval x = .lptr k0 kk) (hc : lookL s.loc k0 = some cells)
    (hv : loaded (TypeDesc.agg D) size cells kk = some v) (hf : v.flat = true) : Reader P n s o d v := by
  intro G a w h
  obtain ⟨p, hp⟩ := h.ev x (fun v cs e1 e2 => by subst e1; subst e2; simp [St.eval, ofConst] at hx)
  rw [hx] at hp
  have hav : a.eval x = .pointer (some ⟨G.lb k0, kk, none⟩) := hp
  obtain ⟨arr, T, hh, hsz, _, _, hsc, hr⟩ := h.loc k0 cells hc
  obtain ⟨u, hu1, hu2⟩ := run_loadVar_cells (w := w) (w' := w) (b := G.lb k0) (o := 0) (us := fun j => arr.getD j undef) (G := G) (Below.refl _ _) hu hs hv (fun j c hj => by
    have hjl := (List.getElem?_eq_some_iff.1 hj).1
    have e : arr[j]? = some (arr.getD j undef) := by rw [Array.getD_eq_getD_getElem?, Array.getElem?_eq_getElem (by omega)]; rfl
    refine ⟨by simp only [World.cell?, hh, Option.isSome_none, Bool.false_eq_true, if_false, Nat.zero_add]; exact e, (hr j c _ hj e).un (hsc c (List.mem_of_getElem? hj))⟩)
  refine ⟨u, hu1.toS hf, fun w' hb => ?_⟩
  have := hu2 w' hb
  rw [Nat.zero_add] at this
  simp [execOp, ho, Instr.loadAt, Instr.sureAddr, hav, this]

theorem Reader.loadG {cells : List AV} {v : AV} {k0 kk size : Nat} {D : TypeDesc} (ho : o.op = .load t x) (hu : P.underlying t = some D) (hs : SizeOf P t size) (hx : s.eval x = .gptr k0 kk) (hc : s.mem k0 = some cells)
    (hv : loaded (TypeDesc.agg D) size cells kk = some v) (hf : v.flat = true) (hall : cells.all AV.scalar = true := by first | rfl | (simp only [List.all_cons, List.all_nil, *]; rfl)) (hne : cells ≠ [] := by first | (intro h; cases h) | simp) : Reader P n s o d v := by
  intro G a w h
  obtain ⟨p, hp⟩ := h.ev x (fun v cs e1 e2 => by subst e1; subst e2; simp [St.eval, ofConst] at hx)
  rw [hx] at hp
  generalize hav : a.eval x = va at hp
  have hp' : RelV P G w (.gptr k0 kk) va := hp
  cases hp' with
  | gptr _ _ b hb =>
    obtain ⟨b', hb', hX⟩ := h.mem.obj k0 cells hc
    obtain ⟨⟨arr, T, hh, hsz, _, _, hsc, hr⟩, _⟩ := hX.cells hall hne
    rw [hb] at hb'
    cases hb'
    obtain ⟨u, hu1, hu2⟩ := run_loadVar_cells (w := w) (w' := w) (b := b) (o := 0) (us := fun j => arr.getD j undef) (G := G) (Below.refl _ _) hu hs hv (fun j c hj => by
      have hjl := (List.getElem?_eq_some_iff.1 hj).1
      have e : arr[j]? = some (arr.getD j undef) := by rw [Array.getD_eq_getD_getElem?, Array.getElem?_eq_getElem (by omega)]; rfl
      refine ⟨by simp only [World.cell?, hh, Option.isSome_none, Bool.false_eq_true, if_false, Nat.zero_add]; exact e, (hr j c _ hj e).un (hsc c (List.mem_of_getElem? hj))⟩)
    refine ⟨u, hu1.toS hf, fun w' hb => ?_⟩
    have := hu2 w' hb
    rw [Nat.zero_add] at this
    simp [execOp, ho, Instr.loadAt, Instr.sureAddr, hav, this]

theorem Reader.nilCheck {v : AV} (ho : o.op = .nilCheck x) (hx : s.eval x = v) (hv : (∃ k f, v = .lptr k f) ∨ (∃ k f, v = .gptr k f) ∨ ∃ e k, v = .eptr e k) : Reader P n s o d v := by
  intro G a w h
  obtain ⟨p, hp⟩ := h.ev x (fun v cs e1 e2 => by subst e1; subst e2; rcases hv with ⟨_, _, rfl⟩ | ⟨_, _, rfl⟩ | ⟨_, _, rfl⟩ <;> simp [St.eval, ofConst] at hx)
  rw [hx] at hp
  rcases hv with ⟨k, f, rfl⟩ | ⟨k, f, rfl⟩ | ⟨e, k, rfl⟩
  · have hav : a.eval x = .pointer (some ⟨G.lb k, f, none⟩) := hp
    exact ⟨_, rfl, fun w' _ => by simp [execOp, ho, hav]⟩
  · generalize hav : a.eval x = va at hp
    have hp' : RelV P G w (.gptr k f) va := hp
    cases hp' with
    | gptr _ _ b hb => exact ⟨_, RelV.gptr k f b hb, fun w' _ => by simp [execOp, ho, hav]⟩
  · obtain ⟨b, oo, us, hav, h1, h2⟩ := hp
    exact ⟨_, ⟨b, oo, us, rfl, h1, h2⟩, fun w' _ => by simp [execOp, ho, hav]⟩

/-- A part of a struct or an array by value. -/
def partOf (agg : Bool) (size : Nat) (cells : List AV) (k : Nat) : Option AV :=
  if agg then (if k + size ≤ cells.length then some (.agg ((cells.drop k).take size)) else none) else cells[k]?

theorem run_part {G : Gh} {w : World} {cs : List AV} {v : AV} {vs : List Value} {off size : Nat} {D : TypeDesc} (hu : P.underlying t = some D) (hs : SizeOf P t size) (hl : vs.length = cs.length)
    (hr : ∀ (j : Nat) (c : AV) (u : Value), cs[j]? = some c → vs[j]? = some u → RelV P G w c u) (hv : partOf (TypeDesc.agg D) size cs off = some v) :
    ∃ u, RelV P G w v u ∧ ∀ w' : World, (part t vs.toArray off).run P w' = .ok u w' := by
  unfold partOf at hv
  cases hA : TypeDesc.agg D with
  | false =>
    rw [hA] at hv
    simp only [Bool.false_eq_true, if_false] at hv
    have hlt := (List.getElem?_eq_some_iff.1 hv).1
    have e : vs[off]? = some vs[off] := List.getElem?_eq_getElem (by omega)
    refine ⟨_, hr off v _ hv e, fun w' => ?_⟩
    simp [part, run_agg hu, hA, Result.andThen, e]
  | true =>
    rw [hA] at hv
    simp only [if_true] at hv
    split at hv
    · rename_i hk
      cases hv
      refine ⟨.agg ((vs.drop off).take size).toArray, RelV.agg _ _ (by simp; omega) (fun j c u h1 h2 => ?_), fun w' => ?_⟩
      · have hj : j < size := by have := (List.getElem?_eq_some_iff.1 h1).1; simp at this; omega
        rw [List.getElem?_take_of_lt hj, List.getElem?_drop] at h1 h2
        exact hr _ c u h1 h2
      · simp [part, run_agg hu, hA, Result.andThen, run_size hs, List.extract_eq_take_drop]
    · cases hv

theorem Reader.field {cs : List AV} {v : AV} {f off size : Nat} {ft : TypeId} {D : TypeDesc} (ho : o.op = .field t x f) (hf : fieldOf P t f off ft size) (hu : P.underlying ft = some D) (hx : s.eval x = .agg cs) (hxc : ∃ r, x = .tmp r)
    (hv : partOf (TypeDesc.agg D) size cs off = some v) (hfl : v.un.flat = true) : Reader P n s o d v.un := by
  intro G a w h
  obtain ⟨fs, F, hut, hF, rfl, rfl, hs⟩ := hf
  obtain ⟨r, rfl⟩ := hxc
  have hp := h.slot r
  rw [show s.get r = .agg cs from hx] at hp
  generalize hav : a.tmps.getD r undef = va at hp
  have hp' : RelV P G w (.agg cs) va := hp
  cases hp' with
  | agg _ vs hl hr =>
    obtain ⟨u, hu1, hu2⟩ := run_part (t := F.type) hu hs hl hr hv
    refine ⟨u, hu1.un.toS hfl, fun w' _ => ?_⟩
    have hav' : a.eval (.tmp r) = .agg vs.toArray := hav
    simp [execOp, ho, Instr.field, hav', run_underlying hut, hF, asAgg, hu2 w']

/-- A part of an answer of several values: a copy. -/
theorem Reader.extract {cs : List AV} {v : AV} {r m : Nat} (ho : o.op = .extract (.tmp r) m) (hx : s.get r = .tuple cs) (hc : cs[m]? = some v) (hf : v.un.flat = true) : Reader P n s o d v.un := by
  intro G a w h
  have hp := h.slot r
  rw [hx] at hp
  obtain ⟨vs, hav, hl, hr⟩ := hp
  have hlt := (List.getElem?_eq_some_iff.1 hc).1
  have e : vs[m]? = some vs[m] := List.getElem?_eq_getElem (by omega)
  have h1 := hr m v _ hc e
  refine ⟨vs[m], ?_, fun w' _ => ?_⟩
  · rcases h1.toV with h2 | ⟨cs', rfl⟩
    · exact h2.toS hf
    · cases hf
  · have hav' : a.eval (.tmp r) = .tuple vs.toArray := hav
    simp [execOp, ho, Instr.extract, hav', e]

end
end
section
open Go.RowKit

section
variable {P : Program} {G G' : Gh} {w w' : World}

theorem ownsRow_same {base : Nat} {e : TypeId} {size : Nat} {v : Value} {n : Nat} {xs : List Value} (h : w.ownsRow base e size v n xs) (hb : ∀ b, v.ownBlock = some b → w'.heap[b]? = w.heap[b]?) : w'.ownsRow base e size v n xs := by
  obtain ⟨h1, h2⟩ := h
  refine ⟨h1, h2.imp id ?_⟩
  rintro ⟨g, cap, cur, rfl, hg, hh, r⟩
  exact ⟨g, cap, cur, rfl, hg, by rw [hb g rfl]; exact hh, r⟩

theorem RelO.move {q q' : Pos} {x : AV} {v : Value} (st : Stab G w G' w') (hz : w.heap.size ≤ w'.heap.size)
    (ho : ∀ b, b < w.heap.size → G.owner b = some q → G'.owner b = some q' ∧ w'.heap[b]? = w.heap[b]? ∧ G'.tip b = G.tip b) (h : RelO P G w q x v) : RelO P G' w' q' x v := by
  cases x with
  | list o E xs =>
    cases o with
    | false => exact RelV.stab st (x := .list false E xs) h
    | true =>
      rcases h with ⟨size, us, hs, hl, hsc, hown, hr, hb⟩ | h
      · refine .inl ⟨size, us, hs, hl, hsc, ownsRow_same hown (fun b e => ?_), fun j c u h1 h2 => (hr j c u h1 h2).stab st, fun b e => ?_⟩
        · obtain ⟨h1, h2, h3⟩ := hb b e
          exact (ho b h1 h2).2.1
        · obtain ⟨h1, h2, h3⟩ := hb b e
          obtain ⟨k1, k2, k3⟩ := ho b h1 h2
          exact ⟨Nat.lt_of_lt_of_le h1 hz, k1, k3.trans h3⟩
      · exact .inr h
  | _ => exact RelV.stab st h

theorem RelS.move {p p' : Nat → Pos} {x : AV} {v : Value} (st : Stab G w G' w') (hz : w.heap.size ≤ w'.heap.size) (hlb : ∀ k off, x = .lptr k off → G'.lb k = G.lb k)
    (ho : ∀ c b, b < w.heap.size → G.owner b = some (p c) → G'.owner b = some (p' c) ∧ w'.heap[b]? = w.heap[b]? ∧ G'.tip b = G.tip b) (h : RelS P G w p x v) : RelS P G' w' p' x v := by
  cases x with
  | lptr k off => rw [show RelS P G' w' p' (.lptr k off) v = (v = .pointer (some ⟨G'.lb k, off, none⟩)) from rfl, hlb k off rfl]; exact h
  | eptr x k =>
    obtain ⟨b, o, us, hv, ht, hc⟩ := h
    refine ⟨b, o, us, hv, Nat.le_trans ht (st.tip b), fun j c hj => ?_⟩
    have hjl := (List.getElem?_eq_some_iff.1 hj).1
    rw [st.cell b (o + j) (by omega)]
    exact ⟨(hc j c hj).1, (hc j c hj).2.stab st⟩
  | tuple cs =>
    obtain ⟨vs, hv, hl, hr⟩ := h
    exact ⟨vs, hv, hl, fun j c u h1 h2 => (hr j c u h1 h2).move st hz (ho j)⟩
  | list o E xs => exact RelO.move (q := p 0) (q' := p' 0) (x := .list o E xs) st hz (ho 0) h
  | pin x u => exact ⟨h.1, h.2.1, h.2.2.stab st⟩
  | any => exact RelV.stab st (x := .any) h
  | lit u => exact RelV.stab st (x := .lit u) h
  | str l => exact RelV.stab st (x := .str l) h
  | gptr id off => exact RelV.stab st (x := .gptr id off) h
  | gmap id => exact RelV.stab st (x := .gmap id) h
  | gsl id f n c => exact RelV.stab st (x := .gsl id f n c) h
  | agg cs => exact RelV.stab st (x := .agg cs) h
  | fn f cap => exact RelV.stab st (x := .fn f cap) h
  | fnm f cap => exact RelV.stab st (x := .fnm f cap) h

/-- A copy, read later: whoever owns. -/
theorem RelS.unmove {p p' : Nat → Pos} {x : AV} {v : Value} (st : Stab G w G' w') (hlb : ∀ k off, x = .lptr k off → G'.lb k = G.lb k) (h : RelS P G w p x v) : RelS P G' w' p' x.un v := by
  have h1 := RelS.un (p' := p) h
  cases x with
  | lptr k off => rw [show RelS P G' w' p' (AV.lptr k off).un v = (v = .pointer (some ⟨G'.lb k, off, none⟩)) from rfl, hlb k off rfl]; exact h
  | eptr x k =>
    obtain ⟨b, o, us, hv, ht, hc⟩ := h
    refine ⟨b, o, us, hv, Nat.le_trans ht (st.tip b), fun j c hj => ?_⟩
    have hjl := (List.getElem?_eq_some_iff.1 hj).1
    rw [st.cell b (o + j) (by omega)]
    exact ⟨(hc j c hj).1, (hc j c hj).2.stab st⟩
  | tuple cs =>
    obtain ⟨vs, hv, hl, hr⟩ := h1
    refine ⟨vs, hv, hl, fun j c u hc hu => ?_⟩
    have h2 := hr j c u hc hu
    rw [List.getElem?_map] at hc
    cases hx : cs[j]? with
    | none => simp [hx] at hc
    | some c' =>
      simp only [hx, Option.map_some, Option.some.injEq] at hc
      subst hc
      cases c' with
      | list o E xs => exact RelV.stab st (x := .list false E xs) h2
      | lptr k off => exact RelV.stab st (x := .lptr k off) h2
      | eptr x k => exact RelV.stab st (x := .eptr x k) h2
      | tuple cs => exact RelV.stab st (x := .tuple cs) h2
      | any => exact RelV.stab st (x := .any) h2
      | lit u => exact RelV.stab st (x := .lit u) h2
      | str l => exact RelV.stab st (x := .str l) h2
      | gptr id off => exact RelV.stab st (x := .gptr id off) h2
      | gmap id => exact RelV.stab st (x := .gmap id) h2
      | gsl id f n c => exact RelV.stab st (x := .gsl id f n c) h2
      | agg cs => exact RelV.stab st (x := .agg cs) h2
      | fn f cap => exact RelV.stab st (x := .fn f cap) h2
      | fnm f cap => exact RelV.stab st (x := .fnm f cap) h2
      | pin x u => exact RelV.stab st (x := .pin x u) h2
  | list o E xs => exact RelV.stab st (x := .list false E xs) h1
  | pin x u => rw [show (AV.pin x u).un = x.un from rfl, plain_un h.2.1]; exact (h.2.2.stab st).toS (plain_flat h.2.1)
  | any => exact RelV.stab st (x := .any) h1
  | lit u => exact RelV.stab st (x := .lit u) h1
  | str l => exact RelV.stab st (x := .str l) h1
  | gptr id off => exact RelV.stab st (x := .gptr id off) h1
  | gmap id => exact RelV.stab st (x := .gmap id) h1
  | gsl id f n c => exact RelV.stab st (x := .gsl id f n c) h1
  | agg cs => exact RelV.stab st (x := .agg cs) h1
  | fn f cap => exact RelV.stab st (x := .fn f cap) h1
  | fnm f cap => exact RelV.stab st (x := .fnm f cap) h1

theorem Holds.move {b : Nat} {own : Pos} {p : Nat → Pos} {cells : List AV} (st : Stab G w G' w') (hz : w.heap.size ≤ w'.heap.size) (hh : w'.heap[b]? = w.heap[b]?) (hb : G'.owner b = G.owner b) (ht : G'.tip b = G.tip b)
    (ho : ∀ c b, b < w.heap.size → G.owner b = some (p c) → G'.owner b = some (p c) ∧ w'.heap[b]? = w.heap[b]? ∧ G'.tip b = G.tip b) (h : Holds P G w b own p cells) : Holds P G' w' b own p cells := by
  obtain ⟨arr, T, h1, h2, h3, h4, h5, h6⟩ := h
  exact ⟨arr, T, hh.trans h1, h2, hb.trans h3, ht.trans h4, h5, fun j c u hj hu => (h6 j c u hj hu).move st hz (ho j)⟩

theorem Holds.lt {b : Nat} {own : Pos} {p : Nat → Pos} {cells : List AV} (h : Holds P G w b own p cells) : b < w.heap.size := by
  obtain ⟨arr, T, h1, _⟩ := h
  exact (Array.getElem?_eq_some_iff.1 h1).1
theorem Holds.own {b : Nat} {own : Pos} {p : Nat → Pos} {cells : List AV} (h : Holds P G w b own p cells) : G.owner b = some own := by
  obtain ⟨arr, T, _, _, h3, _⟩ := h
  exact h3

theorem HoldsM.move {b : Nat} {own : Pos} {S : List (List UInt8 × AV)} (st : Stab G w G' w') (hh : w'.heap[b]? = w.heap[b]?) (hb : G'.owner b = G.owner b) (ht : G'.tip b = G.tip b) (h : HoldsM P G w b own S) : HoldsM P G' w' b own S := by
  obtain ⟨es, clock, h1, h2, h3, h4, h5⟩ := h
  exact ⟨es, clock, hh.trans h1, hb.trans h2, ht.trans h3, h4, fun i k x hi => by obtain ⟨e, a1, a2, a3⟩ := h5 i k x hi; exact ⟨e, a1, a2, a3.stab st⟩⟩
theorem HoldsG.move {b : Nat} {own : Pos} {S : List (Value × AV)} (st : Stab G w G' w') (hh : w'.heap[b]? = w.heap[b]?) (hb : G'.owner b = G.owner b) (ht : G'.tip b = G.tip b) (h : HoldsG P G w b own S) : HoldsG P G' w' b own S := by
  obtain ⟨es, clock, h1, h2, h3, h4, h5⟩ := h
  exact ⟨es, clock, hh.trans h1, hb.trans h2, ht.trans h3, h4, fun i k x hi => by obtain ⟨e, a1, a3⟩ := h5 i k x hi; exact ⟨e, a1, a3.stab st⟩⟩
theorem HoldsX.move {b id : Nat} {cells : List AV} (st : Stab G w G' w') (hz : w.heap.size ≤ w'.heap.size) (hk : b < w.heap.size → G.owner b = some (.mb id) → w'.heap[b]? = w.heap[b]? ∧ G'.owner b = G.owner b ∧ G'.tip b = G.tip b)
    (ho : ∀ c b, b < w.heap.size → G.owner b = some (.mc id c) → G'.owner b = some (.mc id c) ∧ w'.heap[b]? = w.heap[b]? ∧ G'.tip b = G.tip b) (h : HoldsX P G w b id cells) : HoldsX P G' w' b id cells := by
  rcases h with ⟨h, arr, hty⟩ | ⟨S, e, h⟩ | h | ⟨S, e, h⟩ | ⟨o, n, e, h⟩
  · obtain ⟨hh, hb, ht⟩ := hk h.lt h.own
    exact .inl ⟨h.move st hz hh hb ht ho, arr, hh.trans hty⟩
  · obtain ⟨hh, hb, ht⟩ := hk (by obtain ⟨es, clock, h1, _⟩ := h; exact (Array.getElem?_eq_some_iff.1 h1).1) (by obtain ⟨_, _, _, h2, _⟩ := h; exact h2)
    exact .inr (.inl ⟨S, e, h.move st hh hb ht⟩)
  · exact .inr (.inr (.inl h))
  · obtain ⟨hh, hb, ht⟩ := hk (by obtain ⟨es, clock, h1, _⟩ := h; exact (Array.getElem?_eq_some_iff.1 h1).1) (by obtain ⟨_, _, _, h2, _⟩ := h; exact h2)
    exact .inr (.inr (.inr (.inl ⟨S, e, h.move st hh hb ht⟩)))
  · obtain ⟨arr, E, h1, h2, h3, h4, h5⟩ := h
    obtain ⟨hh, hb, ht⟩ := hk (Array.getElem?_eq_some_iff.1 h1).1 h4
    exact .inr (.inr (.inr (.inr ⟨o, n, e, arr, E, hh.trans h1, h2, h3, hb.trans h4, ht.trans h5⟩)))

theorem RelM.move {M : Nat → Option (List AV)} (st : Stab G w G' w') (hz : w.heap.size ≤ w'.heap.size)
    (ho : ∀ q b, q.glob = true → b < w.heap.size → G.owner b = some q → G'.owner b = some q ∧ w'.heap[b]? = w.heap[b]? ∧ G'.tip b = G.tip b)
    (hfar : ∀ b, w'.heap.size ≤ b → G'.tip b = 0 ∧ G'.owner b = none) (hmb : G'.mb = G.mb) (h : RelM P G w M) : RelM P G' w' M := by
  refine ⟨fun id cells hm => ?_, hfar, by rw [hmb]; exact h.fin⟩
  obtain ⟨b, hb, hh⟩ := h.obj id cells hm
  exact ⟨b, st.mb id b hb, hh.move st hz (fun hlt hown => by
    obtain ⟨k1, k2, k3⟩ := ho (.mb id) b rfl hlt hown
    exact ⟨k2, k1.trans hown.symm, k3⟩) (fun c b' h1 h2 => ho (.mc id c) b' rfl h1 h2)⟩
end

/-- What stays as it was, but for slot d, which is written, and slots that own nothing any more ('ex'). -/
theorem RelSt.turnX {P : Program} {n : Nat} {s : St} {a : Act} {G G' : Gh} {w w' : World} {d : Nat} {v : AV} {u : Value} (ex : Nat → Prop) (hex : ∀ i, ex i → i = d ∨ (s.get i).un = s.get i) (hr : RelSt P G n s a w) (hd : d < n) (kp : Stab G w G' w') (hz : w.heap.size ≤ w'.heap.size)
    (hlb : ∀ k, (lookL s.loc k).isSome = true ∨ (∃ i off, s.get i = .lptr k off) → G'.lb k = G.lb k)
    (ho : ∀ q b, b < w.heap.size → G.owner b = some q → (∀ i c, ex i → q ≠ .slot i c) → G'.owner b = some q ∧ w'.heap[b]? = w.heap[b]? ∧ G'.tip b = G.tip b)
    (hfar : ∀ b, w'.heap.size ≤ b → G'.tip b = 0 ∧ G'.owner b = none) (hmb : G'.mb = G.mb)
    (hv : RelS P G' w' (.slot d) v u) : RelSt P G' n (s.put d v) (a.put (some d) u) w' := by
  refine ⟨by simp [Act.put, hr.size], by simpa [Act.put] using hr.defers, fun i => ?_, fun k cells hk => ?_, ?_⟩
  · rw [getD_put _ _ _ _ (by rw [hr.size]; exact hd)]
    show RelS P G' w' (.slot i) (look .any ((d, v) :: s.fr) i) _
    simp only [look]
    by_cases e : i = d
    · subst e; simp only [if_true]; exact hv
    · rw [if_neg (Ne.symm e), if_neg e]
      by_cases hx : ex i
      · have h1 := (hr.slot i).unmove (p' := .slot i) kp (fun k off hx => hlb k (.inr ⟨i, off, hx⟩))
        rw [(hex i hx).resolve_left e] at h1
        exact h1
      · exact (hr.slot i).move kp hz (fun k off hx => hlb k (.inr ⟨i, off, hx⟩)) (fun c b h1 h2 => ho _ b h1 h2 (fun i' c' hi' h => by injection h with h3; subst h3; exact hx hi'))
  · have h0 := hr.loc k cells hk
    obtain ⟨k1, k2, k3⟩ := ho _ _ h0.lt h0.own (fun i c _ h => by cases h)
    rw [hlb k (.inl (by rw [show lookL s.loc k = some cells from hk]; rfl))]
    exact h0.move kp hz k2 (k1.trans h0.own.symm) k3 (fun c b h1 h2 => ho _ b h1 h2 (fun i c' _ h => by cases h))
  · exact hr.mem.move kp hz (fun q b hq h1 h2 => ho q b h1 h2 (fun i c _ h => by subst h; cases hq)) hfar hmb

theorem RelSt.turn {P : Program} {n : Nat} {s : St} {a : Act} {G G' : Gh} {w w' : World} {d : Nat} {v : AV} {u : Value} (hr : RelSt P G n s a w) (hd : d < n) (kp : Stab G w G' w') (hz : w.heap.size ≤ w'.heap.size)
    (hlb : ∀ k, (lookL s.loc k).isSome = true ∨ (∃ i off, s.get i = .lptr k off) → G'.lb k = G.lb k)
    (ho : ∀ q b, b < w.heap.size → G.owner b = some q → (∀ c, q ≠ .slot d c) → G'.owner b = some q ∧ w'.heap[b]? = w.heap[b]? ∧ G'.tip b = G.tip b)
    (hfar : ∀ b, w'.heap.size ≤ b → G'.tip b = 0 ∧ G'.owner b = none) (hmb : G'.mb = G.mb)
    (hv : RelS P G' w' (.slot d) v u) : RelSt P G' n (s.put d v) (a.put (some d) u) w' :=
  hr.turnX (fun i => i = d) (fun _i h => .inl h) hd kp hz hlb (fun q b h1 h2 h3 => ho q b h1 h2 (fun c => h3 d c rfl)) hfar hmb hv

theorem un_un : ∀ x : AV, x.un.un = x.un
  | .pin x v => un_un x
  | .tuple cs => by
    simp only [AV.un, List.map_map]
    congr 1
    apply List.map_congr_left
    intro c _
    cases c <;> rfl
  | .any | .lit _ | .str _ | .lptr _ _ | .gptr _ _ | .gmap _ | .gsl _ _ _ _ | .eptr _ _ | .list _ _ _ | .agg _ | .fn _ _ | .fnm _ _ => rfl

/-- A slot gives up what it owns. -/
theorem RelSt.unslot {P : Program} {n : Nat} {s : St} {a : Act} {G : Gh} {w : World} (hr : RelSt P G n s a w) (r : Nat) : RelSt P G n (s.put r (s.get r).un) a w := by
  refine ⟨hr.size, hr.defers, fun i => ?_, hr.loc, hr.mem⟩
  show RelS P G w (.slot i) (look .any ((r, (s.get r).un) :: s.fr) i) _
  simp only [look]
  split
  · rename_i e; subst e; exact RelS.un (hr.slot r)
  · exact hr.slot i

theorem get_put (s : St) (r : Nat) (v : AV) : (s.put r v).get r = v := by simp [St.put, St.get, look]

section
variable {P : Program} {n : Nat} {s : St} {ops : Array Oper} {o : Oper} {rest : List Oper} {Q : St → Prop} {d r : Nat} {t E : TypeId} {x y : Operand}

/-- An operation that may write: how its run goes on. -/
theorem AOps.step {s' : St} (hg : Wants ops s o) (hd : o.dst = some d)
    (h : ∀ (G : Gh) (a : Act) (w : World), RelSt P G n s a w → ∃ u w' G', (execOp a.eval o).run P w = .ok (.value u) w' ∧ RelSt P G' n s' (a.put (some d) u) w' ∧ Keep G w G' w') (k : AOps P n ops rest s' Q) : AOps P n ops (o :: rest) s Q := by
  intro G a w K hr hfx hK
  simp only [wpList]
  rw [if_pos (wants_eval hr (fun t => by omega) hg)]
  left
  obtain ⟨u, w', G', hrun, hr', hk⟩ := h G a w hr
  unfold Oper.wp
  rw [hrun, Oper.upon_value, hd]
  exact k G' _ w' K hr' (hfx.keep hk) fun s2 G2 a2 w2 hq hr2 hk2 => hK s2 G2 a2 w2 hq hr2 (hk.trans hk2)

/-- .. and of one that yields nothing. -/
theorem AOps.effect {s' : St} (hg : Wants ops s o) (hd : o.dst = none)
    (h : ∀ (G : Gh) (a : Act) (w : World), RelSt P G n s a w → ∃ w' G', (execOp a.eval o).run P w = .ok .skip w' ∧ RelSt P G' n s' a w' ∧ Keep G w G' w') (k : AOps P n ops rest s' Q) : AOps P n ops (o :: rest) s Q := by
  intro G a w K hr hfx hK
  simp only [wpList]
  rw [if_pos (wants_eval hr (fun t => by omega) hg)]
  left
  obtain ⟨w', G', hrun, hr', hk⟩ := h G a w hr
  unfold Oper.wp
  rw [hrun, Oper.upon_skip, hd]
  exact k G' _ w' K hr' (hfx.keep hk) fun s2 G2 a2 w2 hq hr2 hk2 => hK s2 G2 a2 w2 hq hr2 (hk.trans hk2)

/-- A copy by which the row's owner becomes the copy. -/
theorem AOps.steal {v : AV} (hg : Wants ops s o) (hd : o.dst = some d) (hn : d < n) (hrd : r ≠ d) (ho : o.op = .move (.tmp r) ∨ o.op = .assign (.tmp r)) (hv : s.get r = v)
    (k : AOps P n ops rest { s with fr := (d, v) :: (r, v.un) :: s.fr } Q) : AOps P n ops (o :: rest) s Q := by
  refine AOps.step hg hd ?_ k
  intro G a w hr
  subst hv
  let G' : Gh := { G with owner := fun b => match G.owner b with | some (.slot i c) => if i = r then some (.slot d c) else some (.slot i c) | q => q }
  have st : Stab G w G' w := ⟨fun _ => Nat.le_refl _, fun _ _ _ => rfl, fun _ _ h => h⟩
  have hown : ∀ q b, G.owner b = some q → (∀ c, q ≠ .slot r c) → G'.owner b = some q := by
    intro q b h1 h2
    show (match G.owner b with | some (.slot i c) => if i = r then some (Pos.slot d c) else some (.slot i c) | q => q) = some q
    rw [h1]
    cases q with
    | slot i c => simp only; rw [if_neg (fun e => h2 c (by rw [e]))]
    | _ => rfl
  refine ⟨a.tmps.getD r undef, w, G', ?_, ?_, ?_⟩
  · rcases ho with ho | ho <;> simp [execOp, ho, Act.eval]
  · refine ⟨by simp [Act.put, hr.size], by simpa [Act.put] using hr.defers, fun i => ?_, fun k cells hk => ?_, ?_⟩
    · rw [getD_put _ _ _ _ (by rw [hr.size]; exact hn)]
      show RelS P G' w (.slot i) (look .any ((d, s.get r) :: (r, (s.get r).un) :: s.fr) i) _
      simp only [look]
      by_cases e : i = d
      · subst e
        simp only [if_true]
        refine (hr.slot r).move st (Nat.le_refl _) (fun _ _ _ => rfl) (fun c b _ h2 => ⟨?_, rfl, rfl⟩)
        show (match G.owner b with | some (.slot i' c) => if i' = r then some (Pos.slot i c) else some (.slot i' c) | q => q) = _
        rw [h2]; simp
      · rw [if_neg (Ne.symm e), if_neg e]
        by_cases e2 : i = r
        · subst e2
          simp only [if_true]
          exact (hr.slot i).unmove st (fun _ _ _ => rfl)
        · rw [if_neg (Ne.symm e2)]
          exact (hr.slot i).move st (Nat.le_refl _) (fun _ _ _ => rfl) (fun c b _ h2 => ⟨hown _ b h2 (fun c' h => e2 (by injection h)), rfl, rfl⟩)
    · exact (hr.loc k cells hk).move st (Nat.le_refl _) rfl ((hown _ _ (hr.loc k cells hk).own (fun c h => by cases h)).trans (hr.loc k cells hk).own.symm) rfl (fun c b _ h2 => ⟨hown _ b h2 (fun c' h => by cases h), rfl, rfl⟩)
    · exact hr.mem.move st (Nat.le_refl _) (fun q b hq _ h2 => ⟨hown q b h2 (fun c h => by subst h; cases hq), rfl, rfl⟩) (fun b hb => ⟨(hr.mem.far b hb).1, by
        show (match G.owner b with | some (.slot i c) => if i = r then some (Pos.slot d c) else some (.slot i c) | q => q) = none
        rw [(hr.mem.far b hb).2]⟩) rfl
  · refine ⟨rfl, rfl, rfl, Nat.le_refl _, fun b _ h => ⟨?_, rfl, rfl⟩, st⟩
    show (match G.owner b with | some (.slot i c) => if i = r then some (Pos.slot d c) else some (.slot i c) | q => q) = none
    rw [h]


/-- The heap with one block more. -/
theorem heap_new (w : World) (ob : Obj) : (w.alloc ob).heap[w.heap.size]? = some ob := (MapKept.heap_alloc w ob).1
theorem heap_old (w : World) (ob : Obj) (b : Nat) (h : b < w.heap.size) : (w.alloc ob).heap[b]? = w.heap[b]? := Below.heap_alloc _ _ _ h
theorem size_alloc (w : World) (ob : Obj) : (w.alloc ob).heap.size = w.heap.size + 1 := by simp

/-- A new block, owned by q. -/
def Gh.new (G : Gh) (b : Nat) (q : Pos) (tip : Nat) : Gh := { G with owner := fun c => if c = b then some q else G.owner c, tip := fun c => if c = b then tip else G.tip c }

theorem stab_new {G : Gh} {w : World} (ob : Obj) (q : Pos) (tip : Nat) (hfar : ∀ b, w.heap.size ≤ b → G.tip b = 0 ∧ G.owner b = none) : Stab G w (G.new w.heap.size q tip) (w.alloc ob) := by
  refine ⟨fun b => ?_, fun b oo ho => ?_, fun _ _ h => h⟩
  · show G.tip b ≤ if b = w.heap.size then tip else G.tip b
    split
    · rename_i e; subst e; rw [(hfar _ (Nat.le_refl _)).1]; exact Nat.zero_le _
    · exact Nat.le_refl _
  · have hb : b < w.heap.size := by
      rcases Nat.lt_or_ge b w.heap.size with h | h
      · exact h
      · rw [(hfar b h).1] at ho; omega
    exact World.cell?_of_block (w := w) (a := ⟨b, oo, none⟩) (heap_old _ _ _ hb)

theorem far_new {G : Gh} {w : World} (ob : Obj) (q : Pos) (tip : Nat) (hfar : ∀ b, w.heap.size ≤ b → G.tip b = 0 ∧ G.owner b = none) (b : Nat) (hb : (w.alloc ob).heap.size ≤ b) : (G.new w.heap.size q tip).tip b = 0 ∧ (G.new w.heap.size q tip).owner b = none := by
  rw [size_alloc] at hb
  have hne : b ≠ w.heap.size := by omega
  obtain ⟨h1, h2⟩ := hfar b (by omega)
  simp only [Gh.new, if_neg hne]
  exact ⟨h1, h2⟩

theorem keep_new {G : Gh} {w : World} (ob : Obj) (q : Pos) (tip : Nat) (hfar : ∀ b, w.heap.size ≤ b → G.tip b = 0 ∧ G.owner b = none) : Keep G w (G.new w.heap.size q tip) (w.alloc ob) := by
  refine ⟨rfl, rfl, rfl, by rw [size_alloc]; omega, fun b hb ho => ?_, stab_new ob q tip hfar⟩
  have hne : b ≠ w.heap.size := by omega
  simp only [Gh.new, if_neg hne]
  exact ⟨ho, heap_old _ _ _ hb, trivial⟩

theorem own_new {G : Gh} {w : World} (ob : Obj) (q q' : Pos) (tip b : Nat) (hb : b < w.heap.size) (ho : G.owner b = some q') : (G.new w.heap.size q tip).owner b = some q' ∧ (w.alloc ob).heap[b]? = w.heap[b]? ∧ (G.new w.heap.size q tip).tip b = G.tip b := by
  have hne : b ≠ w.heap.size := by omega
  simp only [Gh.new, if_neg hne]
  exact ⟨ho, heap_old _ _ _ hb, trivial⟩

/-- A fresh row in slot d. -/
theorem AOps.row {xs : List AV} (hg : Wants ops s o) (hd : o.dst = some d) (hn : d < n) {size : Nat} (hs : SizeOf P E size) (hl : ∀ x ∈ xs, x.cells.length = size) (hsc : ∀ x ∈ xs, ∀ c ∈ x.cells, c.scalar = true) (hmax : xs.length ≤ maxLen)
    (h : ∀ (G : Gh) (a : Act) (w : World), RelSt P G n s a w → ∃ cs : List Value, cs.length = xs.length * size ∧ (∀ (j : Nat) c u, (xs.flatMap AV.cells)[j]? = some c → cs[j]? = some u → RelV P G w c u) ∧
      (execOp a.eval o).run P w = .ok (.value (.slice (some ⟨w.heap.size, 0, none⟩) xs.length xs.length)) (w.alloc (.cells cs.toArray E)))
    (k : AOps P n ops rest (s.put d (.list true E xs)) Q) : AOps P n ops (o :: rest) s Q := by
  refine AOps.step hg hd ?_ k
  intro G a w hr
  obtain ⟨cs, hcl, hcr, hrun⟩ := h G a w hr
  have hfar := hr.mem.far
  have st := stab_new (.cells cs.toArray E) (.slot d 0) (xs.length * size) hfar
  refine ⟨_, _, G.new w.heap.size (.slot d 0) (xs.length * size), hrun, ?_, keep_new _ _ _ hfar⟩
  refine hr.turn hn st (by rw [size_alloc]; omega) (fun _ _ => rfl) (fun q b h1 h2 _ => own_new _ _ _ _ b h1 h2) (fun b hb => far_new _ _ _ hfar b hb) rfl ?_
  refine .inl ⟨size, cs, hs, hl, hsc, ⟨hcl, .inr ⟨w.heap.size, xs.length, cs.toArray, rfl, Nat.zero_le _, heap_new _ _, Nat.le_refl _, hmax, by simpa using hcl, by rw [← hcl]; simp⟩⟩, fun j c u h1 h2 => (hcr j c u h1 h2).stab st, fun b hb => ?_⟩
  simp only [Value.ownBlock, Option.some.injEq] at hb
  subst hb
  refine ⟨by rw [size_alloc]; omega, ?_, ?_⟩
  · show (if w.heap.size = w.heap.size then _ else _) = _; simp
  · show (if w.heap.size = w.heap.size then _ else _) = _; simp

/-- A local variable in a block of its own: 'box', 'alloc'. -/
theorem AOps.var {cells : List AV} (hg : Wants ops s o) (hd : o.dst = some d) (hn : d < n) (hnl : lookL s.loc d = none) (hno : ∀ i off, s.get i ≠ .lptr d off) (hsc : ∀ c ∈ cells, c.scalar = true) (hfl : ∀ c ∈ cells, c.flat = true)
    (h : ∀ (G : Gh) (a : Act) (w : World), RelSt P G n s a w → ∃ (cs : List Value) (T : TypeId), cs.length = cells.length ∧ (∀ (j : Nat) c u, cells[j]? = some c → cs[j]? = some u → RelV P G w c u) ∧
      (execOp a.eval o).run P w = .ok (.value (.pointer (some ⟨w.heap.size, 0, none⟩))) (w.alloc (.cells cs.toArray T)))
    (k : AOps P n ops rest { s with fr := (d, .lptr d 0) :: s.fr, loc := (d, cells) :: s.loc } Q) : AOps P n ops (o :: rest) s Q := by
  refine AOps.step hg hd ?_ k
  intro G a w hr
  obtain ⟨cs, T, hcl, hcr, hrun⟩ := h G a w hr
  have hfar := hr.mem.far
  let G1 := G.new w.heap.size (.lb d) 0
  let G' : Gh := { G1 with lb := fun k => if k = d then w.heap.size else G.lb k }
  have st1 : Stab G w G1 (w.alloc (.cells cs.toArray T)) := stab_new _ _ _ hfar
  have st : Stab G w G' (w.alloc (.cells cs.toArray T)) := ⟨st1.tip, st1.cell, st1.mb⟩
  have kp := keep_new (.cells cs.toArray T) (.lb d) 0 hfar
  have hT := hr.turn (G' := G') (d := d) (v := .lptr d 0) (u := .pointer (some ⟨w.heap.size, 0, none⟩)) hn st (by rw [size_alloc]; omega) (fun k hk => by
      show (if k = d then w.heap.size else G.lb k) = G.lb k
      rw [if_neg]
      intro e
      subst e
      rcases hk with hk | ⟨i, off, hk⟩
      · rw [hnl] at hk; cases hk
      · exact hno i off hk) (fun q b h1 h2 _ => own_new _ _ _ _ b h1 h2) (fun b hb => far_new _ _ _ hfar b hb) rfl (by
      show _ = Value.pointer (some ⟨if d = d then w.heap.size else G.lb d, 0, none⟩)
      simp)
  refine ⟨_, _, G', hrun, ⟨hT.size, hT.defers, hT.slot, fun k cells' hk => ?_, hT.mem⟩, ⟨kp.os, kp.tape, kp.output, kp.size, kp.free, st⟩⟩
  simp only [lookL] at hk
  split at hk
  · rename_i e
    subst e
    cases hk
    have e1 : G'.lb d = w.heap.size := by show (if d = d then w.heap.size else G.lb d) = _; simp
    rw [e1]
    refine ⟨cs.toArray, T, heap_new _ _, by simpa using hcl, ?_, ?_, hsc, fun j c u h1 h2 => ?_⟩
    · show (if w.heap.size = w.heap.size then _ else _) = _; simp
    · show (if w.heap.size = w.heap.size then _ else _) = _; simp
    · have := (hcr j c u h1 (by simpa using h2)).stab st
      exact this.toO (hfl c (List.mem_of_getElem? h1))
  · exact hT.loc k cells' hk

end
end
section
open Go.RowKit

section
variable {P : Program} {w : World}

/-- What append does to a row of one's own, or to none. -/
theorem run_app {t tx ty E : TypeId} {size bytes : Nat} {i : TypeInfo} {z : Value} (ht : P.underlying t = some (.slice E)) (hi : P.info? E = some i) (hz : i.zero = some z) (hsz : i.size = size) (hby : i.bytes = bytes) (hzs : z.cells.size = size)
    {v : Value} {n : Nat} {us : List Value} (hown : w.ownsRow 0 E size v n us) {x : Value} {m : Nat} {news : List Value} (hs : Src P size tx x m news w)
    (h63 : n + m ≤ maxLen) (hb : (n + m) * bytes ≤ 140737488355328) :
    ∃ v' w', (Builtin.append_ #[t, tx] ty #[v, x]).run P w = .ok v' w' ∧ w'.ownsRow 0 E size v' (n + m) (us ++ news) ∧ w'.os = w.os ∧ w'.tape = w.tape ∧ w'.output = w.output ∧
      ((v' = v ∧ w' = w ∧ m = 0) ∨ (w'.heap.size = w.heap.size ∧ (∃ g, v.ownBlock = some g ∧ v'.ownBlock = some g ∧ g < w.heap.size ∧ ∀ k, k ≠ g → w'.heap[k]? = w.heap[k]?)) ∨ (w'.heap.size = w.heap.size + 1 ∧ v'.ownBlock = some w.heap.size ∧ ∀ k, k < w.heap.size → w'.heap[k]? = w.heap[k]?)) := by
  subst hsz
  subst hby
  have hsmall : n + m ≤ 9223372036854775807 := by simp only [maxLen] at h63; omega
  -- a new row
  have grown : ∀ (old : Nat), old < n + m → us.length = n * i.size →
      (w.drew.alloc (.cells ((us ++ news).toArray ++ Builtin.zeroCells z.cells (grownCap w (n + m) old E - (n + m))) E)).ownsRow 0 E i.size (.slice (some ⟨w.heap.size, 0, none⟩) (n + m) (grownCap w (n + m) old E)) (n + m) (us ++ news) := by
    intro old ho hl
    have hge := grownCap_ge w (n + m) old E
    have hlen : (us ++ news).length = (n + m) * i.size := by rw [List.length_append, hl, hs.newsLen, Nat.add_mul]
    refine ⟨hlen, .inr ⟨w.heap.size, _, _, rfl, Nat.zero_le _, heap_alloc_new w.drew _, hge, grownCap_le_maxLen w (n + m) old E h63, ?_, ?_⟩⟩
    · rw [Array.size_append, List.size_toArray, size_zeroCells, hzs, hlen, ← Nat.add_mul]
      congr 1
      omega
    · rw [Array.toList_append, ← hlen]
      exact List.take_left
  have fin : ∀ (old : Nat), ((w.drew.alloc (.cells ((us ++ news).toArray ++ Builtin.zeroCells z.cells (grownCap w (n + m) old E - (n + m))) E)).heap.size = w.heap.size + 1) ∧
      ∀ k, k < w.heap.size → (w.drew.alloc (.cells ((us ++ news).toArray ++ Builtin.zeroCells z.cells (grownCap w (n + m) old E - (n + m))) E)).heap[k]? = w.heap[k]? := fun old => ⟨by simp, fun k hk => heap_alloc_old w.drew _ hk⟩
  rcases hown with ⟨hl, ⟨rfl, rfl⟩ | ⟨g, cap, cur, rfl, hbg, hg, hnc, hcm, hcs, htake⟩⟩
  · have hx : us = [] := List.eq_nil_of_length_eq_zero (by simpa using hl)
    subst hx
    by_cases hm : m = 0
    · subst hm
      have hn : news = [] := List.eq_nil_of_length_eq_zero (by simpa using hs.newsLen)
      subst hn
      refine ⟨.slice none 0 0, w, ?_, World.ownsRow_nil w 0 E i.size, rfl, rfl, rfl, .inl ⟨rfl, rfl, rfl⟩⟩
      rcases hs.kind with ⟨e', hk⟩ | hk <;> simp [Builtin.append_, run_underlying ht, run_underlying hk, sizeOf, typeInfo, hi, hs.len, hs.cells]
    · have hr := run_append_grow_src (P := P) w t tx ty E i z ht hi hz none 0 0 [] (run_firstCells_none w.drew i.size 0 0 0) x m news hs (by omega) (by omega) (growslice_fits (by omega) (by omega))
      have h1 := grown 0 (by omega) hl
      have h2 := fin 0
      simp only [Nat.zero_add, List.nil_append] at hr h1 h2 ⊢
      exact ⟨_, _, hr, h1, rfl, rfl, rfl, .inr (.inr ⟨h2.1, rfl, h2.2⟩)⟩
  · have hglt := (Array.getElem?_eq_some_iff.1 hg).1
    by_cases hroom : n + m ≤ cap
    · have hfit : n * i.size + news.length ≤ cur.size := by rw [hs.newsLen, hcs, ← Nat.add_mul]; exact Nat.mul_le_mul_right _ hroom
      have hst := run_storeCells_at (P := P) g (n * i.size) E news 0 cur w hg (by omega) hs.one
      simp only [Nat.add_zero] at hst
      have hr : (Builtin.append_ #[t, tx] ty #[.slice (some ⟨g, 0, none⟩) n cap, x]).run P w = .ok (.slice (some ⟨g, 0, none⟩) (n + m) cap) (w.setRow g (cur.toList.take (n * i.size) ++ news ++ cur.toList.drop (n * i.size + news.length)).toArray) := by
        rcases hs.kind with ⟨e', hk⟩ | hk <;> simp [Builtin.append_, run_underlying ht, run_underlying hk, sizeOf, typeInfo, hi, hs.len, hroom, hs.cells, Addr.add_lit, hst]
      have hlen : (us ++ news).length = (n + m) * i.size := by rw [List.length_append, hl, hs.newsLen, Nat.add_mul]
      refine ⟨_, _, hr, ⟨hlen, .inr ⟨g, cap, _, rfl, Nat.zero_le _, setRow_heap w g cur _ E _ hg, hroom, hcm, ?_, ?_⟩⟩, rfl, rfl, rfl, .inr (.inl ⟨by simp, g, rfl, rfl, hglt, fun k hk => setRow_other w g k _ hk⟩)⟩
      · simp only [List.size_toArray, List.length_append, List.length_take, List.length_drop, Array.length_toList]
        omega
      · rw [htake, ← hlen]
        exact List.take_left
    · have hold : (Builtin.firstCells i.size n (.slice (some ⟨g, 0, none⟩) n cap)).run P w.drew = .ok us.toArray w.drew := by
        refine run_firstCells_some w.drew i.size n ⟨g, 0, none⟩ n cap us hl (fun j u hj => ?_)
        rw [add_at, Nat.zero_add]
        rw [← htake, List.getElem?_take] at hj
        split at hj
        · show w.cell? ⟨g, j, none⟩ = some u
          simp only [World.cell?, hg, Option.isSome_none, Bool.false_eq_true, if_false]
          simpa using hj
        · cases hj
      have hr := run_append_grow_src (P := P) w t tx ty E i z ht hi hz (some ⟨g, 0, none⟩) n cap us hold x m news hs (by omega) (by omega) (growslice_fits (by omega) hb)
      have h2 := fin cap
      exact ⟨_, _, hr, grown cap (by omega) hl, rfl, rfl, rfl, .inr (.inr ⟨h2.1, rfl, h2.2⟩)⟩

/-- .. and to a piece of no elements and no capacity. -/
theorem run_app0 {t tx ty E : TypeId} {size bytes : Nat} {i : TypeInfo} {z : Value} (ht : P.underlying t = some (.slice E)) (hi : P.info? E = some i) (hz : i.zero = some z) (hsz : i.size = size) (hby : i.bytes = bytes) (hzs : z.cells.size = size)
    (b off : Nat) {x : Value} {m : Nat} {news : List Value} (hs : Src P size tx x m news w) (h63 : m ≤ maxLen) (hb : m * bytes ≤ 140737488355328) :
    ((Builtin.append_ #[t, tx] ty #[.slice (some ⟨b, off, none⟩) 0 0, x]).run P w = .ok (.slice (some ⟨b, off, none⟩) 0 0) w ∧ m = 0) ∨
    ∃ v' w', (Builtin.append_ #[t, tx] ty #[.slice (some ⟨b, off, none⟩) 0 0, x]).run P w = .ok v' w' ∧ w'.ownsRow 0 E size v' m news ∧ w'.os = w.os ∧ w'.tape = w.tape ∧ w'.output = w.output ∧
      w'.heap.size = w.heap.size + 1 ∧ v'.ownBlock = some w.heap.size ∧ ∀ k, k < w.heap.size → w'.heap[k]? = w.heap[k]? := by
  subst hsz
  subst hby
  have hsmall : m ≤ 9223372036854775807 := by simp only [maxLen] at h63; omega
  by_cases hm : m = 0
  · subst hm
    have hn : news = [] := List.eq_nil_of_length_eq_zero (by simpa using hs.newsLen)
    subst hn
    refine .inl ⟨?_, rfl⟩
    rcases hs.kind with ⟨e', hk⟩ | hk <;> simp [Builtin.append_, run_underlying ht, run_underlying hk, sizeOf, typeInfo, hi, hs.len, hs.cells, storeCells]
  · have hr := run_append_grow_src (P := P) w t tx ty E i z ht hi hz (some ⟨b, off, none⟩) 0 0 [] (run_firstCells_some w.drew i.size 0 ⟨b, off, none⟩ 0 0 [] (by simp) (fun j u h => by simp at h)) x m news hs (by omega) (by omega) (growslice_fits (by omega) (by rw [Nat.zero_add]; exact hb))
    have hge := grownCap_ge w m 0 E
    simp only [Nat.zero_add, List.nil_append] at hr
    refine .inr ⟨_, _, hr, ⟨hs.newsLen, .inr ⟨w.heap.size, _, _, rfl, Nat.zero_le _, heap_alloc_new w.drew _, hge, grownCap_le_maxLen w m 0 E h63, ?_, ?_⟩⟩, rfl, rfl, rfl, by simp, rfl, fun k hk => heap_alloc_old w.drew _ hk⟩
    · rw [Array.size_append, List.size_toArray, size_zeroCells, hzs, hs.newsLen, ← Nat.add_mul]
      congr 1
      omega
    · rw [Array.toList_append, ← hs.newsLen]
      exact List.take_left

theorem news_of {G : Gh} {ys : List AV} {size : Nat} {b off : Nat} {us : Nat → Value} (hl : ∀ x ∈ ys, x.cells.length = size) (hsc : ∀ x ∈ ys, ∀ c ∈ x.cells, c.scalar = true)
    (hc : ∀ j, j < ys.length * size → w.cell? ⟨b, off + j, none⟩ = some (us j)) (hr : ∀ j c, (ys.flatMap AV.cells)[j]? = some c → RelV P G w c (us j)) :
    let news := (List.range (ys.length * size)).map us
    news.length = ys.length * size ∧ (∀ (j : Nat) u, news[j]? = some u → w.cell? ((⟨b, off, none⟩ : Addr).add j) = some u) ∧ (∀ u ∈ news, u.oneCell' = true) ∧ ∀ (j : Nat) c u, (ys.flatMap AV.cells)[j]? = some c → news[j]? = some u → RelV P G w c u := by
  have key : ∀ (j : Nat) u, ((List.range (ys.length * size)).map us)[j]? = some u → j < ys.length * size ∧ us j = u := by
    intro j u h
    have hj : j < ys.length * size := by have := (List.getElem?_eq_some_iff.1 h).1; simpa using this
    rw [List.getElem?_map, List.getElem?_range hj] at h
    simp at h
    exact ⟨hj, h⟩
  refine ⟨by simp, fun j u h => ?_, fun u hu => ?_, fun j c u h1 h2 => ?_⟩
  · obtain ⟨h1, rfl⟩ := key j u h
    rw [add_at]; exact hc j h1
  · obtain ⟨j, hj, rfl⟩ := List.mem_map.1 hu
    simp at hj
    have hlen := flat_len hl
    obtain ⟨c, hcc⟩ : ∃ c, (ys.flatMap AV.cells)[j]? = some c := ⟨(ys.flatMap AV.cells)[j]'(by omega), by simp⟩
    have hmem := List.mem_of_getElem? hcc
    obtain ⟨x, hx, hxc⟩ := List.mem_flatMap.1 hmem
    exact (hr j c hcc).oneCell (hsc x hx c hxc)
  · obtain ⟨_, rfl⟩ := key j u h2
    exact hr j c h1
end
end
section
open Go.RowKit

section
variable {P : Program} {n : Nat} {s : St} {ops : Array Oper} {o : Oper} {rest : List Oper} {Q : St → Prop} {d r : Nat} {t tx E : TypeId} {x y : Operand}

theorem flat_app (xs ys : List AV) : (xs ++ ys).flatMap AV.cells = xs.flatMap AV.cells ++ ys.flatMap AV.cells := List.flatMap_append

theorem rel_app {G : Gh} {w : World} {cx cy : List AV} {ux uy : List Value} (hx : ux.length = cx.length) (h1 : ∀ (j : Nat) c u, cx[j]? = some c → ux[j]? = some u → RelV P G w c u) (h2 : ∀ (j : Nat) c u, cy[j]? = some c → uy[j]? = some u → RelV P G w c u) :
    ∀ (j : Nat) c u, (cx ++ cy)[j]? = some c → (ux ++ uy)[j]? = some u → RelV P G w c u := by
  intro j c u hc hu
  rcases Nat.lt_or_ge j cx.length with h | h
  · rw [List.getElem?_append_left h] at hc
    rw [List.getElem?_append_left (by omega)] at hu
    exact h1 j c u hc hu
  · rw [List.getElem?_append_right h] at hc
    rw [List.getElem?_append_right (by omega), hx] at hu
    exact h2 _ c u hc hu

/-- A row that was laid anew: the ghost, the memory. -/
theorem grown_new {G : Gh} {w w' : World} {_v' : Value} (q : Pos) (tip : Nat) (hsz : w'.heap.size = w.heap.size + 1) (hsame : ∀ k, k < w.heap.size → w'.heap[k]? = w.heap[k]?) (hfar : ∀ b, w.heap.size ≤ b → G.tip b = 0 ∧ G.owner b = none)
    (hos : w'.os = w.os) (htape : w'.tape = w.tape) (hout : w'.output = w.output) :
    Keep G w (G.new w.heap.size q tip) w' ∧ (∀ q' b, b < w.heap.size → G.owner b = some q' → (G.new w.heap.size q tip).owner b = some q' ∧ w'.heap[b]? = w.heap[b]? ∧ (G.new w.heap.size q tip).tip b = G.tip b) ∧
      ∀ b, w'.heap.size ≤ b → (G.new w.heap.size q tip).tip b = 0 ∧ (G.new w.heap.size q tip).owner b = none := by
  have st : Stab G w (G.new w.heap.size q tip) w' := by
    refine ⟨fun b => ?_, fun b oo ho => ?_, fun _ _ h => h⟩
    · show G.tip b ≤ if b = w.heap.size then tip else G.tip b
      split
      · rename_i e; subst e; rw [(hfar _ (Nat.le_refl _)).1]; exact Nat.zero_le _
      · exact Nat.le_refl _
    · have hb : b < w.heap.size := by
        rcases Nat.lt_or_ge b w.heap.size with h | h
        · exact h
        · rw [(hfar b h).1] at ho; omega
      exact World.cell?_of_block (w := w) (a := ⟨b, oo, none⟩) (hsame b hb)
  refine ⟨⟨hos, htape, hout, by omega, fun b hb ho => ?_, st⟩, fun q' b hb ho => ?_, fun b hb => ?_⟩
  · have hne : b ≠ w.heap.size := by omega
    simp only [Gh.new, if_neg hne]
    exact ⟨ho, hsame b hb, trivial⟩
  · have hne : b ≠ w.heap.size := by omega
    simp only [Gh.new, if_neg hne]
    exact ⟨ho, hsame b hb, trivial⟩
  · have hne : b ≠ w.heap.size := by omega
    obtain ⟨h1, h2⟩ := hfar b (by omega)
    simp only [Gh.new, if_neg hne]
    exact ⟨h1, h2⟩

theorem AOps.app {size bytes : Nat} {i : TypeInfo} {z : Value} {xs ys zs : List AV} {c : Call} (hg : Wants ops s o) (hd : o.dst = some d) (hn : d < n) (_hrd : r ≠ d) (ho : o.op = .call c) (hc : c.callee = .builtin .append) (ha : c.args = #[.tmp r, y]) (hat : c.argTypes = #[t, tx])
    (ht : P.underlying t = some (.slice E)) (hi : P.info? E = some i) (hz : i.zero = some z) (hsz : i.size = size) (hby : i.bytes = bytes) (hzs : z.cells.size = size)
    (hx : s.get r = .list true E xs)
    (hsrc : ∀ (G : Gh) (a : Act) (w : World), RelSt P G n s a w → (∀ x ∈ ys, x.cells.length = size) ∧ (∀ x ∈ ys, ∀ c ∈ x.cells, c.scalar = true) ∧ ∃ news, Src P size tx (a.eval y) ys.length news w ∧ ∀ (j : Nat) c u, (ys.flatMap AV.cells)[j]? = some c → news[j]? = some u → RelV P G w c u)
    (h63 : xs.length + ys.length ≤ maxLen) (hb : (xs.length + ys.length) * bytes ≤ 140737488355328) (hzz : xs ++ ys = zs)
    (k : AOps P n ops rest { s with fr := (d, .list true E zs) :: (r, .list false E xs) :: s.fr } Q) : AOps P n ops (o :: rest) s Q := by
  refine AOps.step hg hd ?_ k
  subst hzz
  intro G a w hr
  obtain ⟨hly, hscy, news, hsr, hnr⟩ := hsrc G a w hr
  have hs : SizeOf P E size := by unfold SizeOf; rw [hi]; simp [hsz]
  have hsr0 := hr.slot r
  rw [hx] at hsr0
  have hfar := hr.mem.far
  have hru := hr.unslot r
  rw [hx] at hru
  have hur : ((s.put r (.list false E xs)).get r).un = (s.put r (.list false E xs)).get r := by rw [get_put]; rfl
  generalize hav : a.tmps.getD r undef = v at hsr0
  have hae : a.eval (.tmp r) = v := hav
  have hrun' : ∀ v' w', (Builtin.append_ #[t, tx] o.type #[v, a.eval y]).run P w = .ok v' w' → (execOp a.eval o).run P w = .ok (.value v') w' := by
    intro v' w' h
    simp [execOp, ho, resolve, hc, ha, hat, invoke, builtin, hae, h]
  have hlz : (xs ++ ys).length = xs.length + ys.length := List.length_append
  rcases hsr0 with ⟨size', us, hs', hl, hsc, hown, hrr, hbb⟩ | ⟨rfl, rfl | ⟨b, off, size', hs', rfl⟩⟩
  · have : size' = size := by unfold SizeOf at hs hs'; rw [hs] at hs'; exact (Option.some.inj hs').symm
    subst this
    have hul := hown.1
    have hlall : ∀ x ∈ xs ++ ys, x.cells.length = size' := fun x hx => (List.mem_append.1 hx).elim (hl x) (hly x)
    have hscall : ∀ x ∈ xs ++ ys, ∀ c ∈ x.cells, c.scalar = true := fun x hx => (List.mem_append.1 hx).elim (hsc x) (hscy x)
    have hrel : ∀ (j : Nat) c u, ((xs ++ ys).flatMap AV.cells)[j]? = some c → (us ++ news)[j]? = some u → RelV P G w c u := by
      rw [flat_app]; exact rel_app (by rw [hul, flat_len hl]) hrr hnr
    obtain ⟨v', w', hrun, hown', hos, htape, hout, hcases⟩ := run_app (P := P) (ty := o.type) ht hi hz hsz hby hzs hown hsr h63 hb
    rcases hcases with ⟨rfl, rfl, hm⟩ | ⟨hsz', g, hg1, hg2, hglt, hsame⟩ | ⟨hsz', hnew, hsame⟩
    · -- nothing is appended
      have hys : ys = [] := List.length_eq_zero_iff.1 hm
      subst hys
      simp only [List.append_nil]
      let G' : Gh := { G with owner := fun b => if v'.ownBlock = some b then some (.slot d 0) else G.owner b }
      have st : Stab G w' G' w' := ⟨fun _ => Nat.le_refl _, fun _ _ _ => rfl, fun _ _ h => h⟩
      have how : ∀ q b, G.owner b = some q → (∀ c, q ≠ .slot r c) → G'.owner b = some q := by
        intro q b h1 h2
        show (if v'.ownBlock = some b then some (Pos.slot d 0) else G.owner b) = some q
        rw [if_neg (fun e => h2 0 (by have := (hbb b e).2.1; rw [h1] at this; exact Option.some.inj this))]
        exact h1
      refine ⟨_, _, G', hrun' _ _ hrun, ?_, ⟨rfl, rfl, rfl, Nat.le_refl _, fun b hb ho => ⟨?_, rfl, rfl⟩, st⟩⟩
      · refine hru.turnX (fun i => i = r) (fun i h => .inr (by rw [h]; exact hur)) hn st (Nat.le_refl _) (fun _ _ => rfl) (fun q b h1 h2 h3 => ⟨how q b h2 (fun c => h3 r c rfl), rfl, rfl⟩) (fun b hb => ⟨(hfar b hb).1, ?_⟩) rfl ?_
        · show (if v'.ownBlock = some b then some (Pos.slot d 0) else G.owner b) = none
          rw [if_neg (fun e => by have := (hbb b e).1; omega)]
          exact (hfar b hb).2
        · refine .inl ⟨size', us, hs, hl, hsc, hown, fun j c u h1 h2 => (hrr j c u h1 h2).stab st, fun b hb => ?_⟩
          obtain ⟨h1, h2, h3⟩ := hbb b hb
          refine ⟨h1, ?_, h3⟩
          show (if v'.ownBlock = some b then some (Pos.slot d 0) else G.owner b) = _
          rw [if_pos hb]
      · show (if v'.ownBlock = some b then some (Pos.slot d 0) else G.owner b) = none
        rw [if_neg (fun e => by have := (hbb b e).2.1; rw [ho] at this; cases this)]
        exact ho
    · -- in place
      obtain ⟨hgl, hgo, hgt⟩ := hbb g hg1
      let G' : Gh := { G with owner := fun b => if b = g then some (.slot d 0) else G.owner b, tip := fun b => if b = g then (xs ++ ys).length * size' else G.tip b }
      have st : Stab G w G' w' := by
        refine ⟨fun b => ?_, fun b oo hoo => ?_, fun _ _ h => h⟩
        · show G.tip b ≤ if b = g then (xs ++ ys).length * size' else G.tip b
          split
          · rename_i e; subst e; rw [hgt]; exact Nat.mul_le_mul_right _ (by omega)
          · exact Nat.le_refl _
        · by_cases e : b = g
          · subst e
            rw [hgt] at hoo
            have c1 : ∀ j u, us[j]? = some u → w.cell? ((⟨b, 0, none⟩ : Addr).add j) = some u := by
              rcases hown.2 with ⟨rfl, _⟩ | ⟨g', cap, cur, rfl, _⟩
              · cases hg1
              · simp only [Value.ownBlock, Option.some.injEq] at hg1; subst hg1; exact hown.cells rfl
            have c2 : ∀ j u, (us ++ news)[j]? = some u → w'.cell? ((⟨b, 0, none⟩ : Addr).add j) = some u := by
              rcases hown'.2 with ⟨rfl, _⟩ | ⟨g', cap, cur, rfl, _⟩
              · cases hg2
              · simp only [Value.ownBlock, Option.some.injEq] at hg2; subst hg2; exact hown'.cells rfl
            have hlt : oo < us.length := by omega
            have e1 := c1 oo us[oo] (List.getElem?_eq_getElem hlt)
            have e2 := c2 oo us[oo] (by rw [List.getElem?_append_left hlt]; exact List.getElem?_eq_getElem hlt)
            rw [add_at, Nat.zero_add] at e1 e2
            rw [e1, e2]
          · exact World.cell?_of_block (w := w) (a := ⟨b, oo, none⟩) (hsame b e)
      refine ⟨_, _, G', hrun' _ _ hrun, ?_, ⟨hos, htape, hout, by omega, fun b hb ho => ?_, st⟩⟩
      · refine hru.turnX (fun i => i = r) (fun i h => .inr (by rw [h]; exact hur)) hn st (by omega) (fun _ _ => rfl) (fun q b h1 h2 h3 => ?_) (fun b hb => ?_) rfl ?_
        · have e : b ≠ g := fun e => by subst e; rw [hgo] at h2; exact h3 r 0 rfl (Option.some.inj h2).symm
          show (if b = g then _ else G.owner b) = some q ∧ _ ∧ (if b = g then _ else G.tip b) = G.tip b
          rw [if_neg e, if_neg e]
          exact ⟨h2, hsame b e, rfl⟩
        · have e : b ≠ g := by omega
          show (if b = g then _ else G.tip b) = 0 ∧ (if b = g then _ else G.owner b) = none
          rw [if_neg e, if_neg e]
          exact hfar b (by omega)
        · refine .inl ⟨size', us ++ news, hs, hlall, hscall, by rw [hlz]; exact hown', fun j c u h1 h2 => (hrel j c u h1 h2).stab st, fun b hb => ?_⟩
          rw [hg2] at hb
          cases hb
          refine ⟨by omega, ?_, ?_⟩
          · show (if g = g then _ else _) = _; simp
          · show (if g = g then _ else _) = _; simp
      · have e : b ≠ g := fun e => by subst e; rw [hgo] at ho; cases ho
        show (if b = g then _ else G.owner b) = none ∧ _ ∧ (if b = g then _ else G.tip b) = G.tip b
        rw [if_neg e, if_neg e]
        exact ⟨ho, hsame b e, rfl⟩
    · -- a new row
      obtain ⟨kp, how, hfar'⟩ := grown_new (G := G) (_v' := v') (.slot d 0) ((xs ++ ys).length * size') hsz' hsame hfar hos htape hout
      refine ⟨_, _, _, hrun' _ _ hrun, ?_, kp⟩
      refine hru.turnX (fun i => i = r) (fun i h => .inr (by rw [h]; exact hur)) hn kp.stab (by omega) (fun _ _ => rfl) (fun q b h1 h2 h3 => how q b h1 h2) hfar' rfl ?_
      refine .inl ⟨size', us ++ news, hs, hlall, hscall, by rw [hlz]; exact hown', fun j c u h1 h2 => (hrel j c u h1 h2).stab kp.stab, fun b hb => ?_⟩
      rw [hnew] at hb
      cases hb
      refine ⟨by omega, ?_, ?_⟩
      · show (if w.heap.size = w.heap.size then _ else _) = _; simp
      · show (if w.heap.size = w.heap.size then _ else _) = _; simp
  · -- nil
    have hown : w.ownsRow 0 E size (.slice none 0 0) 0 [] := World.ownsRow_nil w 0 E size
    obtain ⟨v', w', hrun, hown', hos, htape, hout, hcases⟩ := run_app (P := P) (ty := o.type) ht hi hz hsz hby hzs hown hsr (by simpa using h63) (by simpa using hb)
    rcases hcases with ⟨rfl, rfl, hm⟩ | ⟨hsz', g, hg1, _⟩ | ⟨hsz', hnew, hsame⟩
    · have hys : ys = [] := List.length_eq_zero_iff.1 hm
      subst hys
      refine ⟨_, _, G, hrun' _ _ hrun, ?_, Keep.refl _ _⟩
      refine hru.put hn (.inr ⟨rfl, .inl rfl⟩)
    · cases hg1
    · obtain ⟨kp, how, hfar'⟩ := grown_new (G := G) (_v' := v') (.slot d 0) (ys.length * size) hsz' hsame hfar hos htape hout
      refine ⟨_, _, _, hrun' _ _ hrun, ?_, kp⟩
      refine hru.turnX (fun i => i = r) (fun i h => .inr (by rw [h]; exact hur)) hn kp.stab (by omega) (fun _ _ => rfl) (fun q b h1 h2 h3 => how q b h1 h2) hfar' rfl ?_
      rw [List.nil_append]
      refine .inl ⟨size, news, hs, hly, hscy, by simpa using hown', fun j c u h1 h2 => (hnr j c u h1 h2).stab kp.stab, fun b hb => ?_⟩
      rw [hnew] at hb
      cases hb
      refine ⟨by omega, ?_, ?_⟩
      · show (if w.heap.size = w.heap.size then _ else _) = _; simp
      · show (if w.heap.size = w.heap.size then _ else _) = _; simp
  · -- a piece without room
    rcases run_app0 (P := P) (ty := o.type) ht hi hz hsz hby hzs b off hsr (by simpa using h63) (by simpa using hb) with ⟨hrun, hm⟩ | ⟨v', w', hrun, hown', hos, htape, hout, hsz', hnew, hsame⟩
    · have hys : ys = [] := List.length_eq_zero_iff.1 hm
      subst hys
      refine ⟨_, _, G, hrun' _ _ hrun, ?_, Keep.refl _ _⟩
      refine hru.put hn (.inr ⟨rfl, .inr ⟨b, off, _, hs', rfl⟩⟩)
    · obtain ⟨kp, how, hfar'⟩ := grown_new (G := G) (_v' := v') (.slot d 0) (ys.length * size) hsz' hsame hfar hos htape hout
      refine ⟨_, _, _, hrun' _ _ hrun, ?_, kp⟩
      refine hru.turnX (fun i => i = r) (fun i h => .inr (by rw [h]; exact hur)) hn kp.stab (by omega) (fun _ _ => rfl) (fun q b h1 h2 h3 => how q b h1 h2) hfar' rfl ?_
      rw [List.nil_append]
      refine .inl ⟨size, news, hs, hly, hscy, hown', fun j c u h1 h2 => (hnr j c u h1 h2).stab kp.stab, fun b hb => ?_⟩
      rw [hnew] at hb
      cases hb
      refine ⟨by omega, ?_, ?_⟩
      · show (if w.heap.size = w.heap.size then _ else _) = _; simp
      · show (if w.heap.size = w.heap.size then _ else _) = _; simp
end
end
section
open Go.RowKit

/-- What a caller hands to a callee of its ghost: what is in objects alone. -/
def Gh.out (G : Gh) : Gh := { G with owner := fun b => match G.owner b with | some q => if q.glob then some q else none | none => none }

/-- What a caller has behind a call. -/
def Gh.back (G G' : Gh) (size d : Nat) : Gh :=
  { tip := G'.tip, lb := G.lb, mb := G'.mb
    owner := fun b => match (if b < size then G.owner b else none) with
      | some (.slot i c) => some (.slot i c)
      | some (.lb k) => some (.lb k)
      | some (.lc k j) => some (.lc k j)
      | some (.res c) => some (.res c)
      | _ => match G'.owner b with
        | some (.res c) => some (.slot d c)
        | some (.mb id) => some (.mb id)
        | some (.mc id j) => some (.mc id j)
        | _ => none }

section
variable {P : Program} {G G' : Gh} {w w' : World}

theorem out_stab : Stab G w G.out w := ⟨fun _ => Nat.le_refl _, fun _ _ _ => rfl, fun _ _ h => h⟩

theorem out_glob {q : Pos} {b : Nat} (h : G.owner b = some q) (hq : q.glob = true) : G.out.owner b = some q := by
  show (match G.owner b with | some q => if q.glob then some q else none | none => none) = some q
  rw [h]; simp [hq]
theorem out_none {b : Nat} (h : ∀ q, G.owner b = some q → q.glob = false) : G.out.owner b = none := by
  show (match G.owner b with | some q => if q.glob then some q else none | none => none) = none
  cases e : G.owner b with
  | none => rfl
  | some q => simp [h q e]

theorem out_keep : Keep G w G.out w := ⟨rfl, rfl, rfl, Nat.le_refl _, fun b _ h => ⟨out_none (fun q e => by rw [h] at e; cases e), rfl, rfl⟩, out_stab⟩

theorem RelM.out {M : Nat → Option (List AV)} (h : RelM P G w M) : RelM P G.out w M :=
  h.move out_stab (Nat.le_refl _) (fun q b hq _ h2 => ⟨out_glob h2 hq, rfl, rfl⟩) (fun b hb => ⟨(h.far b hb).1, out_none (fun q e => by rw [(h.far b hb).2] at e; cases e)⟩) rfl

/-- Behind the call: what of the callee's is the caller's now. -/
theorem back_own {size d : Nat} {q : Pos} {b : Nat} (hk : b < size → ∀ q, G.owner b = some q → q.glob = true) (h : G'.owner b = some q) (hq : q.glob = true) : (G.back G' size d).owner b = some q := by
  have : (match (if b < size then G.owner b else none) with
      | some (.slot i c) => some (Pos.slot i c)
      | some (.lb k) => some (.lb k)
      | some (.lc k j) => some (.lc k j)
      | some (.res c) => some (.res c)
      | _ => match G'.owner b with
        | some (.res c) => some (.slot d c)
        | some (.mb id) => some (.mb id)
        | some (.mc id j) => some (.mc id j)
        | _ => none) = some q := by
    have h1 : ∀ q', (if b < size then G.owner b else none) = some q' → q'.glob = true := by
      intro q' e
      split at e
      · exact hk ‹_› q' e
      · cases e
    rw [h]
    cases e : (if b < size then G.owner b else none) with
    | none => cases q <;> first | rfl | cases hq
    | some q' =>
      have := h1 q' e
      cases q' <;> first | (cases this; done) | (cases q <;> first | rfl | cases hq)
  exact this

theorem back_res {size d c : Nat} {b : Nat} (hk : b < size → ∀ q, G.owner b = some q → q.glob = true) (h : G'.owner b = some (.res c)) : (G.back G' size d).owner b = some (.slot d c) := by
  have : (match (if b < size then G.owner b else none) with
      | some (.slot i c) => some (Pos.slot i c)
      | some (.lb k) => some (.lb k)
      | some (.lc k j) => some (.lc k j)
      | some (.res c) => some (.res c)
      | _ => match G'.owner b with
        | some (.res c) => some (.slot d c)
        | some (.mb id) => some (.mb id)
        | some (.mc id j) => some (.mc id j)
        | _ => none) = some (.slot d c) := by
    have h1 : ∀ q', (if b < size then G.owner b else none) = some q' → q'.glob = true := by
      intro q' e
      split at e
      · exact hk ‹_› q' e
      · cases e
    rw [h]
    cases e : (if b < size then G.owner b else none) with
    | none => rfl
    | some q' =>
      have := h1 q' e
      cases q' <;> first | rfl | cases this
  exact this

theorem back_mine {size d : Nat} {q : Pos} {b : Nat} (hb : b < size) (h : G.owner b = some q) (hq : q.glob = false) : (G.back G' size d).owner b = some q := by
  have : (match (if b < size then G.owner b else none) with
      | some (.slot i c) => some (Pos.slot i c)
      | some (.lb k) => some (.lb k)
      | some (.lc k j) => some (.lc k j)
      | some (.res c) => some (.res c)
      | _ => match G'.owner b with
        | some (.res c) => some (.slot d c)
        | some (.mb id) => some (.mb id)
        | some (.mc id j) => some (.mc id j)
        | _ => none) = some q := by
    rw [if_pos hb, h]
    cases q <;> first | rfl | cases hq
  exact this

theorem back_none {size d : Nat} {b : Nat} (h1 : b < size → G.owner b = none) (h2 : G'.owner b = none) : (G.back G' size d).owner b = none := by
  have : (match (if b < size then G.owner b else none) with
      | some (.slot i c) => some (Pos.slot i c)
      | some (.lb k) => some (.lb k)
      | some (.lc k j) => some (.lc k j)
      | some (.res c) => some (.res c)
      | _ => match G'.owner b with
        | some (.res c) => some (.slot d c)
        | some (.mb id) => some (.mb id)
        | some (.mc id j) => some (.mc id j)
        | _ => none) = none := by
    have e : (if b < size then G.owner b else none) = none := by
      split
      · exact h1 ‹_›
      · rfl
    rw [e, h2]
  exact this

/-- What of the caller's is the caller's still. -/
theorem back_kept (hk : Keep G.out w G' w') {d : Nat} {q : Pos} {b : Nat} (hb : b < w.heap.size) (h : G.owner b = some q) (hq : q.glob = false) :
    (G.back G' w.heap.size d).owner b = some q ∧ w'.heap[b]? = w.heap[b]? ∧ (G.back G' w.heap.size d).tip b = G.tip b := by
  obtain ⟨h1, h2, h3⟩ := hk.free b hb (out_none (fun q' e => by rw [h] at e; cases e; exact hq))
  exact ⟨back_mine hb h hq, h2, h3⟩

/-- A block that the callee owns is none of the caller's own. -/
theorem back_foreign (hk : Keep G.out w G' w') {q : Pos} {b : Nat} (h : G'.owner b = some q) : b < w.heap.size → ∀ q, G.owner b = some q → q.glob = true := by
  intro hb q' e
  cases hg : q'.glob with
  | true => rfl
  | false =>
    have := (hk.free b hb (out_none (fun q2 e2 => by rw [e] at e2; cases e2; exact hg))).1
    rw [h] at this; cases this
end

section
variable {P : Program} {n : Nat} {s : St} {ops : Array Oper} {o : Oper} {rest : List Oper} {Q : St → Prop} {d f : Nat}

/-- An argument: as it reads, without what it owns; or nil as a list of whatever kind. -/
def ArgOf (s : St) (x : Operand) (v : AV) : Prop := ((s.eval x).un = v ∧ v.flat = true) ∨ (x = .const (.slice none 0 0) ∧ ∃ E, v = .list false E [] ∨ v = .lit (.slice none 0 0))

theorem ArgOf.rel {G : Gh} {a : Act} {w : World} {x : Operand} {v : AV} (h : ArgOf s x v) (hr : RelSt P G n s a w) (hc : ∀ v cs, x = .const v → v = .agg cs → ∀ c ∈ cs, c.oneCell' = true) : RelV P G w v (a.eval x) := by
  rcases h with ⟨rfl, hf⟩ | ⟨rfl, E, rfl | rfl⟩
  · obtain ⟨p, hp⟩ := hr.ev x hc
    exact hp.toV hf
  · exact .nil _ _
  · exact .lit _

/-- A call, by what it answers. -/
theorem AOps.call {c : Call} {args : List AV} {R : AV → (Nat → Option (List AV)) → Prop} (hg : Wants ops s o) (hd : o.dst = some d) (hn : d < n) (ho : o.op = .call c) (hc : c.callee = .value (.func f))
    (henter : ∀ (vs : Array Value) (w : World), (callFunc f vs).run P w = .ok (.enter f vs) w) (hcon : ∀ x ∈ c.args, ∀ v cs, x = .const v → v = .agg cs → ∀ c ∈ cs, c.oneCell' = true)
    (hlen : c.args.size = args.length) (hargs : ∀ (j : Nat) x v, c.args[j]? = some x → args[j]? = some v → ArgOf s x v) (h : ACall P f args s.mem R)
    (k : ∀ r M, R r M → AOps P n ops rest { (s.put d r) with mem := M } Q) : AOps P n ops (o :: rest) s Q := by
  intro G a w K hr hfx hK
  simp only [wpList]
  rw [if_pos (wants_eval hr (fun t => by omega) hg)]
  left
  unfold Oper.wp
  have hrun : (execOp a.eval o).run P w = .ok (.enter f (c.args.map a.eval)) w := by
    simp [execOp, ho, resolve, hc, Act.eval, Deferred.ofValue, invoke, henter]
  rw [hrun, Oper.upon_enter]
  have hcall := h G.out w (c.args.map a.eval).toList hr.mem.out (hfx.keep (out_keep (G := G) (w := w))) (by simp [hlen]) (fun j x v hx hv => by
    rw [Array.toList_map, List.getElem?_map] at hv
    cases hy : c.args.toList[j]? with
    | none => simp [hy] at hv
    | some y =>
      simp only [hy, Option.map_some, Option.some.injEq] at hv
      subst hv
      have hy' : c.args[j]? = some y := by simpa using hy
      have := (hargs j y x hy' hx).rel hr (hcon y (by have := List.mem_of_getElem? hy; simpa using this))
      exact this.stab out_stab)
  simp only [Array.toArray_toList] at hcall
  refine hcall.mono ?_
  rintro e w' ⟨r, M', G', u, rfl, hR, hnl, hu, hm, hk⟩
  have hf : ∀ b, w'.heap.size ≤ b → (G.back G' w.heap.size d).tip b = 0 ∧ (G.back G' w.heap.size d).owner b = none := fun b hb => ⟨(hm.far b hb).1, back_none (fun h => by have := hk.size; omega) (hm.far b hb).2⟩
  have st0 : Stab G' w' (G.back G' w.heap.size d) w' := ⟨fun _ => Nat.le_refl _, fun _ _ _ => rfl, fun _ _ h => h⟩
  have st : Stab G w (G.back G' w.heap.size d) w' := (out_stab (G := G) (w := w)).trans (hk.stab.trans st0)
  have hu' : RelS P (G.back G' w.heap.size d) w' (.slot d) r u := by
    exact hu.move st0 (Nat.le_refl _) (fun k off e => by subst e; cases hnl) (fun c b hb h2 => ⟨back_res (back_foreign hk h2) h2, rfl, rfl⟩)
  have hkb : Keep G w (G.back G' w.heap.size d) w' := by
    refine ⟨hk.os, hk.tape, hk.output, hk.size, fun b hb ho => ?_, st⟩
    obtain ⟨h1, h2, h3⟩ := hk.free b hb (out_none (fun q e => by rw [ho] at e; cases e))
    exact ⟨back_none (fun _ => ho) h1, h2, h3⟩
  refine k r M' hR (G.back G' w.heap.size d) (a.put o.dst u) w' K ?_ (hfx.keep hkb) (fun s' G2 a2 w2 hq hr2 hk2 => hK s' G2 a2 w2 hq hr2 (Keep.trans hkb hk2))
  · rw [hd]
    refine ⟨by simp [Act.put, hr.size], by simpa [Act.put] using hr.defers, fun i => ?_, fun k cells hkk => ?_, ?_⟩
    · rw [getD_put _ _ _ _ (by rw [hr.size]; exact hn)]
      show RelS P _ w' (.slot i) (look .any ((d, r) :: s.fr) i) _
      simp only [look]
      by_cases e : i = d
      · subst e; simp only [if_true]; exact hu'
      · rw [if_neg (Ne.symm e), if_neg e]
        exact (hr.slot i).move st hk.size (fun _ _ _ => rfl) (fun c b h1 h2 => back_kept hk h1 h2 rfl)
    · have h0 := hr.loc k cells hkk
      have h1 := back_kept (d := d) hk h0.lt h0.own rfl
      exact h0.move st hk.size h1.2.1 (h1.1.trans h0.own.symm) h1.2.2 (fun c b h1 h2 => back_kept hk h1 h2 rfl)
    · exact hm.move st0 (Nat.le_refl _) (fun q b hq hb h2 => ⟨back_own (back_foreign hk h2) h2 hq, rfl, rfl⟩) hf rfl
end
end
section
open Go.RowKit

def entryFr : Nat → List AV → List (Nat × AV)
  | _, [] => []
  | i, x :: r => (i, x) :: entryFr (i + 1) r

theorem look_entry (xs : List AV) : ∀ (i j : Nat), look .any (entryFr i xs) (i + j) = (xs[j]?).getD .any := by
  induction xs with
  | nil => intro i j; rfl
  | cons x r ih =>
    intro i j
    cases j with
    | zero => simp [entryFr, look]
    | succ j =>
      simp only [entryFr, look]
      rw [if_neg (by omega), show i + (j + 1) = (i + 1) + j by omega, ih]
      simp

/-- The ghost behind the body: what the slots owned, the answer owns. -/
def Gh.leave (G : Gh) (lab : Nat → Nat → Option Nat) : Gh :=
  { G with owner := fun b => match G.owner b with
      | some (.slot i c) => (lab i c).map .res
      | some (.mb id) => some (.mb id)
      | some (.mc id j) => some (.mc id j)
      | _ => none }

section
variable {P : Program} {G : Gh} {w : World} {lab : Nat → Nat → Option Nat}

theorem leave_stab : Stab G w (G.leave lab) w := ⟨fun _ => Nat.le_refl _, fun _ _ _ => rfl, fun _ _ h => h⟩
theorem leave_slot {i c m : Nat} {b : Nat} (h : G.owner b = some (.slot i c)) (hl : lab i c = some m) : (G.leave lab).owner b = some (.res m) := by
  have : (match G.owner b with
      | some (.slot i c) => (lab i c).map Pos.res
      | some (.mb id) => some (.mb id)
      | some (.mc id j) => some (.mc id j)
      | _ => none) = some (.res m) := by rw [h]; simp [hl]
  exact this
theorem leave_glob {q : Pos} {b : Nat} (h : G.owner b = some q) (hq : q.glob = true) : (G.leave lab).owner b = some q := by
  have : (match G.owner b with
      | some (.slot i c) => (lab i c).map Pos.res
      | some (.mb id) => some (.mb id)
      | some (.mc id j) => some (.mc id j)
      | _ => none) = some q := by rw [h]; cases q <;> first | rfl | cases hq
  exact this
theorem leave_none {b : Nat} (h : G.owner b = none) : (G.leave lab).owner b = none := by
  have : (match G.owner b with
      | some (.slot i c) => (lab i c).map Pos.res
      | some (.mb id) => some (.mb id)
      | some (.mc id j) => some (.mc id j)
      | _ => none) = none := by rw [h]
  exact this
theorem leave_keep : Keep G w (G.leave lab) w := ⟨rfl, rfl, rfl, Nat.le_refl _, fun _ _ h => ⟨leave_none h, rfl, rfl⟩, leave_stab⟩
theorem RelM.leave {M : Nat → Option (List AV)} (h : RelM P G w M) : RelM P (G.leave lab) w M :=
  h.move leave_stab (Nat.le_refl _) (fun _q _b hq _ h2 => ⟨leave_glob h2 hq, rfl, rfl⟩) (fun b hb => ⟨(h.far b hb).1, leave_none (h.far b hb).2⟩) rfl

theorem RelS.toO {x : AV} {v : Value} {p : Nat → Pos} (h : RelS P G w p x v) (hx : x.flat = true ∨ ∃ E xs, x = .list true E xs) : RelO P G w (p 0) x v := by
  rcases hx with hx | ⟨E, xs, rfl⟩
  · cases x with
    | lptr | eptr | tuple | pin => cases hx
    | _ => exact h
  · exact h
end

/-- What the answer is, at the end of a body. -/
inductive ResOf (P : Program) (s : St) : Array ResultVar → AV → Prop
  | none : ResOf P s #[] (.tuple [])
  | one (t : Nat) (x : AV) (h : s.get t = x) (hl : x.isL = false) : ResOf P s #[.tmp t] x
  | two (t u : Nat) (x y : AV) (hx : s.get t = x) (hy : s.get u = y) (fx : x.flat = true ∨ ∃ E xs, x = .list true E xs) (fy : y.flat = true ∨ ∃ E xs, y = .list true E xs) (ht : t ≠ u) : ResOf P s #[.tmp t, .tmp u] (.tuple [x, y])
  | three (t u r : Nat) (x y z : AV) (hx : s.get t = x) (hy : s.get u = y) (hz : s.get r = z) (fx : x.flat = true ∨ ∃ E xs, x = .list true E xs) (fy : y.flat = true ∨ ∃ E xs, y = .list true E xs) (fz : z.flat = true ∨ ∃ E xs, z = .list true E xs)
      (ht : t ≠ u ∧ t ≠ r ∧ u ≠ r) : ResOf P s #[.tmp t, .tmp u, .tmp r] (.tuple [x, y, z])
  | cell (t k off size : Nat) (T : TypeId) (D : TypeDesc) (cells : List AV) (x : AV) (hx : s.get t = .lptr k off) (hc : lookL s.loc k = some cells) (hu : P.underlying T = some D) (hs : SizeOf P T size) (hv : loaded (TypeDesc.agg D) size cells off = some x) (hf : x.flat = true) :
      ResOf P s #[.cell t T] x
  | cellTmp (t k off size : Nat) (T : TypeId) (D : TypeDesc) (cells : List AV) (x : AV) (hx : s.get t = .lptr k off) (hc : lookL s.loc k = some cells) (hu : P.underlying T = some D) (hs : SizeOf P T size) (hv : loaded (TypeDesc.agg D) size cells off = some x) (hf : x.flat = true)
      (u : Nat) (y : AV) (hy : s.get u = y) (fy : y.flat = true ∨ ∃ E xs, y = .list true E xs) : ResOf P s #[.cell t T, .tmp u] (.tuple [x, y])
  | tmpCellTmp (r : Nat) (z : AV) (hz : s.get r = z) (fz : z.flat = true ∨ ∃ E xs, z = .list true E xs) (t k off size : Nat) (T : TypeId) (D : TypeDesc) (cells : List AV) (x : AV) (hx : s.get t = .lptr k off) (hc : lookL s.loc k = some cells) (hu : P.underlying T = some D) (hs : SizeOf P T size) (hv : loaded (TypeDesc.agg D) size cells off = some x) (hf : x.flat = true)
      (u : Nat) (y : AV) (hy : s.get u = y) (fy : y.flat = true ∨ ∃ E xs, y = .list true E xs) (hru : r ≠ u) : ResOf P s #[.tmp r, .cell t T, .tmp u] (.tuple [z, x, y])
  | cellTmpTmp (t k off size : Nat) (T : TypeId) (D : TypeDesc) (cells : List AV) (x : AV) (hx : s.get t = .lptr k off) (hc : lookL s.loc k = some cells) (hu : P.underlying T = some D) (hs : SizeOf P T size) (hv : loaded (TypeDesc.agg D) size cells off = some x) (hf : x.flat = true)
      (u : Nat) (y : AV) (hy : s.get u = y) (fy : y.flat = true ∨ ∃ E xs, y = .list true E xs) (r : Nat) (z : AV) (hz : s.get r = z) (fz : z.flat = true ∨ ∃ E xs, z = .list true E xs) (hru : u ≠ r) : ResOf P s #[.cell t T, .tmp u, .tmp r] (.tuple [x, y, z])
  | tmpCell (r : Nat) (z : AV) (hz : s.get r = z) (fz : z.flat = true) (t k off size : Nat) (T : TypeId) (D : TypeDesc) (cells : List AV) (x : AV) (hx : s.get t = .lptr k off) (hc : lookL s.loc k = some cells) (hu : P.underlying T = some D) (hs : SizeOf P T size) (hv : loaded (TypeDesc.agg D) size cells off = some x) (hf : x.flat = true) : ResOf P s #[.tmp r, .cell t T] (.tuple [z, x])
  | tmpTmpCellTmp (r : Nat) (z : AV) (hz : s.get r = z) (fz : z.flat = true) (q : Nat) (y' : AV) (hq : s.get q = y') (fq : y'.flat = true) (t k off size : Nat) (T : TypeId) (D : TypeDesc) (cells : List AV) (x : AV) (hx : s.get t = .lptr k off) (hc : lookL s.loc k = some cells) (hu : P.underlying T = some D) (hs : SizeOf P T size) (hv : loaded (TypeDesc.agg D) size cells off = some x) (hf : x.flat = true)
      (u : Nat) (y : AV) (hy : s.get u = y) (fy : y.flat = true) : ResOf P s #[.tmp r, .tmp q, .cell t T, .tmp u] (.tuple [z, y', x, y])

theorem flat_unA {c : AV} (h : c.flat = true) : c.un = c := by
  cases c with
  | list o E xs => cases o <;> first | rfl | cases h
  | _ => first | rfl | cases h
theorem flat_isL {x : AV} (h : x.flat = true) : x.isL = false := by cases x <;> first | rfl | cases h

section
variable {P : Program} {f : FuncId} {fn : Func} {c : Code} {args : List AV} {M : Nat → Option (List AV)} {R : AV → (Nat → Option (List AV)) → Prop}

theorem RelSt.cellRes {G : Gh} {n : Nat} {s : St} {a : Act} {w : World} (hr : RelSt P G n s a w) {t k off size : Nat} {T : TypeId} {D : TypeDesc} {cells : List AV} {x : AV} (hx : s.get t = .lptr k off) (hc : lookL s.loc k = some cells) (hu : P.underlying T = some D) (hs : SizeOf P T size) (hv : loaded (TypeDesc.agg D) size cells off = some x) :
    ∃ u ad, a.tmps[t]?.getD undef = .pointer (some ad) ∧ (loadVar T ad).run P w = .ok u w ∧ RelV P G w x u := by
  have hp := hr.slot t
  rw [hx] at hp
  have hav : a.tmps[t]?.getD undef = .pointer (some ⟨G.lb k, off, none⟩) := by rw [← Array.getD_eq_getD_getElem?]; exact hp
  obtain ⟨arr, T', hh, hsz, _, _, hsc, hrr⟩ := hr.loc k cells hc
  obtain ⟨u, hu1, hu2⟩ := run_loadVar_cells (w := w) (w' := w) (b := G.lb k) (o := 0) (us := fun j => arr.getD j undef) (G := G) (Below.refl _ _) hu hs hv (fun j c hj => by
    have hjl := (List.getElem?_eq_some_iff.1 hj).1
    have e : arr[j]? = some (arr.getD j undef) := by rw [Array.getD_eq_getD_getElem?, Array.getElem?_eq_getElem (by omega)]; rfl
    refine ⟨by simp only [World.cell?, hh, Option.isSome_none, Bool.false_eq_true, if_false, Nat.zero_add]; exact e, (hrr j c _ hj e).un (hsc c (List.mem_of_getElem? hj))⟩)
  have hrun := hu2 w (Below.refl _ _)
  rw [Nat.zero_add] at hrun
  exact ⟨u, _, hav, hrun, hu1⟩
theorem RelSt.results {G : Gh} {n : Nat} {s : St} {a : Act} {w : World} (hr : RelSt P G n s a w) {r : AV} (h : ResOf P s fn.results r) :
    ∃ u lab, (results fn a.tmps).run P w = .ok u w ∧ RelS P (G.leave lab) w .res r u ∧ r.isL = false := by
  generalize hrs : fn.results = rs at h
  cases h with
  | none => exact ⟨_, fun _ _ => none, by simp [Go.results, hrs], ⟨[], rfl, rfl, fun j c u h => by simp at h⟩, rfl⟩
  | one t _ hx hl =>
    subst hx
    refine ⟨a.tmps.getD t undef, fun i c => if i = t then some c else none, by simp [Go.results, hrs], ?_, hl⟩
    exact (hr.slot t).move leave_stab (Nat.le_refl _) (fun _ _ _ => rfl) (fun c b _ h2 => ⟨leave_slot h2 (by simp), rfl, rfl⟩)
  | two t u x y hx hy fx fy ht =>
    subst hx
    subst hy
    refine ⟨.tuple #[a.tmps.getD t undef, a.tmps.getD u undef], fun i c => if i = t then some 0 else if i = u then some 1 else none, by simp [Go.results, hrs], ⟨[_, _], rfl, rfl, fun j c v hc hv => ?_⟩, rfl⟩
    match j with
    | 0 =>
      simp only [List.getElem?_cons_zero, Option.some.injEq] at hc hv; subst hc; subst hv
      exact ((hr.slot t).toO fx).move leave_stab (Nat.le_refl _) (fun b _ h2 => ⟨leave_slot h2 (by simp), rfl, rfl⟩)
    | 1 =>
      simp only [List.getElem?_cons_zero, List.getElem?_cons_succ, Option.some.injEq] at hc hv; subst hc; subst hv
      exact ((hr.slot u).toO fy).move leave_stab (Nat.le_refl _) (fun b _ h2 => ⟨leave_slot h2 (by simp [Ne.symm ht]), rfl, rfl⟩)
    | j + 2 => simp only [List.getElem?_cons_succ, List.getElem?_nil] at hc; cases hc
  | three t u r x y z hx hy hz fx fy fz ht =>
    subst hx
    subst hy
    subst hz
    obtain ⟨h1, h2, h3⟩ := ht
    refine ⟨.tuple #[a.tmps.getD t undef, a.tmps.getD u undef, a.tmps.getD r undef], fun i c => if i = t then some 0 else if i = u then some 1 else if i = r then some 2 else none, by simp [Go.results, hrs], ⟨[_, _, _], rfl, rfl, fun j c v hc hv => ?_⟩, rfl⟩
    match j with
    | 0 =>
      simp only [List.getElem?_cons_zero, Option.some.injEq] at hc hv; subst hc; subst hv
      exact ((hr.slot t).toO fx).move leave_stab (Nat.le_refl _) (fun b _ h2 => ⟨leave_slot h2 (by simp), rfl, rfl⟩)
    | 1 =>
      simp only [List.getElem?_cons_zero, List.getElem?_cons_succ, Option.some.injEq] at hc hv; subst hc; subst hv
      exact ((hr.slot u).toO fy).move leave_stab (Nat.le_refl _) (fun b _ h2 => ⟨leave_slot h2 (by simp [Ne.symm h1]), rfl, rfl⟩)
    | 2 =>
      simp only [List.getElem?_cons_zero, List.getElem?_cons_succ, Option.some.injEq] at hc hv; subst hc; subst hv
      exact ((hr.slot r).toO fz).move leave_stab (Nat.le_refl _) (fun b _ h4 => ⟨leave_slot h4 (by simp [Ne.symm h2, Ne.symm h3]), rfl, rfl⟩)
    | j + 3 => simp only [List.getElem?_cons_succ, List.getElem?_nil] at hc; cases hc
  | cell t k off size T D cells _ hx hc hu hs hv hf =>
    obtain ⟨u, ad, h1, h2, h3⟩ := hr.cellRes hx hc hu hs hv
    exact ⟨u, fun _ _ => none, by simp [Go.results, hrs, h1, asAddr, h2], (h3.stab leave_stab).toS hf, flat_isL hf⟩
  | cellTmp t k off size T D cells x hx hc hu hs hv hf u y hy fy =>
    obtain ⟨v, ad, h1, h2, h3⟩ := hr.cellRes hx hc hu hs hv
    subst hy
    refine ⟨.tuple #[v, a.tmps.getD u undef], fun i c => if i = u then some 1 else none, by simp [Go.results, hrs, h1, asAddr, h2], ⟨[_, _], rfl, rfl, fun j c v' hc hv => ?_⟩, rfl⟩
    match j with
    | 0 =>
      simp only [List.getElem?_cons_zero, Option.some.injEq] at hc hv; subst hc; subst hv
      exact RelS.toO (p := fun _ => .res _) ((h3.stab leave_stab).toS hf) (.inl hf)
    | 1 =>
      simp only [List.getElem?_cons_zero, List.getElem?_cons_succ, Option.some.injEq] at hc hv; subst hc; subst hv
      exact ((hr.slot u).toO fy).move leave_stab (Nat.le_refl _) (fun b _ h2 => ⟨leave_slot h2 (by simp), rfl, rfl⟩)
    | j + 2 => simp only [List.getElem?_cons_succ, List.getElem?_nil] at hc; cases hc
  | tmpCellTmp r z hz fz t k off size T D cells x hx hc hu hs hv hf u y hy fy hru =>
    obtain ⟨v, ad, h1, h2, h3⟩ := hr.cellRes hx hc hu hs hv
    subst hy
    subst hz
    refine ⟨.tuple #[a.tmps.getD r undef, v, a.tmps.getD u undef], fun i c => if i = r then some 0 else if i = u then some 2 else none, by simp [Go.results, hrs, h1, asAddr, h2], ⟨[_, _, _], rfl, rfl, fun j c v' hc hv => ?_⟩, rfl⟩
    match j with
    | 0 =>
      simp only [List.getElem?_cons_zero, Option.some.injEq] at hc hv; subst hc; subst hv
      exact ((hr.slot r).toO fz).move leave_stab (Nat.le_refl _) (fun b _ h2 => ⟨leave_slot h2 (by simp), rfl, rfl⟩)
    | 1 =>
      simp only [List.getElem?_cons_zero, List.getElem?_cons_succ, Option.some.injEq] at hc hv; subst hc; subst hv
      exact RelS.toO (p := fun _ => .res _) ((h3.stab leave_stab).toS hf) (.inl hf)
    | 2 =>
      simp only [List.getElem?_cons_zero, List.getElem?_cons_succ, Option.some.injEq] at hc hv; subst hc; subst hv
      exact ((hr.slot u).toO fy).move leave_stab (Nat.le_refl _) (fun b _ h2 => ⟨leave_slot h2 (by simp [Ne.symm hru]), rfl, rfl⟩)
    | j + 3 => simp only [List.getElem?_cons_succ, List.getElem?_nil] at hc; cases hc
  | cellTmpTmp t k off size T D cells x hx hc hu hs hv hf u y hy fy r z hz fz hru =>
    obtain ⟨v, ad, h1, h2, h3⟩ := hr.cellRes hx hc hu hs hv
    subst hy
    subst hz
    refine ⟨.tuple #[v, a.tmps.getD u undef, a.tmps.getD r undef], fun i c => if i = u then some 1 else if i = r then some 2 else none, by simp [Go.results, hrs, h1, asAddr, h2], ⟨[_, _, _], rfl, rfl, fun j c v' hc hv => ?_⟩, rfl⟩
    match j with
    | 0 =>
      simp only [List.getElem?_cons_zero, Option.some.injEq] at hc hv; subst hc; subst hv
      exact RelS.toO (p := fun _ => .res _) ((h3.stab leave_stab).toS hf) (.inl hf)
    | 1 =>
      simp only [List.getElem?_cons_zero, List.getElem?_cons_succ, Option.some.injEq] at hc hv; subst hc; subst hv
      exact ((hr.slot u).toO fy).move leave_stab (Nat.le_refl _) (fun b _ h2 => ⟨leave_slot h2 (by simp), rfl, rfl⟩)
    | 2 =>
      simp only [List.getElem?_cons_zero, List.getElem?_cons_succ, Option.some.injEq] at hc hv; subst hc; subst hv
      exact ((hr.slot r).toO fz).move leave_stab (Nat.le_refl _) (fun b _ h2 => ⟨leave_slot h2 (by simp [Ne.symm hru]), rfl, rfl⟩)
    | j + 3 => simp only [List.getElem?_cons_succ, List.getElem?_nil] at hc; cases hc
  | tmpCell r z hz fz t k off size T D cells x hx hc hu hs hv hf =>
    obtain ⟨v, ad, h1, h2, h3⟩ := hr.cellRes hx hc hu hs hv
    subst hz
    refine ⟨.tuple #[a.tmps.getD r undef, v], fun i c => if i = r then some 0 else none, by simp [Go.results, hrs, h1, asAddr, h2], ⟨[_, _], rfl, rfl, fun j c v' hc hv => ?_⟩, rfl⟩
    match j with
    | 0 =>
      simp only [List.getElem?_cons_zero, Option.some.injEq] at hc hv; subst hc; subst hv
      exact ((hr.slot r).toO (.inl fz)).move leave_stab (Nat.le_refl _) (fun b _ h2 => ⟨leave_slot h2 (by simp), rfl, rfl⟩)
    | 1 =>
      simp only [List.getElem?_cons_zero, List.getElem?_cons_succ, Option.some.injEq] at hc hv; subst hc; subst hv
      exact RelS.toO (p := fun _ => .res _) ((h3.stab leave_stab).toS hf) (.inl hf)
    | j + 2 => simp only [List.getElem?_cons_succ, List.getElem?_nil] at hc; cases hc
  | tmpTmpCellTmp r z hz fz q y' hq fq t k off size T D cells x hx hc hu hs hv hf u y hy fy =>
    obtain ⟨v, ad, h1, h2, h3⟩ := hr.cellRes hx hc hu hs hv
    subst hz
    subst hq
    subst hy
    refine ⟨.tuple #[a.tmps.getD r undef, a.tmps.getD q undef, v, a.tmps.getD u undef], fun i c => none, by simp [Go.results, hrs, h1, asAddr, h2], ⟨[_, _, _, _], rfl, rfl, fun j c v' hc hv => ?_⟩, rfl⟩
    have key : ∀ {t : Nat}, (s.get t).flat = true → ∀ m, RelO P (G.leave fun i c => none) w (.res m) (s.get t) (a.tmps.getD t undef) := by
      intro t hf m
      have h1 : RelV P G w (s.get t).un (a.tmps.getD t undef) := (hr.slot t).toV (by rw [flat_unA hf]; exact hf)
      rw [flat_unA hf] at h1
      exact RelS.toO (p := fun _ => .res _) ((h1.stab leave_stab).toS hf) (.inl hf)
    match j with
    | 0 =>
      simp only [List.getElem?_cons_zero, Option.some.injEq] at hc hv; subst hc; subst hv
      exact key fz _
    | 1 =>
      simp only [List.getElem?_cons_zero, List.getElem?_cons_succ, Option.some.injEq] at hc hv; subst hc; subst hv
      exact key fq _
    | 2 =>
      simp only [List.getElem?_cons_zero, List.getElem?_cons_succ, Option.some.injEq] at hc hv; subst hc; subst hv
      exact RelS.toO (p := fun _ => .res _) ((h3.stab leave_stab).toS hf) (.inl hf)
    | 3 =>
      simp only [List.getElem?_cons_zero, List.getElem?_cons_succ, Option.some.injEq] at hc hv; subst hc; subst hv
      exact key fy _
    | j + 4 => simp only [List.getElem?_cons_succ, List.getElem?_nil] at hc; cases hc

/-- A function, by its body. -/
theorem ACall.of (hf : P.funcs[f]? = some fn) (hb : fn.body = some c) {n : Nat} (hn : fn.ntmps = n) (hp' : args.length.ble n = true) (hfl' : args.all AV.flat = true)
    (h : AWp P n c ⟨entryFr 0 args, [], M⟩ fun e s' => (e = .ret ∨ e = .normal) ∧ ∃ r, ResOf P s' fn.results r ∧ R r s'.mem) : ACall P f args M R := by
  have hp : args.length ≤ n := Nat.le_of_ble_eq_true hp'
  have hfl : ∀ x ∈ args, x.flat = true := List.all_eq_true.1 hfl'
  intro G w vs hm hfx hlen hrel
  subst hn
  refine calls_of_wp hf hb ?_
  have hsz : vs.toArray.size = args.length := by simpa using hlen
  refine h G _ w _ ⟨?_, rfl, fun i => ?_, fun k cells hk => by simp [lookL] at hk, hm⟩ hfx ?_
  · simp [hsz]; omega
  · show RelS P G w (.slot i) (look .any (entryFr 0 args) i) _
    have hlk := look_entry args 0 i
    rw [Nat.zero_add] at hlk
    rw [hlk]
    rcases Nat.lt_or_ge i args.length with hi | hi
    · have e1 : args[i]? = some args[i] := List.getElem?_eq_getElem hi
      have e2 : vs[i]? = some (vs[i]'(by omega)) := List.getElem?_eq_getElem (by omega)
      have e3 : (vs.toArray ++ Array.replicate (fn.ntmps - vs.toArray.size) undef).getD i undef = vs[i]'(by omega) := by
        rw [Array.getD_eq_getD_getElem?, Array.getElem?_append_left (by simp; omega)]
        simp [e2]
      rw [e1, e3]
      exact (hrel i _ _ e1 e2).toS (hfl _ (List.mem_of_getElem? e1))
    · rw [List.getElem?_eq_none hi]
      exact RelS.weak _
  · rintro e s' G' a' w' ⟨he, r, hres, hR⟩ hr' hk
    obtain ⟨u, lab, hrun, hu, hl⟩ := hr'.results hres
    have key : Ending.returned u = Ending.returned u ∧ True := ⟨rfl, trivial⟩
    rcases he with rfl | rfl
    · exact ⟨hr'.defers, u, hrun, r, s'.mem, G'.leave lab, u, rfl, hR, hl, hu, hr'.mem.leave, hk.trans leave_keep⟩
    · exact ⟨hr'.defers, u, hrun, r, s'.mem, G'.leave lab, u, rfl, hR, hl, hu, hr'.mem.leave, hk.trans leave_keep⟩

theorem ACall.mono {R' : AV → (Nat → Option (List AV)) → Prop} (h : ACall P f args M R) (hR : ∀ r M, R r M → R' r M) : ACall P f args M R' := by
  intro G w vs hm hfx hlen hrel
  refine (h G w vs hm hfx hlen hrel).mono ?_
  rintro e w' ⟨r, M', G', u, h1, h2, h3⟩
  exact ⟨r, M', G', u, h1, hR _ _ h2, h3⟩
end
end
section
open Go.RowKit

def fillA (place : Nat → Option (Nat × Nat)) : List AV → List (Nat × AV) → Option (List AV)
  | cells, [] => some cells
  | cells, (i, x) :: r =>
    match place i with
    | none => none
    | some (off, size) => if x.cells.length = size ∧ off + size ≤ cells.length then fillA place (cells.take off ++ x.cells ++ cells.drop (off + size)) r else none

/-- Cells that lie side by side read as they should. -/
def RelL (P : Program) (G : Gh) (w : World) (cs : List AV) (vs : List Value) : Prop :=
  vs.length = cs.length ∧ ∀ (j : Nat) c u, cs[j]? = some c → vs[j]? = some u → RelV P G w c u

/-- A part: one cell, or cells. -/
def AV.part : AV → Bool
  | .agg cs => cs.all AV.scalar
  | a => a.scalar

section
variable {P : Program} {G : Gh} {w : World}

theorem RelL.app {a b : List AV} {u v : List Value} (h : RelL P G w a u) (k : RelL P G w b v) : RelL P G w (a ++ b) (u ++ v) :=
  ⟨by simp [h.1, k.1], rel_app h.1 h.2 k.2⟩
theorem RelL.take {a : List AV} {u : List Value} (h : RelL P G w a u) (n : Nat) : RelL P G w (a.take n) (u.take n) := by
  refine ⟨by simp [h.1], fun j c x h1 h2 => ?_⟩
  rw [List.getElem?_take] at h1 h2
  split at h1
  · rw [if_pos ‹_›] at h2; exact h.2 j c x h1 h2
  · cases h1
theorem RelL.drop {a : List AV} {u : List Value} (h : RelL P G w a u) (n : Nat) : RelL P G w (a.drop n) (u.drop n) := by
  refine ⟨by simp [h.1], fun j c x h1 h2 => ?_⟩
  rw [List.getElem?_drop] at h1 h2
  exact h.2 _ c x h1 h2

theorem RelV.cells {x : AV} {v : Value} (h : RelV P G w x v) (hp : x.part = true) : RelL P G w x.cells v.cells.toList ∧ ∀ u ∈ v.cells.toList, u.oneCell' = true := by
  have key : ∀ (x : AV) v, RelV P G w x v → x.scalar = true → v.cells = #[v] := by
    intro x v h hs
    have := h.oneCell hs
    cases v <;> first | rfl | cases this
  cases h with
  | agg cs vs hl hr =>
    refine ⟨⟨by simpa [Value.cells, AV.cells] using hl, by simpa [Value.cells, AV.cells] using hr⟩, fun u hu => ?_⟩
    simp only [Value.cells] at hu
    obtain ⟨j, hj, rfl⟩ := List.mem_iff_getElem.1 hu
    have e2 : vs[j]? = some vs[j] := List.getElem?_eq_getElem (by simpa using hj)
    have hj' : j < cs.length := by rw [← hl]; simpa using hj
    have e1 : cs[j]? = some cs[j] := List.getElem?_eq_getElem hj'
    exact (hr j _ _ e1 e2).oneCell (by
      have : cs.all AV.scalar = true := hp
      exact List.all_eq_true.1 this _ (List.getElem_mem _))
  | any v => cases hp
  | gmap id b hb => exact ⟨⟨rfl, fun j c u h1 h2 => by cases j with
      | zero => simp [AV.cells, Value.cells] at h1 h2; subst h1; subst h2; exact .gmap _ _ hb
      | succ j => simp [AV.cells] at h1⟩, fun u hu => by simp [Value.cells] at hu; subst hu; rfl⟩
  | tuple cs vs hl hr => cases hp
  | lit v =>
    have e := key _ _ (.lit v : RelV P G w (.lit v) v) hp
    rw [e]
    exact ⟨⟨rfl, fun j c u h1 h2 => by cases j with
      | zero => simp [AV.cells] at h1 h2; subst h1; subst h2; exact .lit _
      | succ j => simp [AV.cells] at h1⟩, fun u hu => by simp at hu; subst hu; exact hp⟩
  | str l => exact ⟨⟨rfl, fun j c u h1 h2 => by cases j with
      | zero => simp [AV.cells, Value.cells] at h1 h2; subst h1; subst h2; exact .str _
      | succ j => simp [AV.cells] at h1⟩, fun u hu => by simp [Value.cells] at hu; subst hu; rfl⟩
  | gptr id off b hb => exact ⟨⟨rfl, fun j c u h1 h2 => by cases j with
      | zero => simp [AV.cells, Value.cells] at h1 h2; subst h1; subst h2; exact .gptr _ _ _ hb
      | succ j => simp [AV.cells] at h1⟩, fun u hu => by simp [Value.cells] at hu; subst hu; rfl⟩
  | gsl id of n b c hb h1' h2' => exact ⟨⟨rfl, fun j c u h1 h2 => by cases j with
      | zero => simp [AV.cells, Value.cells] at h1 h2; subst h1; subst h2; exact .gsl _ _ _ _ _ hb h1' h2'
      | succ j => simp [AV.cells] at h1⟩, fun u hu => by simp [Value.cells] at hu; subst hu; rfl⟩
  | gsl0 id of => exact ⟨⟨rfl, fun j c u h1 h2 => by cases j with
      | zero => simp [AV.cells, Value.cells] at h1 h2; subst h1; subst h2; exact .gsl0 _ _
      | succ j => simp [AV.cells] at h1⟩, fun u hu => by simp [Value.cells] at hu; subst hu; rfl⟩
  | gslz id of a => exact ⟨⟨rfl, fun j c u h1 h2 => by cases j with
      | zero => simp [AV.cells, Value.cells] at h1 h2; subst h1; subst h2; exact .gslz _ _ _
      | succ j => simp [AV.cells] at h1⟩, fun u hu => by simp [Value.cells] at hu; subst hu; rfl⟩
  | nil o E => exact ⟨⟨rfl, fun j c u h1 h2 => by cases j with
      | zero => simp [AV.cells, Value.cells] at h1 h2; subst h1; subst h2; exact .nil _ _
      | succ j => simp [AV.cells] at h1⟩, fun u hu => by simp [Value.cells] at hu; subst hu; rfl⟩
  | zero E a => exact ⟨⟨rfl, fun j c u h1 h2 => by cases j with
      | zero => simp [AV.cells, Value.cells] at h1 h2; subst h1; subst h2; exact .zero _ _
      | succ j => simp [AV.cells] at h1⟩, fun u hu => by simp [Value.cells] at hu; subst hu; rfl⟩
  | row o E xs b off cap size us hs hl hsc hcap hmax htip hc hr => exact ⟨⟨rfl, fun j c u h1 h2 => by cases j with
      | zero => simp [AV.cells, Value.cells] at h1 h2; subst h1; subst h2; exact .row o E xs b off cap size us hs hl hsc hcap hmax htip hc hr
      | succ j => simp [AV.cells] at h1⟩, fun u hu => by simp [Value.cells] at hu; subst hu; rfl⟩
  | fn f cap vs hl hr => exact ⟨⟨rfl, fun j c u h1 h2 => by cases j with
      | zero => simp [AV.cells, Value.cells] at h1 h2; subst h1; subst h2; exact .fn f cap vs hl hr
      | succ j => simp [AV.cells] at h1⟩, fun u hu => by simp [Value.cells] at hu; subst hu; rfl⟩
  | fnm f cap vs hl hr => exact ⟨⟨rfl, fun j c u h1 h2 => by cases j with
      | zero => simp [AV.cells, Value.cells] at h1 h2; subst h1; subst h2; exact .fnm f cap vs hl hr
      | succ j => simp [AV.cells] at h1⟩, fun u hu => by simp [Value.cells] at hu; subst hu; rfl⟩

theorem foldl_splice (off : Nat) : ∀ (vs : List Value) (k : Nat) (arr : Array Value), off + k + vs.length ≤ arr.size →
    ((vs.zipIdx k).foldl (fun cs (x : Value × Nat) => cs.setIfInBounds (off + x.2) x.1) arr).toList = arr.toList.take (off + k) ++ vs ++ arr.toList.drop (off + k + vs.length)
  | [], k, arr, _ => by simp
  | v :: vs, k, arr, h => by
    simp only [List.length_cons] at h
    rw [List.zipIdx_cons, List.foldl_cons, foldl_splice off vs (k + 1) _ (by simp; omega)]
    simp only [Array.toList_setIfInBounds, List.length_cons]
    rw [show off + (k + 1) = off + k + 1 by omega, show off + k + 1 + vs.length = off + k + (vs.length + 1) by omega]
    rw [List.drop_set_of_lt (by omega), List.take_succ_eq_append_getElem (by simp; omega)]
    rw [List.take_set_of_le (Nat.le_refl _)]
    simp

theorem fill_rel (place : Nat → Option (Nat × Nat)) : ∀ (ps : List (Nat × AV)) (pv : List (Nat × Value)) (cells : List AV) (arr : Array Value) (out : List AV),
    pv.length = ps.length → (∀ (j : Nat) p q, ps[j]? = some p → pv[j]? = some q → p.1 = q.1 ∧ RelV P G w p.2 q.2 ∧ p.2.part = true) → RelL P G w cells arr.toList → fillA place cells ps = some out →
    ∃ arr', Instr.fill place arr pv = some arr' ∧ RelL P G w out arr'.toList
  | [], pv, cells, arr, out, hl, _, hc, hf => by
    have : pv = [] := List.length_eq_zero_iff.1 hl
    subst this
    simp only [fillA, Option.some.injEq] at hf
    subst hf
    exact ⟨arr, rfl, hc⟩
  | (i, x) :: ps, pv, cells, arr, out, hl, hr, hc, hf => by
    cases pv with
    | nil => cases hl
    | cons q pv =>
      obtain ⟨h1, h2, h3⟩ := hr 0 (i, x) q rfl rfl
      obtain ⟨i', v⟩ := q
      simp only at h1 h2 h3
      subst h1
      simp only [fillA] at hf
      cases hp : place i with
      | none => simp [hp] at hf
      | some os =>
        obtain ⟨off, size⟩ := os
        simp only [hp] at hf
        split at hf
        · rename_i hk
          obtain ⟨hrc, hone⟩ := h2.cells h3
          have e1 : v.cells.size = size := by have := hrc.1; simp at this; omega
          have e2 : arr.size = cells.length := by have := hc.1; simpa using this
          have hsp := foldl_splice off v.cells.toList 0 arr (by simp; omega)
          simp only [Nat.add_zero] at hsp
          have hrec := fill_rel place ps pv (cells.take off ++ x.cells ++ cells.drop (off + size)) (v.cells.zipIdx.foldl (fun cs (c, j) => cs.setIfInBounds (off + j) c) arr) out (by simpa using hl)
            (fun j p q hp hq => hr (j + 1) p q (by simpa using hp) (by simpa using hq)) (by
              have e3 : (v.cells.zipIdx.foldl (fun cs (c, j) => cs.setIfInBounds (off + j) c) arr).toList = arr.toList.take off ++ v.cells.toList ++ arr.toList.drop (off + v.cells.toList.length) := by
                rw [← hsp, ← Array.foldl_toList]
                congr 2
                simp [Array.toList_zipIdx]
              rw [e3]
              have e4 : v.cells.toList.length = size := by simpa using e1
              rw [e4]
              exact ((hc.take off).app hrc).app (hc.drop _)) hf
          obtain ⟨arr', hfill, hrel⟩ := hrec
          refine ⟨arr', ?_, hrel⟩
          simp only [Instr.fill, hp]
          have : ¬ (v.cells.size ≠ size || decide (off + v.cells.size > arr.size)) = true := by simp; omega
          rw [if_neg (by simpa using this)]
          exact hfill
        · cases hf
end
end
section
open Go.RowKit

/-- The zero cells; Es: the element types of slices among them. -/
def zcells : List Value → List TypeId → List AV
  | [], _ => []
  | .slice none 0 0 :: r, E :: Es => (if E = 0 then .lit (.slice none 0 0) else .list false E []) :: zcells r Es
  | .slice none 0 0 :: r, [] => .list false 0 [] :: zcells r []
  | v :: r, Es => ofCell v :: zcells r Es

section
variable {P : Program} {n : Nat} {s : St} {ops : Array Oper} {o : Oper} {rest : List Oper} {Q : St → Prop} {d : Nat} {t t' E : TypeId} {x y : Operand} {G : Gh} {a : Act} {w : World}

theorem zcells_rel : ∀ (zs : List Value) (Es : List TypeId), (∀ z ∈ zs, z.oneCell' = true) → RelL P G w (zcells zs Es) zs := by
  intro zs
  induction zs with
  | nil => intro Es _; exact ⟨rfl, fun j c u h => by simp [zcells] at h⟩
  | cons z r ih =>
    intro Es hz
    have one : ∀ (c : AV) (cs : List AV), RelV P G w c z → RelL P G w cs r → RelL P G w (c :: cs) (z :: r) := by
      intro c cs h1 h2
      refine ⟨by simp [h2.1], fun j c' u hc hu => ?_⟩
      cases j with
      | zero => simp at hc hu; subst hc; subst hu; exact h1
      | succ j => exact h2.2 j c' u (by simpa using hc) (by simpa using hu)
    have hr : ∀ Es, RelL P G w (zcells r Es) r := fun Es => ih Es (fun z hz' => hz z (List.mem_cons_of_mem _ hz'))
    by_cases hz' : z = .slice none 0 0
    · subst hz'
      cases Es with
      | nil => exact one _ _ (.nil _ _) (hr _)
      | cons E Es =>
        refine one _ _ ?_ (hr _)
        split
        · exact .lit _
        · exact .nil _ _
    · have e : zcells (z :: r) Es = ofCell z :: zcells r Es := by
        cases z with
        | slice a l c => cases a <;> cases l <;> cases c <;> first | rfl | exact absurd rfl hz'
        | _ => rfl
      rw [e]
      exact one _ _ (relV_ofCell _ (hz _ (List.mem_cons_self ..))) (hr _)

/-- Constants among the operands are one cell each, or cells. -/
def Operand.ok : Operand → Bool
  | .const (.agg cs) => cs.toList.all fun c => c.oneCell'
  | _ => true
theorem ok_const {x : Operand} (h : Operand.ok x = true) : ∀ v cs, x = .const v → v = .agg cs → ∀ c ∈ cs, c.oneCell' = true := by
  rintro v cs rfl rfl c hc
  exact List.all_eq_true.1 h c (by simpa using hc)

/-- Parts of a literal. -/
structure Parts (s : St) (ps : Array (Nat × Operand)) (xs : List (Nat × AV)) : Prop where
  len : ps.size = xs.length
  arg : ∀ (j : Nat) p x, ps[j]? = some p → xs[j]? = some x → p.1 = x.1 ∧ ArgOf s p.2 x.2 ∧ x.2.part = true ∧ Operand.ok p.2 = true

theorem Parts.rel {ps : Array (Nat × Operand)} {xs : List (Nat × AV)} (h : Parts s ps xs) (hr : RelSt P G n s a w) : (ps.map fun (i, x) => (i, a.eval x)).toList.length = xs.length ∧
    ∀ (j : Nat) p q, xs[j]? = some p → (ps.map fun (i, x) => (i, a.eval x)).toList[j]? = some q → p.1 = q.1 ∧ RelV P G w p.2 q.2 ∧ p.2.part = true := by
  refine ⟨by simp [h.len], fun j p q hp hq => ?_⟩
  rw [Array.toList_map, List.getElem?_map] at hq
  cases hy : ps.toList[j]? with
  | none => simp [hy] at hq
  | some y =>
    simp only [hy, Option.map_some, Option.some.injEq] at hq
    subst hq
    obtain ⟨h1, h2, h3, h4⟩ := h.arg j y p (by simpa using hy) hp
    exact ⟨h1.symm, h2.rel hr (ok_const h4), h3⟩

/-- A struct literal. -/
theorem Reader.build {ps : Array (Nat × Operand)} {xs : List (Nat × AV)} {zs : Array Value} {Es : List TypeId} {cs : List AV} {fs : Array Field} {places : List (Nat × Nat)} (ho : o.op = .build t ps) (hu : P.underlying t = some (.struct fs)) (hp : Parts s ps xs)
    (hz : (P.info? t).map (·.zero) = some (some (.agg zs))) (hz1 : zs.toList.all (fun c => c.oneCell') = true) (hpl : ∀ w : World, (fs.mapM fun f => (do pure (f.offset, ← sizeOf f.type) : Sem (Nat × Nat))).run P w = .ok places.toArray w)
    (hf : fillA (places[·]?) (zcells zs.toList Es) xs = some cs) : Reader P n s o d (.agg cs) := by
  intro G a w hr
  obtain ⟨h1, h2⟩ := hp.rel hr
  obtain ⟨arr, hfill, hrel⟩ := fill_rel (P := P) (G := G) (w := w) (places[·]?) xs _ (zcells zs.toList Es) zs cs h1 h2 (zcells_rel _ _ (List.all_eq_true.1 hz1)) hf
  refine ⟨.agg arr, ?_, fun w' _ => ?_⟩
  · have := RelV.agg cs arr.toList hrel.1 hrel.2
    simp only [Array.toArray_toList] at this
    exact this
  · cases hi : P.info? t with
    | none => simp [hi] at hz
    | some i =>
      simp only [hi, Option.map_some, Option.some.injEq] at hz
      have hfill' : Instr.fill (fun i : Nat => places[i]?) zs (Array.map (fun x => (x.1, a.eval x.2)) ps).toList = some arr := hfill
      rw [Array.toList_map] at hfill'
      have hpl' : (Array.mapM (fun f : Field => Prod.mk f.offset <$> sizeOf f.type) fs).run P w' = .ok places.toArray w' := by simpa using hpl w'
      simp [execOp, ho, Instr.build, zeroValue, typeInfo, hi, hz, Value.cells, run_underlying hu, hpl', Result.andThen, hfill']

theorem zero_flat {z : Value} {size len : Nat} (hz : z.cells.size = size) : ((Array.range (len * size)).map (z.cells[· % z.cells.size]!)).toList = (List.replicate len z.cells.toList).flatten := by
  rw [Array.toList_map, Array.toList_range]
  induction len with
  | zero => simp
  | succ len ih =>
    rw [Nat.add_mul, Nat.one_mul, List.range_add, List.map_append, ih, List.replicate_succ', List.flatten_append]
    congr 1
    simp only [List.map_map, List.flatten_cons, List.flatten_nil, List.append_nil]
    apply List.ext_getElem
    · simp [hz]
    · intro j h1 h2
      simp at h1
      simp only [List.getElem_map, List.getElem_range, Function.comp, hz, Nat.mul_comm len size, Nat.mul_add_mod, Nat.mod_eq_of_lt h1]
      rw [getElem!_pos z.cells j (by omega)]
      simp

/-- A slice literal. -/
theorem AOps.buildSlice {len size : Nat} {ps : Array (Nat × Operand)} {ys : List (Nat × AV)} {z : Value} {Es : List TypeId} {cs : List AV} {xs : List AV} {i : TypeInfo} (hg : Wants ops s o) (hd : o.dst = some d) (hn : d < n) (ho : o.op = .buildSlice t len ps) (hu : P.underlying t = some (.slice E))
    (hi : P.info? E = some i) (hsz : i.size = size) (hz : i.zero = some z) (hz1 : z.cells.toList.all (fun c => c.oneCell') = true) (hpos : ¬ len * size > 2 ^ 24 ∧ ¬ len * size = 0) (hp : Parts s ps ys)
    (hf : fillA (fun i => some (i * size, size)) (zcells (List.replicate len z.cells.toList).flatten Es) ys = some cs) (hzs : z.cells.size = size)
    (hx : cs = xs.flatMap AV.cells) (hl : ∀ x ∈ xs, x.cells.length = size) (hsc : ∀ x ∈ xs, ∀ c ∈ x.cells, c.scalar = true) (hlen : xs.length = len) (k : AOps P n ops rest (s.put d (.list true E xs)) Q) : AOps P n ops (o :: rest) s Q := by
  have hs : SizeOf P E size := by unfold SizeOf; rw [hi]; simp [hsz]
  subst hlen
  have hmax : xs.length ≤ maxLen := by
    have : xs.length ≤ xs.length * size := Nat.le_mul_of_pos_right _ (Nat.pos_of_ne_zero (fun e => hpos.2 (by rw [e]; rfl)))
    unfold maxLen; omega
  refine AOps.row hg hd hn hs hl hsc hmax ?_ k
  intro G a w hr
  obtain ⟨h1, h2⟩ := hp.rel hr
  have hzmem : ∀ c ∈ ((Array.range (xs.length * size)).map (z.cells[· % z.cells.size]!)).toList, c.oneCell' = true := by
    intro c hc
    simp only [Array.toList_map, List.mem_map] at hc
    obtain ⟨j, _, rfl⟩ := hc
    have hlt : j % z.cells.size < z.cells.size := Nat.mod_lt _ (by rw [hzs]; exact Nat.pos_of_ne_zero (fun e => hpos.2 (by rw [e]; simp)))
    rw [getElem!_pos z.cells _ hlt]
    exact List.all_eq_true.1 hz1 _ (by simp)
  obtain ⟨arr, hfill, hrel⟩ := fill_rel (P := P) (G := G) (w := w) (fun i => some (i * size, size)) ys _ _ ((Array.range (xs.length * size)).map (z.cells[· % z.cells.size]!)) cs h1 h2 (zcells_rel _ Es hzmem) (by rw [zero_flat hzs]; exact hf)
  subst hx
  refine ⟨arr.toList, by rw [hrel.1, flat_len hl], hrel.2, ?_⟩
  have := run_buildSlice (P := P) w t E xs.length (ps.map fun (i, x) => (i, a.eval x)) arr i z hu hi hz (by rw [hsz]; exact hpos.1) (by rw [hsz]; exact hpos.2) (by rw [hsz]; exact hfill)
  simp only [Array.toArray_toList]
  simp only [execOp, ho, Sem.run_bind, this, Result.andThen_ok]
  rfl

/-- A variable with a value. -/
theorem AOps.box {v : AV} (hg : Wants ops s o) (hd : o.dst = some d) (hn : d < n) (hnl : lookL s.loc d = none) (hno : ∀ i off, s.get i ≠ .lptr d off) (ho : o.op = .box t x) (hx : ArgOf s x v) (hok : Operand.ok x = true) (hp : v.part = true) (hfl : ∀ c ∈ v.cells, c.flat = true)
    (k : AOps P n ops rest { s with fr := (d, .lptr d 0) :: s.fr, loc := (d, v.cells) :: s.loc } Q) : AOps P n ops (o :: rest) s Q := by
  refine AOps.var hg hd hn hnl hno (fun c hc => ?_) hfl ?_ k
  · cases v with
    | agg cs => exact List.all_eq_true.1 (show cs.all AV.scalar = true from hp) c hc
    | _ => simp only [AV.cells, List.mem_singleton] at hc; subst hc; exact hp
  · intro G a w hr
    have h1 := hx.rel hr (ok_const hok)
    obtain ⟨h2, h3⟩ := h1.cells hp
    refine ⟨(a.eval x).cells.toList, t, h2.1, h2.2, ?_⟩
    simp [execOp, ho, Instr.box, newVar, newRow]

/-- A variable without one. -/
theorem AOps.alloc {z : Value} {Es : List TypeId} (hg : Wants ops s o) (hd : o.dst = some d) (hn : d < n) (hnl : lookL s.loc d = none) (hno : ∀ i off, s.get i ≠ .lptr d off) (ho : o.op = .alloc t) (hz : (P.info? t).map (·.zero) = some (some z)) (hz1 : z.cells.toList.all (fun c => c.oneCell') = true)
    {cells : List AV} (hc : zcells z.cells.toList Es = cells) (hsc : ∀ c ∈ cells, c.scalar = true) (hfl : ∀ c ∈ cells, c.flat = true)
    (k : AOps P n ops rest { s with fr := (d, .lptr d 0) :: s.fr, loc := (d, cells) :: s.loc } Q) : AOps P n ops (o :: rest) s Q := by
  refine AOps.var hg hd hn hnl hno hsc hfl ?_ k
  intro G a w hr
  subst hc
  have h2 := zcells_rel (P := P) (G := G) (w := w) z.cells.toList Es (List.all_eq_true.1 hz1)
  refine ⟨z.cells.toList, t, h2.1, h2.2, ?_⟩
  cases hi : P.info? t with
  | none => simp [hi] at hz
  | some i =>
    simp only [hi, Option.map_some, Option.some.injEq] at hz
    simp [execOp, ho, Instr.alloc, zeroValue, typeInfo, hi, hz, newVar, newRow]

def splice (cells : List AV) (off : Nat) (xs : List AV) : List AV := cells.take off ++ xs ++ cells.drop (off + xs.length)

theorem lookL_cons {k k' : Nat} {v c : List AV} {l : List (Nat × List AV)} (h : lookL ((k, v) :: l) k' = some c) : (k' = k ∧ c = v) ∨ (k' ≠ k ∧ lookL l k' = some c) := by
  simp only [lookL] at h
  split at h
  · rename_i e; cases h; exact .inl ⟨e.symm, rfl⟩
  · rename_i e; exact .inr ⟨fun e' => e e'.symm, h⟩

/-- What is stored, and what a store does to the memory. -/
theorem run_storeVar_at {b off : Nat} {T : TypeId} {cur : Array Value} {v : Value} {size : Nat} (hh : w.heap[b]? = some (.cells cur T (0, 0))) (hs : SizeOf P t size) (hv : v.cells.size = size) (hone : ∀ u ∈ v.cells.toList, u.oneCell' = true) (hfit : off + size ≤ cur.size) :
    (storeVar t ⟨b, off, none⟩ v).run P w = .ok () (w.setRow b (cur.toList.take off ++ v.cells.toList ++ cur.toList.drop (off + size)).toArray) := by
  have := run_storeCells_at (P := P) b off T v.cells.toList 0 cur w hh (by simp; omega) hone
  simp only [Nat.add_zero, Array.length_toList, hv] at this
  simp [storeVar, run_size hs, hv, this, Result.andThen]

theorem Holds.set {b : Nat} {own : Pos} {p : Nat → Pos} {cells ys : List AV} {us : List Value} {off : Nat} {cur : Array Value} {T : TypeId} (h : Holds P G w b own p cells) (hh : w.heap[b]? = some (.cells cur T (0, 0))) (hr : RelL P G w ys us) (hsc : ∀ c ∈ ys, c.scalar = true) (hfl : ∀ c ∈ ys, c.flat = true)
    (hfit : off + ys.length ≤ cells.length) (w' : World) (hw' : w' = w.setRow b (cur.toList.take off ++ us ++ cur.toList.drop (off + ys.length)).toArray) (st : Stab G w G w') (hz : w.heap.size ≤ w'.heap.size)
    (hother : ∀ c b', b' < w.heap.size → G.owner b' = some (p c) → w'.heap[b']? = w.heap[b']?) : Holds P G w' b own p (splice cells off ys) := by
  obtain ⟨arr, T', h1, h2, h3, h4, h5, h6⟩ := h
  rw [hh] at h1
  cases h1
  have hul : us.length = ys.length := hr.1
  refine ⟨_, T, by rw [hw']; exact setRow_heap w b cur _ T _ hh, ?_, h3, h4, fun c hc => ?_, fun j c u hj hu => ?_⟩
  · simp [splice]; omega
  · simp only [splice, List.mem_append] at hc
    rcases hc with (hc | hc) | hc
    · exact h5 c (List.mem_of_mem_take hc)
    · exact hsc c hc
    · exact h5 c (List.mem_of_mem_drop hc)
  · have hu' : (cur.toList.take off ++ us ++ cur.toList.drop (off + ys.length))[j]? = some u := by simpa using hu
    have old : ∀ j, cells[j]? = some c → cur.toList[j]? = some u → RelO P G w' (p j) c u := fun j hj hu =>
      (h6 j c u hj (by simpa using hu)).move st hz (fun b' hb ho => ⟨ho, hother j b' hb ho, rfl⟩)
    simp only [splice] at hj
    have hlt1 : (cells.take off).length = off := by simp; omega
    have hlt2 : (cur.toList.take off).length = off := by simp; omega
    rcases Nat.lt_or_ge j off with hlt | hge
    · rw [List.append_assoc, List.getElem?_append_left (by omega), List.getElem?_take_of_lt hlt] at hj hu'
      exact old j hj hu'
    · rcases Nat.lt_or_ge j (off + ys.length) with hlt | hge2
      · rw [List.append_assoc, List.getElem?_append_right (by omega), hlt1, List.getElem?_append_left (by omega)] at hj
        rw [List.append_assoc, List.getElem?_append_right (by omega), hlt2, List.getElem?_append_left (by omega)] at hu'
        exact ((hr.2 _ c u hj hu').stab st).toO (hfl c (List.mem_of_getElem? hj))
      · rw [List.getElem?_append_right (by simp; omega), List.getElem?_drop] at hj hu'
        simp only [List.length_append, hlt1, hlt2, hul] at hj hu'
        rw [show off + ys.length + (j - (off + ys.length)) = j by omega] at hj hu'
        exact old j hj hu'

/-- A store into a local variable: a copy. -/
theorem AOps.storeL {v : AV} {cells : List AV} {k0 off size : Nat} (hg : Wants ops s o) (hd : o.dst = none) (ho : o.op = .store t x y) (hx : s.eval x = .lptr k0 off) (hc : lookL s.loc k0 = some cells) (hs : SizeOf P t size) (hy : ArgOf s y v) (hok : Operand.ok y = true) (hp : v.part = true) (hfl : ∀ c ∈ v.cells, c.flat = true)
    (hsz : v.cells.length = size) (hfit : off + size ≤ cells.length) (k : AOps P n ops rest { s with loc := (k0, splice cells off v.cells) :: s.loc } Q) : AOps P n ops (o :: rest) s Q := by
  refine AOps.effect hg hd ?_ k
  intro G a w hr
  obtain ⟨p, hpx⟩ := hr.ev x (fun v cs e1 e2 => by subst e1; subst e2; simp [St.eval, ofConst] at hx)
  rw [hx] at hpx
  have hav : a.eval x = .pointer (some ⟨G.lb k0, off, none⟩) := hpx
  have hH := hr.loc k0 cells hc
  obtain ⟨cur, T, hh, hcs, ho1, ht1, _, _⟩ := hH
  have hrv := hy.rel hr (ok_const hok)
  obtain ⟨hL, hone⟩ := hrv.cells hp
  have hvs : (a.eval y).cells.size = size := by have := hL.1; simp at this; omega
  have hrun := run_storeVar_at (P := P) (t := t) (off := off) hh hs hvs hone (by omega)
  obtain ⟨W', hW⟩ : ∃ W', W' = w.setRow (G.lb k0) (cur.toList.take off ++ (a.eval y).cells.toList ++ cur.toList.drop (off + size)).toArray := ⟨_, rfl⟩
  rw [← hW] at hrun
  have st : Stab G w G W' := by
    refine ⟨fun _ => Nat.le_refl _, fun b oo hoo => ?_, fun _ _ h => h⟩
    have hne : b ≠ G.lb k0 := fun e => by rw [e, ht1] at hoo; omega
    subst hW
    exact World.cell?_of_block (w := w) (a := ⟨b, oo, none⟩) (setRow_other w _ b _ hne)
  have other : ∀ q b, G.owner b = some q → q ≠ .lb k0 → W'.heap[b]? = w.heap[b]? := by
    intro q b h1 h2
    subst hW
    refine setRow_other w _ b _ (fun e => h2 ?_)
    rw [e, ho1] at h1
    exact (Option.some.inj h1).symm
  have hzz : W'.heap.size = w.heap.size := by rw [hW]; simp
  have hz : w.heap.size ≤ W'.heap.size := by omega
  refine ⟨W', G, ?_, ⟨hr.size, hr.defers, fun i => ?_, fun k1 cells1 hk1 => ?_, ?_⟩, ⟨by rw [hW]; rfl, by rw [hW]; rfl, by rw [hW]; rfl, hz, fun b hb hn => ⟨hn, ?_, rfl⟩, st⟩⟩
  · simp [execOp, ho, Instr.storeAt, Instr.sureAddr, hav, hrun]
  · exact (hr.slot i).move st hz (fun _ _ _ => rfl) (fun c b _ h2 => ⟨h2, other _ b h2 (by intro h; cases h), rfl⟩)
  · rcases lookL_cons hk1 with ⟨rfl, rfl⟩ | ⟨hne, hk1⟩
    · refine (hr.loc k1 cells hc).set hh hL (fun c hcm => ?_) hfl (by omega) _ (by rw [hsz]; exact hW) st hz (fun c b' _ h2 => other _ b' h2 (by intro h; cases h))
      cases v with
      | agg cs => exact List.all_eq_true.1 (show cs.all AV.scalar = true from hp) c hcm
      | _ => simp only [AV.cells, List.mem_singleton] at hcm; subst hcm; exact hp
    · have h0 := hr.loc k1 cells1 hk1
      exact h0.move st hz (other _ _ h0.own (by intro h; injection h with h; exact hne h)) rfl rfl (fun c b _ h2 => ⟨h2, other _ b h2 (by intro h; cases h), rfl⟩)
  · exact hr.mem.move st hz (fun q b hq _ h2 => ⟨h2, other q b h2 (fun h => by subst h; cases hq), rfl⟩) (fun b hb => hr.mem.far b (by omega)) rfl
  · subst hW
    refine setRow_other w _ b _ (fun e => ?_)
    rw [e, ho1] at hn; cases hn

end
end
end Go.Proofs.YtdjojfibjbjpdaaGreatDoor
