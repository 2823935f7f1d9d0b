/- My own small kit for this seat: later worlds that keep what was there ('Ext'), and the form of contracts. -/
import Derived.WalkKit
import Derived.WalkSpells
import Derived.WalkLawsBesides
import Derived.Deep.QuietTactic
import Derived.BigQuiet
import Derived.Lib.Hide
namespace Go.Proofs.Ytfnbfkgknfagmaa
open Go.RowKit

/-- A later world in which all blocks of 'w' are as they were. -/
structure Ext (w : World) where
  val : World
  below : Below w.heap.size w val

instance (w : World) : Nonempty (Ext w) := ⟨⟨w, Below.refl _ _⟩⟩

/-- Block b is there in w: found by instances, to whatever depth. -/
class LtW (b : Nat) (w : World) : Prop where
  out : b < w.heap.size

instance LtW.new (w : World) (o : Obj) : LtW w.heap.size (w.alloc o) := ⟨by simp⟩
instance LtW.alloc (b : Nat) (w : World) (o : Obj) [h : LtW b w] : LtW b (w.alloc o) := ⟨by have := h.out; simp; omega⟩
instance LtW.succ (b : Nat) (w : World) (o : Obj) [h : LtW b w] : LtW (b + 1) (w.alloc o) := ⟨by have := h.out; simp; omega⟩
instance LtW.ext (b : Nat) (w : World) (x : Ext w) [h : LtW b w] : LtW b x.val := ⟨Nat.lt_of_lt_of_le h.out x.below.size⟩
instance LtW.drew (b : Nat) (w : World) [h : LtW b w] : LtW b w.drew := ⟨h.out⟩
instance LtW.drewN (b n : Nat) (w : World) [h : LtW b w] : LtW b (w.drewN n) := ⟨h.out⟩
instance LtW.setCell (b : Nat) (w : World) (a : Addr) (v : Value) [h : LtW b w] : LtW b (w.setCell a v) := ⟨by have := h.out; simpa [World.setCell] using this⟩

section
variable {w : World} (x : Ext w)
@[go_sem, simp] theorem Ext.cell (b o : Nat) [h : LtW b w] : x.val.cell? ⟨b, o, none⟩ = w.cell? ⟨b, o, none⟩ := x.below.cell (p := ⟨b, o, none⟩) h.out
@[go_sem, simp] theorem Ext.frozen (b o : Nat) [h : LtW b w] : x.val.frozen? ⟨b, o, none⟩ = w.frozen? ⟨b, o, none⟩ := x.below.frozen (p := ⟨b, o, none⟩) h.out
theorem Ext.block (b : Nat) [h : LtW b w] : x.val.heap[b]? = w.heap[b]? := x.below.block b h.out
theorem Ext.size : w.heap.size ≤ x.val.heap.size := x.below.size
@[go_sem, simp] theorem LtW.cell (b o : Nat) (ob : Obj) [h : LtW b w] : (w.alloc ob).cell? ⟨b, o, none⟩ = w.cell? ⟨b, o, none⟩ := World.cell?_of_block (w := w) (a := ⟨b, o, none⟩) (Below.heap_alloc _ _ _ h.out)
@[go_sem, simp] theorem LtW.frozen (b o : Nat) (ob : Obj) [h : LtW b w] : (w.alloc ob).frozen? ⟨b, o, none⟩ = w.frozen? ⟨b, o, none⟩ := World.frozen?_of_block (w := w) (a := ⟨b, o, none⟩) (Below.heap_alloc _ _ _ h.out)
@[go_sem, simp] theorem LtW.ne (b : Nat) [h : LtW b w] : (b = w.heap.size) = False := by have := h.out; simp; omega
@[go_sem, simp] theorem LtW.ne' (b : Nat) [h : LtW b w] : (w.heap.size = b) = False := by have := h.out; simp; omega
@[go_sem, simp] theorem LtW.lt (b : Nat) [h : LtW b w] : (b < w.heap.size) = True := by have := h.out; simp; omega
end

/-- w keeps all that was there in w0: found by instances. -/
class Keeps (w0 w : World) : Prop where
  out : Below w0.heap.size w0 w
/-- Block b came behind w0. -/
class GeW (w0 : World) (b : Nat) : Prop where
  out : w0.heap.size ≤ b

instance Keeps.refl (w : World) : Keeps w w := ⟨Below.refl _ _⟩
instance Keeps.alloc (w0 w : World) (o : Obj) [h : Keeps w0 w] : Keeps w0 (w.alloc o) := ⟨h.out.alloc h.out.size o⟩
instance Keeps.drew (w0 w : World) [h : Keeps w0 w] : Keeps w0 w.drew := ⟨h.out.drew⟩
instance Keeps.drewN (w0 w : World) (n : Nat) [h : Keeps w0 w] : Keeps w0 (w.drewN n) := ⟨h.out.trans ⟨rfl, rfl, rfl, Nat.le_refl _, fun _ _ => rfl⟩⟩
instance Keeps.ext (w0 w : World) (x : Ext w) [h : Keeps w0 w] : Keeps w0 x.val := ⟨h.out.trans (x.below.mono h.out.size)⟩
instance Keeps.setCell (w0 w : World) (b o : Nat) (v : Value) [h : Keeps w0 w] [g : GeW w0 b] : Keeps w0 (w.setCell ⟨b, o, none⟩ v) := ⟨h.out.setCell g.out v⟩
instance GeW.size (w0 w : World) [h : Keeps w0 w] : GeW w0 w.heap.size := ⟨h.out.size⟩
instance GeW.succ (w0 : World) (b : Nat) [h : GeW w0 b] : GeW w0 (b + 1) := ⟨Nat.le_trans h.out (Nat.le_succ _)⟩

theorem exists_ext {w w' : World} [h : Keeps w w'] : ∃ x : Ext w, w' = x.val := ⟨⟨w', h.out⟩, rfl⟩

/-- A call hands back v, and leaves all that was there as it was. -/
def RetE (w : World) (v : Value) (e : Ending) (w' : World) : Prop := e = .returned v ∧ ∃ x : Ext w, w' = x.val

theorem RetE.of_below {w w' : World} {v : Value} (h : Below w.heap.size w w') : RetE w v (.returned v) w' := ⟨rfl, ⟨w', h⟩, rfl⟩

theorem fin_ret {P : Program} {fn : Func} {a : Act} {w0 w : World} {v : Value}
    (hr : (results fn a.tmps).run P w = .ok v w) (hd : a.defers = []) (h : Below w0.heap.size w0 w) : bodyPost P fn (RetE w0 v) .ret a w :=
  bodyPost_ret hr hd (RetE.of_below h)

/-- .. hands back some value of which R holds. -/
def RetP (w : World) (R : Value → World → Prop) (e : Ending) (w' : World) : Prop := ∃ v, e = .returned v ∧ (∃ x : Ext w, w' = x.val) ∧ R v w'

theorem fin_retP {P : Program} {fn : Func} {a : Act} {w0 w : World} {R : Value → World → Prop} (v : Value)
    (hr : (results fn a.tmps).run P w = .ok v w) (hd : a.defers = []) (h : Below w0.heap.size w0 w) (hR : R v w) : bodyPost P fn (RetP w0 R) .ret a w :=
  bodyPost_ret hr hd ⟨v, rfl, ⟨⟨w, h⟩, rfl⟩, hR⟩

theorem ret_bool {a b : Bool} (h : a = b) : Ending.returned (.bool a) = .returned (.bool b) := by rw [h]
theorem ret_int {k : IntKind} {a b : Int} (h : a = b) : Ending.returned (.int k a) = .returned (.int k b) := by rw [h]

theorem Below.ext {w0 w : World} (h : Below w0.heap.size w0 w) (x : Ext w) : Below w0.heap.size w0 x.val := h.trans (x.below.mono h.size)

end Go.Proofs.Ytfnbfkgknfagmaa
