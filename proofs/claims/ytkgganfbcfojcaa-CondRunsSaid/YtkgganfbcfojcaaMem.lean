/- Blocks of the call's own, and owned rows, over later worlds. -/
import Derived.Test.YtkgganfbcfojcaaOwn
namespace Go.Proofs.Ytkgganfbcfojcaa
open Go.RowKit

/-- Block b holds just these cells. -/
def Blk (w : World) (b : Nat) (c : Array Value) (t : TypeId) : Prop := w.heap[b]? = some (.cells c t (0, 0))

theorem Blk.lt {w : World} {b : Nat} {c : Array Value} {t : TypeId} (h : Blk w b c t) : b < w.heap.size := (Array.getElem?_eq_some_iff.1 h).1
theorem Blk.ltw {w : World} {b : Nat} {c : Array Value} {t : TypeId} (h : Blk w b c t) : LtW b w := ⟨h.lt⟩
theorem Blk.cell {w : World} {b : Nat} {c : Array Value} {t : TypeId} (h : Blk w b c t) (o : Nat) : w.cell? ⟨b, o, none⟩ = c[o]? := by
  unfold Blk at h; simp [World.cell?, h]
theorem Blk.frozen {w : World} {b : Nat} {c : Array Value} {t : TypeId} (h : Blk w b c t) (o : Nat) : w.frozen? ⟨b, o, none⟩ = false := by
  unfold Blk at h; simp [World.frozen?, h]
theorem Blk.ext {w : World} {b : Nat} {c : Array Value} {t : TypeId} (h : Blk w b c t) (x : Ext w) : Blk x.val b c t := (x.below.block b h.lt).trans h
theorem Blk.alloc {w : World} {b : Nat} {c : Array Value} {t : TypeId} (h : Blk w b c t) (o : Obj) : Blk (w.alloc o) b c t := (Below.heap_alloc _ _ _ h.lt).trans h
theorem Blk.new (w : World) (c : Array Value) (t : TypeId) : Blk (w.alloc (.cells c t)) w.heap.size c t := (MapKept.heap_alloc w _).1
theorem Blk.new_at (w : World) (c : Array Value) (t : TypeId) (b : Nat) (h : b = w.heap.size) : Blk (w.alloc (.cells c t)) b c t := by subst h; exact Blk.new w c t
theorem Blk.set {w : World} {b : Nat} {c : Array Value} {t : TypeId} (h : Blk w b c t) (o : Nat) (v : Value) : Blk (w.setCell ⟨b, o, none⟩ v) b (c.setIfInBounds o v) t := by
  unfold Blk at *
  simp [World.setCell, Array.getElem?_modify, h]
theorem Blk.set_ne {w : World} {b : Nat} {c : Array Value} {t : TypeId} (h : Blk w b c t) {b' : Nat} (hne : b ≠ b') (o : Nat) (v : Value) : Blk (w.setCell ⟨b', o, none⟩ v) b c t := by
  unfold Blk at *
  rw [Below.heap_setCell _ _ _ _ hne]; exact h
theorem Blk.drew {w : World} {b : Nat} {c : Array Value} {t : TypeId} (h : Blk w b c t) : Blk w.drew b c t := h
theorem Blk.grown {w w' : World} {b : Nat} {c : Array Value} {t : TypeId} (h : Blk w b c t) {row : Option Nat} (hg : w.grownBy w' row) (hr : row ≠ some b) : Blk w' b c t := by
  unfold Blk at *
  rw [hg.block b (Blk.lt h) (fun e => hr e.symm)]; exact h

theorem news_alloc (W : World) (cs : List Value) (t : TypeId) (b : Nat) (hb : b = W.heap.size) : ∀ (j : Nat) (u : Value), cs[j]? = some u → (W.alloc (.cells cs.toArray t)).cell? ((⟨b, 0, none⟩ : Addr).add j) = some u := by
  intro j u h
  subst hb
  have e : (⟨W.heap.size, 0, none⟩ : Addr).add j = ⟨W.heap.size, j, none⟩ := by
    unfold Addr.add; split
    · rename_i h0; subst h0; rfl
    · simp
  rw [e, World.cell?_alloc_new]
  simpa using h

/-- Owned rows over later worlds. -/
theorem ownsRow_ext {w : World} {base : Nat} {e : TypeId} {size : Nat} {v : Value} {n : Nat} {xs : List Value} (h : w.ownsRow base e size v n xs) (x : Ext w) : x.val.ownsRow base e size v n xs := by
  obtain ⟨h1, h2⟩ := h
  refine ⟨h1, h2.imp id ?_⟩
  rintro ⟨g, cap, cur, hv, hg, hh, r⟩
  exact ⟨g, cap, cur, hv, hg, by rw [x.below.block g (Array.getElem?_eq_some_iff.1 hh).1]; exact hh, r⟩

theorem ownsRow_open {w : World} {base : Nat} {e : TypeId} {size : Nat} {v : Value} {n : Nat} {xs : List Value} (h : w.ownsRow base e size v n xs) (hn : 0 < n) :
    ∃ g cap, v = .slice (some ⟨g, 0, none⟩) n cap ∧ base ≤ g ∧ n ≤ cap ∧ LtW g w ∧ (∀ j u, xs[j]? = some u → w.cell? ⟨g, j, none⟩ = some u) ∧ (∀ j, w.frozen? ⟨g, j, none⟩ = false) := by
  obtain ⟨h1, h2⟩ := h
  rcases h2 with ⟨_, h2⟩ | ⟨g, cap, cur, hv, hg, hh, hc, hm, hs, ht⟩
  · omega
  refine ⟨g, cap, hv, hg, hc, ⟨(Array.getElem?_eq_some_iff.1 hh).1⟩, fun j u hj => ?_, fun j => by simp [World.frozen?, hh]⟩
  simp only [World.cell?, hh, Option.isSome_none, Bool.false_eq_true, if_false]
  rw [← ht, List.getElem?_take] at hj
  split at hj
  · simpa using hj
  · cases hj

theorem ownsRow_setCell_ne {w : World} {base : Nat} {e : TypeId} {size : Nat} {v : Value} {n : Nat} {xs : List Value} (h : w.ownsRow base e size v n xs) {a : Addr} (ha : v.ownBlock ≠ some a.block) (u : Value) :
    (w.setCell a u).ownsRow base e size v n xs := by
  obtain ⟨h1, h2⟩ := h
  refine ⟨h1, h2.imp id ?_⟩
  rintro ⟨g, cap, cur, hv, hg, hh, r⟩
  refine ⟨g, cap, cur, hv, hg, ?_, r⟩
  rw [Below.heap_setCell _ _ _ _ (fun e => ha (by subst hv; simp [Value.ownBlock, e]))]
  exact hh

theorem ownsRow_mono {w : World} {base base' : Nat} {e : TypeId} {size : Nat} {v : Value} {n : Nat} {xs : List Value} (h : w.ownsRow base e size v n xs) (hb : base' ≤ base) : w.ownsRow base' e size v n xs := by
  obtain ⟨h1, h2⟩ := h
  refine ⟨h1, h2.imp id ?_⟩
  rintro ⟨g, cap, cur, hv, hg, r⟩
  exact ⟨g, cap, cur, hv, Nat.le_trans hb hg, r⟩

/-- A slice value that reads as n elements of 'size' cells each, the cells xs. -/
def Reads (w : World) (size : Nat) (v : Value) (n : Nat) (xs : List Value) : Prop :=
  xs.length = n * size ∧ n ≤ maxLen ∧
  ((v = .slice none 0 0 ∧ n = 0) ∨ ∃ g off cap, v = .slice (some ⟨g, off, none⟩) n cap ∧ n ≤ cap ∧ (0 < n → g < w.heap.size) ∧ ∀ (j : Nat) (u : Value), xs[j]? = some u → w.cell? ⟨g, off + j, none⟩ = some u)

theorem Reads.ext {w : World} {size : Nat} {v : Value} {n : Nat} {xs : List Value} (h : Reads w size v n xs) (x : Ext w) : Reads x.val size v n xs := by
  obtain ⟨h1, h2, h3⟩ := h
  refine ⟨h1, h2, h3.imp id ?_⟩
  rintro ⟨g, off, cap, hv, hc, hg, hx⟩
  refine ⟨g, off, cap, hv, hc, fun hn => Nat.lt_of_lt_of_le (hg hn) x.below.size, fun j u hj => ?_⟩
  have hn : 0 < n := by
    rcases Nat.eq_zero_or_pos n with h0 | h0
    · subst h0; simp at h1; subst h1; simp at hj
    · exact h0
  haveI : LtW g w := ⟨hg hn⟩
  rw [Ext.cell]
  exact hx j u hj

theorem Reads.of_own {w : World} {base : Nat} {e : TypeId} {size : Nat} {v : Value} {n : Nat} {xs : List Value} (h : w.ownsRow base e size v n xs) : Reads w size v n xs := by
  rcases Nat.eq_zero_or_pos n with hn | hn
  · obtain ⟨h1, h2⟩ := h
    refine ⟨h1, by omega, ?_⟩
    rcases h2 with h2 | ⟨g, cap, cur, hv, hg, hh, hc, hm, hs, ht⟩
    · exact .inl h2
    · subst hn
      simp at h1
      subst h1
      exact .inr ⟨g, 0, cap, hv, hc, fun h => by omega, fun j u hj => by simp at hj⟩
  · have hx := ownsRow_open h hn
    obtain ⟨h1, h2⟩ := h
    obtain ⟨g, cap, hv, hg, hc, hl, hx, _⟩ := hx
    refine ⟨h1, ?_, .inr ⟨g, 0, cap, hv, hc, fun _ => hl.out, fun j u hj => by simpa using hx j u hj⟩⟩
    rcases h2 with ⟨_, h2⟩ | ⟨g', cap', cur, hv', _, _, hc', hm', _⟩
    · omega
    · omega

end Go.Proofs.Ytkgganfbcfojcaa
