/- Abstract values: what is built, boxed, stored, converted. -/
import Derived.Test.YtfnbfkgknfagmaaAvFun
namespace Go.Proofs.Ytfnbfkgknfagmaa
open Go.RowKit

def fillA (place : Nat → Option (Nat × Nat)) : List AV → List (Nat × AV) → Option (List AV)
  | cells, [] => some cells
  | cells, (i, x) :: r =>
    match place i with
    | none => none
    | some (off, size) => if x.cells.length = size ∧ off + size ≤ cells.length then fillA place (cells.take off ++ x.cells ++ cells.drop (off + size)) r else none

/-- Cells that lie side by side read as they should. -/
def RelL (P : Program) (G : Gh) (w : World) (cs : List AV) (vs : List Value) : Prop :=
  vs.length = cs.length ∧ ∀ (j : Nat) c u, cs[j]? = some c → vs[j]? = some u → RelV P G w c u

/-- A part: one cell, or cells. -/
def AV.part : AV → Bool
  | .agg cs => cs.all AV.scalar
  | a => a.scalar

section
variable {P : Program} {G : Gh} {w : World}

theorem RelL.app {a b : List AV} {u v : List Value} (h : RelL P G w a u) (k : RelL P G w b v) : RelL P G w (a ++ b) (u ++ v) :=
  ⟨by simp [h.1, k.1], rel_app h.1 h.2 k.2⟩
theorem RelL.take {a : List AV} {u : List Value} (h : RelL P G w a u) (n : Nat) : RelL P G w (a.take n) (u.take n) := by
  refine ⟨by simp [h.1], fun j c x h1 h2 => ?_⟩
  rw [List.getElem?_take] at h1 h2
  split at h1
  · rw [if_pos ‹_›] at h2; exact h.2 j c x h1 h2
  · cases h1
theorem RelL.drop {a : List AV} {u : List Value} (h : RelL P G w a u) (n : Nat) : RelL P G w (a.drop n) (u.drop n) := by
  refine ⟨by simp [h.1], fun j c x h1 h2 => ?_⟩
  rw [List.getElem?_drop] at h1 h2
  exact h.2 _ c x h1 h2

theorem RelV.cells {x : AV} {v : Value} (h : RelV P G w x v) (hp : x.part = true) : RelL P G w x.cells v.cells.toList ∧ ∀ u ∈ v.cells.toList, u.oneCell' = true := by
  have key : ∀ (x : AV) v, RelV P G w x v → x.scalar = true → v.cells = #[v] := by
    intro x v h hs
    have := h.oneCell hs
    cases v <;> first | rfl | cases this
  cases h with
  | agg cs vs hl hr =>
    refine ⟨⟨by simpa [Value.cells, AV.cells] using hl, by simpa [Value.cells, AV.cells] using hr⟩, fun u hu => ?_⟩
    simp only [Value.cells] at hu
    obtain ⟨j, hj, rfl⟩ := List.mem_iff_getElem.1 hu
    have e2 : vs[j]? = some vs[j] := List.getElem?_eq_getElem (by simpa using hj)
    have hj' : j < cs.length := by rw [← hl]; simpa using hj
    have e1 : cs[j]? = some cs[j] := List.getElem?_eq_getElem hj'
    exact (hr j _ _ e1 e2).oneCell (by
      have : cs.all AV.scalar = true := hp
      exact List.all_eq_true.1 this _ (List.getElem_mem _))
  | any v => cases hp
  | gmap id b h => cases hp
  | tuple cs vs hl hr => cases hp
  | lit v =>
    have e := key _ _ (.lit v : RelV P G w (.lit v) v) hp
    rw [e]
    exact ⟨⟨rfl, fun j c u h1 h2 => by cases j with
      | zero => simp [AV.cells] at h1 h2; subst h1; subst h2; exact .lit _
      | succ j => simp [AV.cells] at h1⟩, fun u hu => by simp at hu; subst hu; exact hp⟩
  | str l => exact ⟨⟨rfl, fun j c u h1 h2 => by cases j with
      | zero => simp [AV.cells, Value.cells] at h1 h2; subst h1; subst h2; exact .str _
      | succ j => simp [AV.cells] at h1⟩, fun u hu => by simp [Value.cells] at hu; subst hu; rfl⟩
  | gptr id off b hb => exact ⟨⟨rfl, fun j c u h1 h2 => by cases j with
      | zero => simp [AV.cells, Value.cells] at h1 h2; subst h1; subst h2; exact .gptr _ _ _ hb
      | succ j => simp [AV.cells] at h1⟩, fun u hu => by simp [Value.cells] at hu; subst hu; rfl⟩
  | nil o E => exact ⟨⟨rfl, fun j c u h1 h2 => by cases j with
      | zero => simp [AV.cells, Value.cells] at h1 h2; subst h1; subst h2; exact .nil _ _
      | succ j => simp [AV.cells] at h1⟩, fun u hu => by simp [Value.cells] at hu; subst hu; rfl⟩
  | zero E a => exact ⟨⟨rfl, fun j c u h1 h2 => by cases j with
      | zero => simp [AV.cells, Value.cells] at h1 h2; subst h1; subst h2; exact .zero _ _
      | succ j => simp [AV.cells] at h1⟩, fun u hu => by simp [Value.cells] at hu; subst hu; rfl⟩
  | row o E xs b off cap size us hs hl hsc hcap hmax htip hc hr => exact ⟨⟨rfl, fun j c u h1 h2 => by cases j with
      | zero => simp [AV.cells, Value.cells] at h1 h2; subst h1; subst h2; exact .row o E xs b off cap size us hs hl hsc hcap hmax htip hc hr
      | succ j => simp [AV.cells] at h1⟩, fun u hu => by simp [Value.cells] at hu; subst hu; rfl⟩
  | fn f cap vs hl hr => exact ⟨⟨rfl, fun j c u h1 h2 => by cases j with
      | zero => simp [AV.cells, Value.cells] at h1 h2; subst h1; subst h2; exact .fn f cap vs hl hr
      | succ j => simp [AV.cells] at h1⟩, fun u hu => by simp [Value.cells] at hu; subst hu; rfl⟩

theorem foldl_splice (off : Nat) : ∀ (vs : List Value) (k : Nat) (arr : Array Value), off + k + vs.length ≤ arr.size →
    ((vs.zipIdx k).foldl (fun cs (x : Value × Nat) => cs.setIfInBounds (off + x.2) x.1) arr).toList = arr.toList.take (off + k) ++ vs ++ arr.toList.drop (off + k + vs.length)
  | [], k, arr, _ => by simp
  | v :: vs, k, arr, h => by
    simp only [List.length_cons] at h
    rw [List.zipIdx_cons, List.foldl_cons, foldl_splice off vs (k + 1) _ (by simp; omega)]
    simp only [Array.toList_setIfInBounds, List.length_cons]
    rw [show off + (k + 1) = off + k + 1 by omega, show off + k + 1 + vs.length = off + k + (vs.length + 1) by omega]
    rw [List.drop_set_of_lt (by omega), List.take_succ_eq_append_getElem (by simp; omega)]
    rw [List.take_set_of_le (Nat.le_refl _)]
    simp

theorem fill_rel (place : Nat → Option (Nat × Nat)) : ∀ (ps : List (Nat × AV)) (pv : List (Nat × Value)) (cells : List AV) (arr : Array Value) (out : List AV),
    pv.length = ps.length → (∀ (j : Nat) p q, ps[j]? = some p → pv[j]? = some q → p.1 = q.1 ∧ RelV P G w p.2 q.2 ∧ p.2.part = true) → RelL P G w cells arr.toList → fillA place cells ps = some out →
    ∃ arr', Instr.fill place arr pv = some arr' ∧ RelL P G w out arr'.toList
  | [], pv, cells, arr, out, hl, _, hc, hf => by
    have : pv = [] := List.length_eq_zero_iff.1 hl
    subst this
    simp only [fillA, Option.some.injEq] at hf
    subst hf
    exact ⟨arr, rfl, hc⟩
  | (i, x) :: ps, pv, cells, arr, out, hl, hr, hc, hf => by
    cases pv with
    | nil => cases hl
    | cons q pv =>
      obtain ⟨h1, h2, h3⟩ := hr 0 (i, x) q rfl rfl
      obtain ⟨i', v⟩ := q
      simp only at h1 h2 h3
      subst h1
      simp only [fillA] at hf
      cases hp : place i with
      | none => simp [hp] at hf
      | some os =>
        obtain ⟨off, size⟩ := os
        simp only [hp] at hf
        split at hf
        · rename_i hk
          obtain ⟨hrc, hone⟩ := h2.cells h3
          have e1 : v.cells.size = size := by have := hrc.1; simp at this; omega
          have e2 : arr.size = cells.length := by have := hc.1; simpa using this
          have hsp := foldl_splice off v.cells.toList 0 arr (by simp; omega)
          simp only [Nat.add_zero] at hsp
          have hrec := fill_rel place ps pv (cells.take off ++ x.cells ++ cells.drop (off + size)) (v.cells.zipIdx.foldl (fun cs (c, j) => cs.setIfInBounds (off + j) c) arr) out (by simpa using hl)
            (fun j p q hp hq => hr (j + 1) p q (by simpa using hp) (by simpa using hq)) (by
              have e3 : (v.cells.zipIdx.foldl (fun cs (c, j) => cs.setIfInBounds (off + j) c) arr).toList = arr.toList.take off ++ v.cells.toList ++ arr.toList.drop (off + v.cells.toList.length) := by
                rw [← hsp, ← Array.foldl_toList]
                congr 2
                simp [Array.toList_zipIdx]
              rw [e3]
              have e4 : v.cells.toList.length = size := by simpa using e1
              rw [e4]
              exact ((hc.take off).app hrc).app (hc.drop _)) hf
          obtain ⟨arr', hfill, hrel⟩ := hrec
          refine ⟨arr', ?_, hrel⟩
          simp only [Instr.fill, hp]
          have : ¬ (v.cells.size ≠ size || decide (off + v.cells.size > arr.size)) = true := by simp; omega
          rw [if_neg (by simpa using this)]
          exact hfill
        · cases hf
end
end Go.Proofs.Ytfnbfkgknfagmaa
