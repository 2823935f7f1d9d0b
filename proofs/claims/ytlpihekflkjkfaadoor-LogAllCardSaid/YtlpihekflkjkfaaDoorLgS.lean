/- strings.Join over abstract values, out of the shelf's contract. -/
import Derived.Test.YtlpihekflkjkfaaDoorSplS
import Derived.Lib.Join
namespace Go.Proofs.YtlpihekflkjkfaaDoor
open Go.RowKit

theorem strs_cells (xs : List (List UInt8)) : (xs.map AV.str).flatMap AV.cells = xs.map AV.str := by
  induction xs with
  | nil => rfl
  | cons a r ih => rw [List.map_cons, List.flatMap_cons, ih]; rfl
theorem join_any (xs : List (List UInt8)) (sep : List UInt8) (hN : xs.length ≤ 140737488355328) (hlen : (Lib.join xs sep).length ≤ 140737488355328) (M : Nat → Option (List AV)) :
    ACall Tryd.prog 49 [.list false 9 (xs.map AV.str), .str sep] M (fun r M' => r = .str (Lib.join xs sep) ∧ M = M') := by
  refine ACall.ofBelow rfl ?_
  intro G w vs hm hfx hlen' hrel
  obtain ⟨v, u, rfl, h1, h2⟩ := arg2 hlen' hrel
  have e2 := relV_str h2
  subst e2
  generalize hy : xs.map AV.str = ys at h1
  cases h1 with
  | nil _ _ =>
    have hx : xs = [] := by simpa using hy
    subst hx
    refine (Tryd.strings_Join_none none 0 ⟨sep.toArray⟩ w).mono ?_
    rintro e w' ⟨rfl, rfl⟩
    exact ⟨_, rfl, .str [], Below.refl _ _⟩
  | zero _ b =>
    have hx : xs = [] := by simpa using hy
    subst hx
    refine (Tryd.strings_Join_none (some b) 0 ⟨sep.toArray⟩ w).mono ?_
    rintro e w' ⟨rfl, rfl⟩
    exact ⟨_, rfl, .str [], Below.refl _ _⟩
  | row _ _ _ b off cap size us hs hl hsc hcap hmax htip hc hr =>
    subst hy
    have hz : size = 1 := by
      have h := hs.symm.trans (sizeOf_9 : SizeOf _ _ _)
      injection h
    subst hz
    by_cases hx : xs = []
    · subst hx
      refine (Tryd.strings_Join_none (some ⟨b, off, none⟩) cap ⟨sep.toArray⟩ w).mono ?_
      rintro e w' ⟨rfl, rfl⟩
      exact ⟨_, rfl, .str [], Below.refl _ _⟩
    · have hcell : ∀ (j : Nat) x, (xs.map fun s => (⟨s.toArray⟩ : ByteArray))[j]? = some x → w.cell? ⟨b, off + j, none⟩ = some (.string x) := by
        intro j x hj
        rw [List.getElem?_map] at hj
        obtain ⟨s, hs', rfl⟩ := Option.map_eq_some_iff.1 hj
        have hj' : j < xs.length := (List.getElem?_eq_some_iff.1 hs').1
        rw [hc j (by rw [List.length_map]; omega)]
        have := hr j (.str s) (by rw [strs_cells, List.getElem?_map, hs']; rfl)
        rw [relV_str this]
      have h0 : 0 < xs.length := List.length_pos_iff.2 hx
      have hb0 := World.block_lt_of_cell? w _ (hcell 0 ⟨(xs[0]).toArray⟩ (by rw [List.getElem?_map, List.getElem?_eq_getElem h0]; rfl))
      have em : (xs.map fun s => (⟨s.toArray⟩ : ByteArray)).map (·.data.toList) = xs := by
        rw [List.map_map]; conv => rhs; rw [← List.map_id xs]
        apply List.map_congr_left; intro s _; simp
      have hl2 : (xs.map AV.str).length = (xs.map fun s => (⟨s.toArray⟩ : ByteArray)).length := by simp
      rw [hl2]
      refine (Tryd.strings_Join b off cap _ ⟨sep.toArray⟩ w hcell hb0 (by simpa using hN) (by simpa using hcap) (by rw [em]; exact hlen)).mono ?_
      rintro e w' ⟨rfl, hb⟩
      rw [em]
      exact ⟨_, rfl, .str _, hb⟩
end Go.Proofs.YtlpihekflkjkfaaDoor
