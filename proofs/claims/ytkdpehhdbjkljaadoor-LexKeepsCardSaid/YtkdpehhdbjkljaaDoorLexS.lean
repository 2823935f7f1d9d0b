/- strings.Split at a line's end, out of the shelf's contract. -/
import Derived.Test.YtkdpehhdbjkljaaDoorAvExt
import Derived.Test.YtkdpehhdbjkljaaDoorFacts
import Derived.Test.YtkdpehhdbjkljaaDoorShelf
namespace Go.Proofs.YtkdpehhdbjkljaaDoor
open Go.RowKit

theorem Fix.shaped {G : Gh} {w : World} (h : Fix G w) : w.ShapedOpen Tryd.prog := by
  obtain ⟨F, h1, h2⟩ := h
  exact h2 w (fun b o e => (h1 b o e).2.1)

/-- Cut at each line's end. -/
def splitNl (l : List UInt8) : List (List UInt8) := Lib.split l [10]

theorem splitB_nl (l : List UInt8) : (Lib.splitB ⟨#[10]⟩ 0 (Lib.countB ⟨l.toArray⟩ ⟨#[10]⟩) ⟨l.toArray⟩).map Value.string = (splitNl l).map fun s => Value.string ⟨s.toArray⟩ := by
  have h := Lib.splitB_data ⟨#[10]⟩ 0 (Lib.countB ⟨l.toArray⟩ ⟨#[10]⟩) ⟨l.toArray⟩
  have e : splitNl l = (Lib.splitB ⟨#[10]⟩ 0 (Lib.countB ⟨l.toArray⟩ ⟨#[10]⟩) ⟨l.toArray⟩).map (·.data.toList) := by
    rw [h]
    unfold splitNl Lib.split
    simp only [Lib.countB]
  rw [e, List.map_map]
  apply List.map_congr_left
  intro s _
  simp

theorem splitNl_len (l : List UInt8) : (splitNl l).length = l.count 10 + 1 := by
  have h := Lib.splitB_all ⟨#[10]⟩ (by decide) 0 _ ⟨l.toArray⟩ rfl
  have e : (splitNl l).length = (Lib.splitB ⟨#[10]⟩ 0 (Lib.countB ⟨l.toArray⟩ ⟨#[10]⟩) ⟨l.toArray⟩).length := by
    have := congrArg List.length (splitB_nl l)
    simpa using this.symm
  rw [e, h, Lib.countB, ← Lib.count_one]
theorem splitNl_le (l : List UInt8) : (splitNl l).length ≤ l.length + 1 := by
  rw [splitNl_len]; have := List.count_le_length (a := (10 : UInt8)) (l := l); omega

theorem splitNl_nil : splitNl [] = [[]] := rfl
theorem index_cons10 (r : List UInt8) : Lib.index (10 :: r) [10] = 0 := by unfold Lib.index; simp
theorem index_cons_ne {c : UInt8} (h : c ≠ 10) (r : List UInt8) : Lib.index (c :: r) [10] = if Lib.index r [10] == -1 then -1 else Lib.index r [10] + 1 := by
  rw [Lib.index, if_neg]
  simp [List.isPrefixOf, Ne.symm h]
theorem splitNl_10 (r : List UInt8) : splitNl (10 :: r) = [] :: splitNl r := by
  unfold splitNl Lib.split
  rw [Lib.count_cons_eq, Nat.add_comm, Lib.splitK, index_cons10]
  simp
theorem splitNl_ne {c : UInt8} (h : c ≠ 10) (r : List UInt8) : ∃ hd tl, splitNl r = hd :: tl ∧ splitNl (c :: r) = (c :: hd) :: tl := by
  unfold splitNl Lib.split
  rw [Lib.count_cons_ne c 10 r h]
  cases hk : Lib.count r [10] with
  | zero => exact ⟨r, [], rfl, rfl⟩
  | succ k =>
    have hi : ¬ (Lib.index r [10] == -1) = true := by
      intro e
      have := Lib.count_miss (beq_iff_eq.1 e)
      omega
    have hge := Lib.index_ge r [10]
    have hne : Lib.index r [10] ≠ -1 := fun e => hi (beq_iff_eq.2 e)
    obtain ⟨i, hi'⟩ : ∃ i : Nat, Lib.index r [10] = i := ⟨(Lib.index r [10]).toNat, by omega⟩
    refine ⟨r.take i, Lib.splitK [10] 0 k (r.drop (i + 1)), ?_, ?_⟩
    · rw [Lib.splitK, if_neg hi, hi']; simp
    · have hi2 : ¬ (Lib.index (c :: r) [10] == -1) = true := by rw [index_cons_ne h, if_neg hi, hi']; simp; omega
      have e2 : (Lib.index (c :: r) [10]).toNat = i + 1 := by rw [index_cons_ne h, if_neg hi, hi']; omega
      rw [Lib.splitK, if_neg hi2, e2]; simp

theorem splitNl_mem : ∀ (l : List UInt8) (k : Nat) (s : List UInt8), (splitNl l)[k]? = some s → s.length ≤ l.length
  | [], k, s, h => by
    rw [splitNl_nil] at h
    cases k with
    | zero => simp at h; subst h; simp
    | succ k => simp at h
  | c :: r, k, s, h => by
    by_cases hc : c = 10
    · subst hc
      rw [splitNl_10] at h
      cases k with
      | zero => simp at h; subst h; simp
      | succ k => have := splitNl_mem r k s (by simpa using h); simp; omega
    · obtain ⟨hd, tl, e1, e2⟩ := splitNl_ne hc r
      rw [e2] at h
      cases k with
      | zero =>
        simp at h; subst h
        have := splitNl_mem r 0 hd (by rw [e1]; rfl)
        simp; omega
      | succ k => have := splitNl_mem r (k + 1) s (by rw [e1]; simpa using h); simp; omega

theorem split_any (l : List UInt8) (hl : l.length ≤ 4294967280) (M : Nat → Option (List AV)) : ACall Tryd.prog 32 [.str l, .str [10]] M (fun r M' => r = .list true 9 ((splitNl l).map AV.str) ∧ M = M') := by
  have hlen1 : (splitNl l).length = Lib.countB ⟨l.toArray⟩ ⟨#[10]⟩ + 1 := by
    rw [splitNl_len, Lib.countB, ← Lib.count_one]
  have hcnt : (splitNl l).length ≤ l.length + 1 := splitNl_le l
  refine ACall.ofRow (size := 1) sizeOf_9 (fun x hx => ?_) (fun x hx c hc => ?_) ?_ ?_
  · obtain ⟨s, _, rfl⟩ := List.mem_map.1 hx; rfl
  · obtain ⟨s, _, rfl⟩ := List.mem_map.1 hx; simp [AV.cells] at hc; subst hc; rfl
  · rw [List.length_map]; unfold maxLen; omega
  · intro G w vs hm hfx hlen hrel
    obtain ⟨v, u, rfl, h1, h2⟩ := arg2 hlen hrel
    have e1 := relV_str h1
    have e2 := relV_str h2
    subst e1; subst e2
    refine ⟨_, strs_rel (splitNl l), (Tryd.strings_Split_shaped ⟨l.toArray⟩ ⟨#[10]⟩ w hfx.shaped (by rw [bsize]; omega) (by decide)).mono ?_⟩
    rintro e w' ⟨rfl, rfl⟩
    rw [splitB_nl]
    refine ⟨w.heap.size, _, _, by rw [List.length_map, hlen1], Nat.le_refl _, by simp, heap_new _ _, by rw [List.length_map, hlen1]; exact Nat.le_refl _, ?_, by simp [hlen1], ?_, (Below.refl _ _).alloc (Nat.le_refl _) _⟩
    · rw [← hlen1]; unfold maxLen; omega
    · rw [List.length_map, Nat.mul_one, List.take_of_length_le (by simp)]
end Go.Proofs.YtkdpehhdbjkljaaDoor
