/- strings.Split at a byte, out of the shelf's contract; strings.Cut at a byte; strings.CutSuffix. -/
import Derived.Test.YtlpihekflkjkfaaDoorAvExt
import Derived.Test.YtlpihekflkjkfaaDoorFacts
import Derived.Test.YtlpihekflkjkfaaDoorShelf
import Derived.Test.YtlpihekflkjkfaaDoorNumP
namespace Go.Proofs.YtlpihekflkjkfaaDoor
open Go.RowKit

theorem Fix.shaped {G : Gh} {w : World} (h : Fix G w) : w.ShapedOpen Tryd.prog := by
  obtain ⟨F, h1, h2⟩ := h
  exact (h2 w (fun b o e => (h1 b o e).2.1)).1

/-- Cut at each such byte. -/
def splitC (p : UInt8) (l : List UInt8) : List (List UInt8) := Lib.split l [p]

theorem splitB_c (p : UInt8) (l : List UInt8) : (Lib.splitB ⟨#[p]⟩ 0 (Lib.countB ⟨l.toArray⟩ ⟨#[p]⟩) ⟨l.toArray⟩).map Value.string = (splitC p l).map fun s => Value.string ⟨s.toArray⟩ := by
  have h := Lib.splitB_data ⟨#[p]⟩ 0 (Lib.countB ⟨l.toArray⟩ ⟨#[p]⟩) ⟨l.toArray⟩
  have e : splitC p l = (Lib.splitB ⟨#[p]⟩ 0 (Lib.countB ⟨l.toArray⟩ ⟨#[p]⟩) ⟨l.toArray⟩).map (·.data.toList) := by
    rw [h]
    unfold splitC Lib.split
    simp only [Lib.countB]
  rw [e, List.map_map]
  apply List.map_congr_left
  intro s _
  simp

theorem splitC_len (p : UInt8) (l : List UInt8) : (splitC p l).length = l.count p + 1 := by
  have h := Lib.splitB_all ⟨#[p]⟩ (by show 0 < (1 : Nat); decide) 0 _ ⟨l.toArray⟩ rfl
  have e : (splitC p l).length = (Lib.splitB ⟨#[p]⟩ 0 (Lib.countB ⟨l.toArray⟩ ⟨#[p]⟩) ⟨l.toArray⟩).length := by
    have := congrArg List.length (splitB_c p l)
    simpa using this.symm
  rw [e, h, Lib.countB, ← Lib.count_one]
theorem splitC_le (p : UInt8) (l : List UInt8) : (splitC p l).length ≤ l.length + 1 := by
  rw [splitC_len]; have := List.count_le_length (a := p) (l := l); omega

theorem splitC_nil (p : UInt8) : splitC p [] = [[]] := rfl
theorem index_consp (p : UInt8) (r : List UInt8) : Lib.index (p :: r) [p] = 0 := by unfold Lib.index; simp
theorem index_consp_ne {p c : UInt8} (h : c ≠ p) (r : List UInt8) : Lib.index (c :: r) [p] = if Lib.index r [p] == -1 then -1 else Lib.index r [p] + 1 := by
  rw [Lib.index, if_neg]
  simp [List.isPrefixOf, Ne.symm h]
theorem splitC_hit (p : UInt8) (r : List UInt8) : splitC p (p :: r) = [] :: splitC p r := by
  unfold splitC Lib.split
  rw [Lib.count_cons_eq, Nat.add_comm, Lib.splitK, index_consp]
  simp
theorem splitC_ne {p c : UInt8} (h : c ≠ p) (r : List UInt8) : ∃ hd tl, splitC p r = hd :: tl ∧ splitC p (c :: r) = (c :: hd) :: tl := by
  unfold splitC Lib.split
  rw [Lib.count_cons_ne c p r h]
  cases hk : Lib.count r [p] with
  | zero => exact ⟨r, [], rfl, rfl⟩
  | succ k =>
    have hi : ¬ (Lib.index r [p] == -1) = true := by
      intro e
      have := Lib.count_miss (beq_iff_eq.1 e)
      omega
    have hge := Lib.index_ge r [p]
    have hne : Lib.index r [p] ≠ -1 := fun e => hi (beq_iff_eq.2 e)
    obtain ⟨i, hi'⟩ : ∃ i : Nat, Lib.index r [p] = i := ⟨(Lib.index r [p]).toNat, by omega⟩
    refine ⟨r.take i, Lib.splitK [p] 0 k (r.drop (i + 1)), ?_, ?_⟩
    · rw [Lib.splitK, if_neg hi, hi']; simp
    · have hi2 : ¬ (Lib.index (c :: r) [p] == -1) = true := by rw [index_consp_ne h, if_neg hi, hi']; simp; omega
      have e2 : (Lib.index (c :: r) [p]).toNat = i + 1 := by rw [index_consp_ne h, if_neg hi, hi']; omega
      rw [Lib.splitK, if_neg hi2, e2]; simp

theorem splitC_mem (p : UInt8) : ∀ (l : List UInt8) (k : Nat) (s : List UInt8), (splitC p l)[k]? = some s → s.length ≤ l.length
  | [], k, s, h => by
    rw [splitC_nil] at h
    cases k with
    | zero => simp at h; subst h; simp
    | succ k => simp at h
  | c :: r, k, s, h => by
    by_cases hc : c = p
    · subst hc
      rw [splitC_hit] at h
      cases k with
      | zero => simp at h; subst h; simp
      | succ k => have := splitC_mem c r k s (by simpa using h); simp; omega
    · obtain ⟨hd, tl, e1, e2⟩ := splitC_ne hc r
      rw [e2] at h
      cases k with
      | zero =>
        simp at h; subst h
        have := splitC_mem p r 0 hd (by rw [e1]; rfl)
        simp; omega
      | succ k => have := splitC_mem p r (k + 1) s (by rw [e1]; simpa using h); simp; omega

theorem split_any (p : UInt8) (l : List UInt8) (hl : l.length ≤ 4294967280) (M : Nat → Option (List AV)) : ACall Tryd.prog 52 [.str l, .str [p]] M (fun r M' => r = .list true 9 ((splitC p l).map AV.str) ∧ M = M') := by
  have hlen1 : (splitC p l).length = Lib.countB ⟨l.toArray⟩ ⟨#[p]⟩ + 1 := by
    rw [splitC_len, Lib.countB, ← Lib.count_one]
  have hcnt : (splitC p l).length ≤ l.length + 1 := splitC_le p l
  refine ACall.ofRow (size := 1) sizeOf_9 (fun x hx => ?_) (fun x hx c hc => ?_) ?_ ?_
  · obtain ⟨s, _, rfl⟩ := List.mem_map.1 hx; rfl
  · obtain ⟨s, _, rfl⟩ := List.mem_map.1 hx; simp [AV.cells] at hc; subst hc; rfl
  · rw [List.length_map]; unfold maxLen; omega
  · intro G w vs hm hfx hlen hrel
    obtain ⟨v, u, rfl, h1, h2⟩ := arg2 hlen hrel
    have e1 := relV_str h1
    have e2 := relV_str h2
    subst e1; subst e2
    refine ⟨_, strs_rel (splitC p l), (Tryd.strings_Split_shaped ⟨l.toArray⟩ ⟨#[p]⟩ w hfx.shaped (by rw [bsize]; omega) (by show 0 < (1 : Nat); decide)).mono ?_⟩
    rintro e w' ⟨rfl, rfl⟩
    rw [splitB_c]
    refine ⟨w.heap.size, _, _, by rw [List.length_map, hlen1], Nat.le_refl _, by simp, heap_new _ _, by rw [List.length_map, hlen1]; exact Nat.le_refl _, ?_, by simp [hlen1], ?_, (Below.refl _ _).alloc (Nat.le_refl _) _⟩
    · rw [← hlen1]; unfold maxLen; omega
    · rw [List.length_map, Nat.mul_one, List.take_of_length_le (by simp)]
end Go.Proofs.YtlpihekflkjkfaaDoor
