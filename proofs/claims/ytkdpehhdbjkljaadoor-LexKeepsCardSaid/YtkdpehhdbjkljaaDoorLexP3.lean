/- The plain law of lex: the same lines; lines that are joined. No program in sight. -/
import Derived.Test.YtkdpehhdbjkljaaDoorLexP2
namespace Go.Proofs.YtkdpehhdbjkljaaDoor

def f0 : Field := ⟨[], 0, 0⟩
theorem getD_map {α : Type} {f : α → AV} {l : List α} {j : Nat} {a : α} (h : j < l.length) : (l.map f)[j]? = some (f (l.getD j a)) := by
  rw [List.getElem?_map, List.getD_eq_getElem?_getD, List.getElem?_eq_getElem h]; rfl
theorem fieldEq (f g : Field) : (f.text == g.text && ((f.line : Int) == (g.line : Int) && ((f.col : Int) == (g.col : Int) && true))) = decide (f = g) := by
  obtain ⟨a, b, c⟩ := f
  obtain ⟨d, e, k⟩ := g
  rw [Bool.eq_iff_iff]
  simp only [Bool.and_eq_true, beq_iff_eq, decide_eq_true_eq, Field.mk.injEq, and_true, Int.ofNat_inj]

/-- Lists that are no longer than memory. -/
def Small (x : List (List Field)) : Prop := x.length ≤ 140737488355328 ∧ ∀ i, (x.getD i []).length ≤ 140737488355328
theorem same_len {x y : List (List Field)} (h : x.length ≠ y.length) : false = decide (x = y) := by
  symm; rw [decide_eq_false_iff_not]; intro e; exact h (by rw [e])
theorem same_in {x y : List (List Field)} {i : Nat} (h : (x.getD i []).length ≠ (y.getD i []).length) : false = decide (x = y) := by
  symm; rw [decide_eq_false_iff_not]; intro e; exact h (by rw [e])
theorem same_f {x y : List (List Field)} {i k : Nat} (h : ¬ (x.getD i []).getD k f0 = (y.getD i []).getD k f0) : false = decide (x = y) := by
  symm; rw [decide_eq_false_iff_not]; intro e; exact h (by rw [e])
theorem ext_getD {α : Type} {d : α} {x y : List α} (hl : x.length = y.length) (h : ∀ m, m < x.length → x.getD m d = y.getD m d) : x = y := by
  apply List.ext_getElem hl
  intro m h1 h2
  have := h m h1
  rw [List.getD_eq_getElem?_getD, List.getD_eq_getElem?_getD, List.getElem?_eq_getElem h1, List.getElem?_eq_getElem h2] at this
  exact this
theorem same_all {x y : List (List Field)} (hl : x.length = y.length) (h : ∀ m, m < x.length → x.getD m [] = y.getD m []) : true = decide (x = y) := by
  symm; rw [decide_eq_true_iff]; exact ext_getD hl h
theorem next_0 {p : Nat → Prop} {i : Nat} (h : ∀ m, m < i → p m) (hi : p i) : ∀ m, m < i + 1 → p m := by
  intro m hm
  rcases Nat.lt_or_ge m i with h1 | h1
  · exact h m h1
  · have : m = i := by omega
    subst this; exact hi

/-- A line's words, with blanks between. -/
def wordsT : List Field → List UInt8
  | [] => []
  | f :: r => f.text ++ r.flatMap fun g => 32 :: g.text
/-- Lines, joined. -/
def joinT (x : List (List Field)) : List UInt8 := x.flatMap fun fs => wordsT fs ++ [10]

theorem wordsT_snoc (fs : List Field) (f : Field) : wordsT (fs ++ [f]) = (if fs.length > 0 then wordsT fs ++ [32] else wordsT fs) ++ f.text := by
  cases fs with
  | nil => simp [wordsT]
  | cons a r => simp [wordsT]
theorem take_snoc {α : Type} {d : α} {l : List α} {k : Nat} (h : k < l.length) : l.take (k + 1) = l.take k ++ [l.getD k d] := by
  rw [List.take_succ_eq_append_getElem h, List.getD_eq_getElem?_getD, List.getElem?_eq_getElem h]; rfl
theorem joinT_snoc (x : List (List Field)) (fs : List Field) : joinT (x ++ [fs]) = joinT x ++ wordsT fs ++ [10] := by
  simp [joinT]
/-- What is joined so far: i lines, and k words of the next. -/
def joinAt (x : List (List Field)) (i k : Nat) : List UInt8 := joinT (x.take i) ++ wordsT ((x.getD i []).take k)
theorem joinAt_0 (x : List (List Field)) (i : Nat) : joinAt x i 0 = joinT (x.take i) := by simp [joinAt, wordsT]
theorem joinAt_word {x : List (List Field)} {i k : Nat} (hk : k < (x.getD i []).length) :
    joinAt x i (k + 1) = (if k > 0 then joinAt x i k ++ [32] else joinAt x i k) ++ ((x.getD i []).getD k f0).text := by
  unfold joinAt
  rw [take_snoc (d := f0) hk, wordsT_snoc]
  have : ((x.getD i []).take k).length = k := by rw [List.length_take]; omega
  rw [this]
  split <;> simp
theorem joinAt_line {x : List (List Field)} {i : Nat} (hi : i < x.length) : joinT (x.take (i + 1)) = joinAt x i (x.getD i []).length ++ [10] := by
  unfold joinAt
  rw [take_snoc (d := []) hi, joinT_snoc, List.take_length]
theorem joinT_le {x : List (List Field)} (i : Nat) : (joinT (x.take i)).length ≤ (joinT x).length := by
  have : joinT x = joinT (x.take i) ++ joinT (x.drop i) := by
    rw [joinT, joinT, joinT, ← List.flatMap_append, List.take_append_drop]
  rw [this, List.length_append]; omega
theorem joinAt_mono {x : List (List Field)} {i : Nat} : ∀ (d k : Nat), k + d = (x.getD i []).length → (joinAt x i k).length ≤ (joinAt x i (x.getD i []).length).length
  | 0, k, h => by rw [show k = (x.getD i []).length by omega]; exact Nat.le_refl _
  | d + 1, k, h => by
    have h1 := joinAt_mono (x := x) (i := i) d (k + 1) (by omega)
    have h2 : (joinAt x i k).length ≤ (joinAt x i (k + 1)).length := by
      rw [joinAt_word (by omega), List.length_append]
      split
      · rw [List.length_append]; omega
      · omega
    omega
theorem joinAt_le {x : List (List Field)} {i k : Nat} (hi : i < x.length) (hk : k ≤ (x.getD i []).length) : (joinAt x i k).length + 1 ≤ (joinT x).length := by
  have h1 := joinAt_mono (x := x) (i := i) ((x.getD i []).length - k) k (by omega)
  have h2 := joinT_le (x := x) (i + 1)
  rw [joinAt_line hi, List.length_append] at h2
  have : ([10] : List UInt8).length = 1 := rfl
  omega
theorem joinAt_le2 {x : List (List Field)} {i k : Nat} (hi : i < x.length) (hk : k < (x.getD i []).length) : (joinAt x i k).length + (if k > 0 then 1 else 0) + ((x.getD i []).getD k f0).text.length + 1 ≤ (joinT x).length := by
  have h1 := joinAt_le hi (show k + 1 ≤ (x.getD i []).length by omega)
  rw [joinAt_word hk, List.length_append] at h1
  split <;> rename_i h <;> simp only [h, if_true, if_false] at h1 <;> (try rw [List.length_append] at h1) <;> (try have : ([32] : List UInt8).length = 1 := rfl) <;> omega
theorem joinAt_pos {x : List (List Field)} {i k : Nat} (hk : k < (x.getD i []).length) (h : k > 0) : (joinAt x i k ++ [32]) ++ ((x.getD i []).getD k f0).text = joinAt x i (k + 1) := by
  rw [joinAt_word hk, if_pos h]
theorem joinAt_neg {x : List (List Field)} {i k : Nat} (hk : k < (x.getD i []).length) (h : ¬ k > 0) : joinAt x i k ++ ((x.getD i []).getD k f0).text = joinAt x i (k + 1) := by
  rw [joinAt_word hk, if_neg h]
theorem joinAt_end {x : List (List Field)} {i k : Nat} (hi : i < x.length) (hk : k ≤ (x.getD i []).length) (h : ¬ k < (x.getD i []).length) : joinAt x i k ++ [10] = joinT (x.take (i + 1)) := by
  rw [joinAt_line hi, show k = (x.getD i []).length by omega]
theorem join_done {x : List (List Field)} {i : Nat} (h1 : i ≤ x.length) (h : ¬ i < x.length) : joinT (x.take i) = joinT x := by
  rw [show i = x.length by omega, List.take_length]
end Go.Proofs.YtkdpehhdbjkljaaDoor
