/- The plain law of lex: words; texts one behind the other; what is joined is read again; remarks. No program in sight. -/
import Derived.Test.YtkdpehhdbjkljaaDoorLexP3
namespace Go.Proofs.YtkdpehhdbjkljaaDoor

theorem scan_ind {P : Nat → Nat → List UInt8 → Prop} (h0 : ∀ n i, P n i []) (hb : ∀ n i c r, blankB c.toNat = true → P n (i + 1) r → P n i (c :: r)) (hh : ∀ n i c r, blankB c.toNat = false → c.toNat = 35 → P n i (c :: r))
    (hw : ∀ n i c r, blankB c.toNat = false → c.toNat ≠ 35 → P n (i + 1 + (r.takeWhile (fun c => !blankB c.toNat)).length) (r.dropWhile (fun c => !blankB c.toNat)) → P n i (c :: r)) : ∀ s n i, P n i s := by
  intro s
  induction h : s.length using Nat.strongRecOn generalizing s with
  | _ m ih =>
    intro n i
    cases s with
    | nil => exact h0 n i
    | cons c r =>
      subst h
      cases hbl : blankB c.toNat with
      | true => exact hb n i c r hbl (ih r.length (by simp) r rfl n (i + 1))
      | false =>
        by_cases h35 : c.toNat = 35
        · exact hh n i c r hbl h35
        · have hl := (List.dropWhile_sublist (l := r) (fun c => !blankB c.toNat)).length_le
          exact hw n i c r hbl h35 (ih _ (by simp; omega) _ rfl n _)

/-- A line's words. -/
def words (s : List UInt8) : List (List UInt8) := (scan 0 0 s).map (·.text)
theorem scan_texts2 : ∀ (s : List UInt8) (n i : Nat), ∀ n' i', (scan n i s).map (·.text) = (scan n' i' s).map (·.text) := by
  refine scan_ind (P := fun n i s => ∀ n' i', (scan n i s).map (·.text) = (scan n' i' s).map (·.text)) ?_ ?_ ?_ ?_
  · intro n i n' i'; rw [scan_nil, scan_nil]
  · intro n i c r h ih n' i'; rw [scan_blank h, scan_blank h]; exact ih _ _
  · intro n i c r h h2 n' i'; rw [scan_hash h h2, scan_hash h h2]
  · intro n i c r h h2 ih n' i'
    rw [scan_word h h2, scan_word h h2]
    simp only [List.map_cons, List.cons.injEq, true_and]
    exact ih _ _
theorem scan_texts (s : List UInt8) (n i : Nat) : (scan n i s).map (·.text) = words s := scan_texts2 s n i 0 0

/-- A word: not empty; without blanks and lines' ends; no remark. -/
def GoodW (w : List UInt8) : Prop := w ≠ [] ∧ (∀ c ∈ w, blankB (c.toNat : Int) = false) ∧ (∀ c r, w = c :: r → c.toNat ≠ 35)
theorem scan_good : ∀ (s : List UInt8) (n i : Nat), ∀ f ∈ scan n i s, GoodW f.text ∧ f.line = n ∧ (∀ c ∈ f.text, c ∈ s) := by
  refine scan_ind (P := fun n i s => ∀ f ∈ scan n i s, GoodW f.text ∧ f.line = n ∧ (∀ c ∈ f.text, c ∈ s)) ?_ ?_ ?_ ?_
  · intro n i f hf; rw [scan_nil] at hf; cases hf
  · intro n i c r h ih f hf
    rw [scan_blank h] at hf
    obtain ⟨h1, h2, h3⟩ := ih f hf
    exact ⟨h1, h2, fun c hc => List.mem_cons_of_mem _ (h3 c hc)⟩
  · intro n i c r h h2 f hf; rw [scan_hash h h2] at hf; cases hf
  · intro n i c r h h2 ih f hf
    rw [scan_word h h2] at hf
    rcases List.mem_cons.1 hf with rfl | hf
    · refine ⟨⟨by simp, fun x hx => ?_, fun x t e => by cases e; exact h2⟩, rfl, fun x hx => ?_⟩
      · rcases List.mem_cons.1 hx with rfl | hx
        · exact h
        · have := List.all_eq_true.1 (List.all_takeWhile (p := fun (c : UInt8) => !blankB (c.toNat : Int)) (l := r)) x hx
          exact bnot_t this
      · rcases List.mem_cons.1 hx with rfl | hx
        · exact List.mem_cons_self ..
        · exact List.mem_cons_of_mem _ ((List.takeWhile_sublist _).mem hx)
    · obtain ⟨h3, h4, h5⟩ := ih f hf
      exact ⟨h3, h4, fun c hc => List.mem_cons_of_mem _ ((List.dropWhile_sublist _).mem (h5 c hc))⟩
theorem words_good (s : List UInt8) : ∀ w ∈ words s, GoodW w ∧ ∀ c ∈ w, c ∈ s := by
  intro w hw
  obtain ⟨f, hf, rfl⟩ := List.mem_map.1 hw
  obtain ⟨h1, _, h3⟩ := scan_good s 0 0 f hf
  exact ⟨h1, h3⟩

/-- Lines' texts. -/
def textsOf (x : List (List Field)) : List (List (List UInt8)) := x.map fun fs => fs.map (·.text)
theorem lexFrom_texts (ls : List (List UInt8)) : ∀ n, textsOf (lexFrom n ls) = (ls.map words).filter (fun ws => !ws.isEmpty) := by
  induction ls with
  | nil => intro n; rfl
  | cons s r ih =>
    intro n
    have hs := scan_texts s n 0
    rw [lexFrom, List.map_cons, List.filter_cons]
    by_cases h : (scan n 0 s).length = 0
    · have : words s = [] := by rw [← hs, List.length_eq_zero_iff.1 h]; rfl
      rw [if_pos h, this]
      simpa using ih (n + 1)
    · have : words s ≠ [] := by rw [← hs]; intro e; exact h (by simpa using congrArg List.length e)
      have h2 : (!(words s).isEmpty) = true := by cases hw : words s <;> simp_all
      rw [if_neg h, if_pos h2]
      simp only [textsOf, List.map_cons, hs]
      congr 1
      exact ih (n + 1)
theorem lexFrom_app (xs ys : List (List UInt8)) : ∀ n, lexFrom n (xs ++ ys) = lexFrom n xs ++ lexFrom (n + xs.length) ys := by
  induction xs with
  | nil => intro n; simp [lexFrom]
  | cons s r ih =>
    intro n
    rw [List.cons_append, lexFrom, lexFrom, ih (n + 1), List.length_cons, show n + 1 + r.length = n + (r.length + 1) by omega]
    split <;> simp
theorem textsOf_len (x : List (List Field)) : (textsOf x).length = x.length := by simp [textsOf]
theorem lexFrom_len (ls : List (List UInt8)) (n m : Nat) : (lexFrom n ls).length = (lexFrom m ls).length := by
  rw [← textsOf_len, ← textsOf_len (lexFrom m ls), lexFrom_texts, lexFrom_texts]

def wT : List (List UInt8) → List UInt8
  | [] => []
  | w :: r => w ++ r.flatMap fun v => 32 :: v
def jT (x : List (List (List UInt8))) : List UInt8 := x.flatMap fun ws => wT ws ++ [10]
theorem wordsT_eq (fs : List Field) : wordsT fs = wT (fs.map (·.text)) := by
  cases fs with
  | nil => rfl
  | cons f r => simp [wordsT, wT, List.flatMap_map]
theorem joinT_eq (x : List (List Field)) : joinT x = jT (textsOf x) := by
  simp [joinT, jT, textsOf, List.flatMap_map, wordsT_eq]
theorem jT_app (x y : List (List (List UInt8))) : jT (x ++ y) = jT x ++ jT y := by simp [jT]
theorem joinT_from (ls : List (List UInt8)) (n m : Nat) : joinT (lexFrom n ls) = joinT (lexFrom m ls) := by
  rw [joinT_eq, joinT_eq, lexFrom_texts, lexFrom_texts]

/-! Texts one behind the other. -/
theorem splitNl_app (a b : List UInt8) : splitNl (a ++ 10 :: b) = splitNl a ++ splitNl b := by
  induction a with
  | nil => rw [List.nil_append, splitNl_10, splitNl_nil]; rfl
  | cons c r ih =>
    by_cases hc : c = 10
    · subst hc
      rw [List.cons_append, splitNl_10, splitNl_10, ih]; rfl
    · obtain ⟨hd, tl, e1, e2⟩ := splitNl_ne hc (r ++ 10 :: b)
      obtain ⟨hd', tl', e3, e4⟩ := splitNl_ne hc r
      rw [List.cons_append, e2, e4]
      rw [ih, e3, List.cons_append] at e1
      cases e1
      rfl
theorem readable_app {a b : List UInt8} (ha : a.length ≤ 2000) (hb : b.length ≤ 2000) : readableB (a ++ 10 :: b) = (readableB a && readableB b) := by
  simp only [readableB]
  have h1 : decide ((a ++ 10 :: b).length ≤ 65536) = true := by simp; omega
  have h2 : decide (a.length ≤ 65536) = true := by simp; omega
  have h3 : decide (b.length ≤ 65536) = true := by simp; omega
  rw [h1, h2, h3]
  have h10 : okB ((10 : UInt8).toNat : Int) = true := rfl
  simp only [Bool.and_true, List.all_append, List.all_cons, h10, Bool.true_and]
theorem two_len {a b : List UInt8} (ha : a.length ≤ 2000) (hb : b.length ≤ 2000) (h1 : readableB a = true) (h2 : readableB b = true) : (lexLines (a ++ 10 :: b)).length = (lexLines a).length + (lexLines b).length := by
  simp only [lexLines, readable_app ha hb, h1, h2, Bool.and_self, if_true, splitNl_app, lexFrom_app, List.length_append]
  rw [lexFrom_len (splitNl b) _ 1]
theorem two_join {a b : List UInt8} (ha : a.length ≤ 2000) (hb : b.length ≤ 2000) (h1 : readableB a = true) (h2 : readableB b = true) : joinT (lexLines (a ++ 10 :: b)) = joinT (lexLines a) ++ joinT (lexLines b) := by
  simp only [lexLines, readable_app ha hb, h1, h2, Bool.and_self, if_true, splitNl_app, lexFrom_app]
  rw [← joinT_from (splitNl b) (1 + (splitNl a).length) 1]
  simp [joinT]

/-! The length of what is joined. -/
theorem wT_len (ws : List (List UInt8)) (h : ws ≠ []) : (wT ws).length + 1 = (ws.map fun w => w.length + 1).sum := by
  cases ws with
  | nil => exact absurd rfl h
  | cons w r =>
    simp only [wT, List.length_append, List.map_cons, List.sum_cons]
    have : ∀ (r : List (List UInt8)), (r.flatMap fun v => 32 :: v).length = (r.map fun w => w.length + 1).sum := by
      intro r; induction r with
      | nil => rfl
      | cons v t ih => simp only [List.flatMap_cons, List.length_append, List.length_cons, List.map_cons, List.sum_cons, ih]
    rw [this]; omega
theorem words_len2 : ∀ (s : List UInt8) (n i : Nat), ((scan n i s).map fun f => f.text.length + 1).sum ≤ s.length + 1 ∧ ((s = [] ∨ ∃ x t, s = x :: t ∧ blankB x.toNat = true) → ((scan n i s).map fun f => f.text.length + 1).sum ≤ s.length) := by
  refine scan_ind (P := fun n i s => ((scan n i s).map fun f => f.text.length + 1).sum ≤ s.length + 1 ∧ ((s = [] ∨ ∃ x t, s = x :: t ∧ blankB x.toNat = true) → ((scan n i s).map fun f => f.text.length + 1).sum ≤ s.length)) ?_ ?_ ?_ ?_
  · intro n i; rw [scan_nil]; simp
  · intro n i c r h ih
    rw [scan_blank h]
    have := ih.1
    simp only [List.length_cons]
    exact ⟨by omega, fun _ => by omega⟩
  · intro n i c r h h2; rw [scan_hash h h2]; simp
  · intro n i c r h h2 ih
    rw [scan_word h h2]
    simp only [List.map_cons, List.sum_cons, List.length_cons]
    have hl : (r.takeWhile (fun c => !blankB c.toNat)).length + (r.dropWhile (fun c => !blankB c.toNat)).length = r.length := by
      rw [← List.length_append, List.takeWhile_append_dropWhile]
    have hd : r.dropWhile (fun c => !blankB c.toNat) = [] ∨ ∃ x t, r.dropWhile (fun c => !blankB c.toNat) = x :: t ∧ blankB x.toNat = true := by
      cases hx : r.dropWhile (fun c => !blankB c.toNat) with
      | nil => exact .inl rfl
      | cons x t =>
        refine .inr ⟨x, t, rfl, ?_⟩
        have := List.head_dropWhile_not (fun (c : UInt8) => !blankB (c.toNat : Int)) (l := r) (by rw [hx]; simp)
        simp only [hx, List.head_cons] at this
        exact bnot_f this
    have := ih.2 hd
    refine ⟨by omega, fun h3 => ?_⟩
    rcases h3 with h3 | ⟨x, t, h3, h4⟩
    · cases h3
    · cases h3; rw [h] at h4; cases h4
theorem words_len (s : List UInt8) (n i : Nat) : ((scan n i s).map fun f => f.text.length + 1).sum ≤ s.length + 1 := (words_len2 s n i).1
theorem wordsT_len (s : List UInt8) (n i : Nat) : (wordsT (scan n i s)).length ≤ s.length := by
  have h := words_len s n i
  rw [wordsT_eq]
  by_cases h0 : (scan n i s).map (·.text) = []
  · rw [h0]; exact Nat.zero_le _
  · have := wT_len _ h0
    rw [List.map_map] at this
    have e : ((scan n i s).map ((fun (w : List UInt8) => w.length + 1) ∘ fun x => x.text)).sum = ((scan n i s).map fun f => f.text.length + 1).sum := rfl
    omega
/-- What is joined is no longer than the text, but for one line's end. -/
theorem joinT_from_len (ls : List (List UInt8)) : ∀ n, (joinT (lexFrom n ls)).length ≤ (ls.map fun s => s.length + 1).sum := by
  induction ls with
  | nil => intro n; exact Nat.zero_le _
  | cons s r ih =>
    intro n
    have h1 := ih (n + 1)
    have h2 := wordsT_len s n 0
    rw [lexFrom]
    simp only [List.map_cons, List.sum_cons]
    split
    · omega
    · simp only [joinT, List.flatMap_cons, List.length_append] at h1 ⊢
      have : ([10] : List UInt8).length = 1 := rfl
      omega
theorem splitNl_sum : ∀ (l : List UInt8), ((splitNl l).map fun s => s.length + 1).sum = l.length + 1
  | [] => rfl
  | c :: r => by
    have ih := splitNl_sum r
    by_cases hc : c = 10
    · subst hc; rw [splitNl_10]; simp only [List.map_cons, List.sum_cons, List.length_nil, List.length_cons]; omega
    · obtain ⟨hd, tl, e1, e2⟩ := splitNl_ne hc r
      rw [e1] at ih
      rw [e2]
      simp only [List.map_cons, List.sum_cons, List.length_cons] at ih ⊢
      omega
theorem joinT_len (l : List UInt8) : (joinT (lexLines l)).length ≤ l.length + 1 := by
  unfold lexLines
  split
  · rw [← splitNl_sum]; exact joinT_from_len _ _
  · exact Nat.zero_le _
theorem join_small (l : List UInt8) : (joinT (lexLines l)).length ≤ 65537 := by
  by_cases h : readableB l = true
  · have := readable_len h; have := joinT_len l; omega
  · simp only [lexLines, h, if_false]; exact Nat.zero_le _

theorem lexFrom_mem (ls : List (List UInt8)) : ∀ n, ∀ fs ∈ lexFrom n ls, ∃ s ∈ ls, ∃ m, fs = scan m 0 s ∧ fs ≠ [] := by
  induction ls with
  | nil => intro n fs h; cases h
  | cons s r ih =>
    intro n fs h
    rw [lexFrom] at h
    split at h
    · obtain ⟨s', h1, h2⟩ := ih _ fs h; exact ⟨s', List.mem_cons_of_mem _ h1, h2⟩
    · rename_i h0
      rcases List.mem_cons.1 h with rfl | h
      · exact ⟨s, List.mem_cons_self .., n, rfl, fun e => h0 (by rw [e]; rfl)⟩
      · obtain ⟨s', h1, h2⟩ := ih _ fs h; exact ⟨s', List.mem_cons_of_mem _ h1, h2⟩
/-- A line's end stands in no line. -/
theorem splitNl_no10 : ∀ (l : List UInt8), ∀ s ∈ splitNl l, (10 : UInt8) ∉ s
  | [], s, h => by rw [splitNl_nil] at h; simp at h; subst h; simp
  | c :: r, s, h => by
    have ih := splitNl_no10 r
    by_cases hc : c = 10
    · subst hc
      rw [splitNl_10] at h
      rcases List.mem_cons.1 h with rfl | h
      · simp
      · exact ih s h
    · obtain ⟨hd, tl, e1, e2⟩ := splitNl_ne hc r
      rw [e2] at h
      rw [e1] at ih
      rcases List.mem_cons.1 h with rfl | h
      · intro hm
        rcases List.mem_cons.1 hm with e | e
        · exact hc e.symm
        · exact ih hd (List.mem_cons_self ..) e
      · exact ih s (List.mem_cons_of_mem _ h)
theorem splitNl_sub : ∀ (l : List UInt8), ∀ s ∈ splitNl l, ∀ c ∈ s, c ∈ l
  | [], s, h, c, hc => by rw [splitNl_nil] at h; simp at h; subst h; cases hc
  | x :: r, s, h, c, hc => by
    have ih := splitNl_sub r
    by_cases hx : x = 10
    · subst hx
      rw [splitNl_10] at h
      rcases List.mem_cons.1 h with rfl | h
      · cases hc
      · exact List.mem_cons_of_mem _ (ih s h c hc)
    · obtain ⟨hd, tl, e1, e2⟩ := splitNl_ne hx r
      rw [e2] at h
      rw [e1] at ih
      rcases List.mem_cons.1 h with rfl | h
      · rcases List.mem_cons.1 hc with rfl | hc
        · exact List.mem_cons_self ..
        · exact List.mem_cons_of_mem _ (ih hd (List.mem_cons_self ..) c hc)
      · exact List.mem_cons_of_mem _ (ih s (List.mem_cons_of_mem _ h) c hc)
theorem lex_good (l : List UInt8) : ∀ fs ∈ lexLines l, fs ≠ [] ∧ ∀ f ∈ fs, GoodW f.text ∧ (∀ c ∈ f.text, c ≠ 10 ∧ okB (c.toNat : Int) = true) := by
  intro fs h
  unfold lexLines at h
  split at h
  · rename_i hr
    obtain ⟨s, hs, m, rfl, h0⟩ := lexFrom_mem _ _ fs h
    refine ⟨h0, fun f hf => ?_⟩
    obtain ⟨h1, _, h3⟩ := scan_good s m 0 f hf
    refine ⟨h1, fun c hc => ⟨fun e => ?_, ?_⟩⟩
    · subst e; exact splitNl_no10 l s hs (h3 _ hc)
    · simp only [readableB, Bool.and_eq_true] at hr
      exact List.all_eq_true.1 hr.1 c (splitNl_sub l s hs c (h3 c hc))
  · cases h
theorem lex_ne (l : List UInt8) (i k : Nat) (hi : i < (lexLines l).length) (hk : k < ((lexLines l).getD i []).length) : (((lexLines l).getD i []).getD k f0).text ≠ [] := by
  have h1 : (lexLines l).getD i [] ∈ lexLines l := by rw [List.getD_eq_getElem?_getD, List.getElem?_eq_getElem hi]; exact List.getElem_mem _
  have h2 : ((lexLines l).getD i []).getD k f0 ∈ (lexLines l).getD i [] := by
    generalize (lexLines l).getD i [] = fs at hk
    rw [List.getD_eq_getElem?_getD, List.getElem?_eq_getElem hk]; exact List.getElem_mem _
  exact ((lex_good l _ h1).2 _ h2).1.1
end Go.Proofs.YtkdpehhdbjkljaaDoor
