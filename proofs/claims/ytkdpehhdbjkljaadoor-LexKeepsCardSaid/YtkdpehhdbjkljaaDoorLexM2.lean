/- The plain law of lex: what is joined is read again. No program in sight. -/
import Derived.Test.YtkdpehhdbjkljaaDoorLexM
namespace Go.Proofs.YtkdpehhdbjkljaaDoor

theorem blank32 : blankB ((32 : UInt8).toNat : Int) = true := rfl
theorem scan_blanks : ∀ (ws : List (List UInt8)), (∀ w ∈ ws, GoodW w) → ∀ n i, (scan n i (ws.flatMap fun v => 32 :: v)).map (·.text) = ws
  | [], _, n, i => by simp [scan_nil]
  | w :: r, h, n, i => by
    have hw := h w (List.mem_cons_self ..)
    have ih := scan_blanks r (fun v hv => h v (List.mem_cons_of_mem _ hv))
    rw [List.flatMap_cons, List.cons_append, scan_blank blank32, scan_wordS hw.1 hw.2.1 hw.2.2]
    · simp only [List.map_cons, ih]
    · intro c t e
      cases r with
      | nil => cases e
      | cons v t' => rw [List.flatMap_cons] at e; cases e; exact blank32
theorem scan_wT (ws : List (List UInt8)) (h : ∀ w ∈ ws, GoodW w) (n i : Nat) : (scan n i (wT ws)).map (·.text) = ws := by
  cases ws with
  | nil => simp [wT, scan_nil]
  | cons w r =>
    have hw := h w (List.mem_cons_self ..)
    have ih := scan_blanks r (fun v hv => h v (List.mem_cons_of_mem _ hv))
    rw [wT, scan_wordS hw.1 hw.2.1 hw.2.2]
    · simp only [List.map_cons, ih]
    · intro c t e
      cases r with
      | nil => cases e
      | cons v t' => rw [List.flatMap_cons] at e; cases e; exact blank32
theorem splitNl_one : ∀ (s : List UInt8), (10 : UInt8) ∉ s → splitNl s = [s]
  | [], _ => rfl
  | c :: r, h => by
    have ih := splitNl_one r (fun e => h (List.mem_cons_of_mem _ e))
    obtain ⟨hd, tl, e1, e2⟩ := splitNl_ne (c := c) (fun e => h (by rw [e]; exact List.mem_cons_self ..)) r
    rw [ih] at e1
    cases e1
    exact e2
theorem wT_mem {ws : List (List UInt8)} {c : UInt8} (h : c ∈ wT ws) : c = 32 ∨ ∃ w ∈ ws, c ∈ w := by
  cases ws with
  | nil => cases h
  | cons w r =>
    rw [wT, List.mem_append] at h
    rcases h with h | h
    · exact .inr ⟨w, List.mem_cons_self .., h⟩
    · obtain ⟨v, hv, hc⟩ := List.mem_flatMap.1 h
      rcases List.mem_cons.1 hc with rfl | hc
      · exact .inl rfl
      · exact .inr ⟨v, List.mem_cons_of_mem _ hv, hc⟩
/-- Words that may be joined: good ones, without lines' ends, of readable letters. -/
def JoinOk (x : List (List (List UInt8))) : Prop := ∀ ws ∈ x, ws ≠ [] ∧ ∀ w ∈ ws, GoodW w ∧ ∀ c ∈ w, c ≠ 10 ∧ okB (c.toNat : Int) = true
theorem splitNl_jT : ∀ (x : List (List (List UInt8))), JoinOk x → splitNl (jT x) = x.map wT ++ [[]]
  | [], _ => rfl
  | ws :: r, h => by
    have ih := splitNl_jT r (fun v hv => h v (List.mem_cons_of_mem _ hv))
    have e : jT (ws :: r) = wT ws ++ 10 :: jT r := by simp [jT]
    rw [e, splitNl_app, ih, splitNl_one]
    · rfl
    · intro hm
      rcases wT_mem hm with h1 | ⟨w, hw, hc⟩
      · cases h1
      · exact ((h ws (List.mem_cons_self ..)).2 w hw).2 10 hc |>.1 rfl
def relaid : Nat → List (List (List UInt8)) → List (List Field)
  | _, [] => []
  | n, ws :: r => scan n 0 (wT ws) :: relaid (n + 1) r
theorem lexFrom_wT : ∀ (x : List (List (List UInt8))) (n : Nat), JoinOk x → lexFrom n (x.map wT ++ [[]]) = relaid n x
  | [], n, _ => by simp [lexFrom, relaid, scan_nil]
  | ws :: r, n, h => by
    have ih := lexFrom_wT r (n + 1) (fun v hv => h v (List.mem_cons_of_mem _ hv))
    have hs := scan_wT ws (fun w hw => ((h ws (List.mem_cons_self ..)).2 w hw).1) n 0
    rw [List.map_cons, List.cons_append, lexFrom, ih, relaid, if_neg]
    intro e
    rw [List.length_eq_zero_iff.1 e] at hs
    exact (h ws (List.mem_cons_self ..)).1 hs.symm
theorem relaid_texts : ∀ (x : List (List (List UInt8))) (n : Nat), JoinOk x → textsOf (relaid n x) = x
  | [], n, _ => rfl
  | ws :: r, n, h => by
    have ih := relaid_texts r (n + 1) (fun v hv => h v (List.mem_cons_of_mem _ hv))
    have hs := scan_wT ws (fun w hw => ((h ws (List.mem_cons_self ..)).2 w hw).1) n 0
    simp only [textsOf] at ih
    simp only [relaid, textsOf, List.map_cons, hs, ih]
theorem relaid_line : ∀ (x : List (List (List UInt8))) (n i : Nat) (fs : List Field), (relaid n x)[i]? = some fs → ∀ f ∈ fs, f.line = n + i
  | [], n, i, fs, h => by cases h
  | ws :: r, n, 0, fs, h => by
    simp only [relaid, List.getElem?_cons_zero, Option.some.injEq] at h
    subst h
    intro f hf
    exact (scan_good _ _ _ f hf).2.1
  | ws :: r, n, i + 1, fs, h => by
    simp only [relaid, List.getElem?_cons_succ] at h
    intro f hf
    have := relaid_line r (n + 1) i fs h f hf
    omega
theorem lex_ok (b : List UInt8) : JoinOk (textsOf (lexLines b)) := by
  intro ws hws
  obtain ⟨fs, hfs, rfl⟩ := List.mem_map.1 hws
  obtain ⟨h1, h2⟩ := lex_good b fs hfs
  refine ⟨fun e => h1 (List.map_eq_nil_iff.1 e), fun w hw => ?_⟩
  obtain ⟨f, hf, rfl⟩ := List.mem_map.1 hw
  exact h2 f hf
theorem readable_jT {x : List (List (List UInt8))} (h : JoinOk x) (hl : (jT x).length ≤ 65536) : readableB (jT x) = true := by
  simp only [readableB, Bool.and_eq_true, decide_eq_true_eq]
  refine ⟨List.all_eq_true.2 (fun c hc => ?_), hl⟩
  obtain ⟨ws, hws, hc⟩ := List.mem_flatMap.1 hc
  rcases List.mem_append.1 hc with hc | hc
  · rcases wT_mem hc with rfl | ⟨w, hw, hc⟩
    · rfl
    · exact (((h ws hws).2 w hw).2 c hc).2
  · simp at hc; subst hc; rfl

/-- What is joined is read again. -/
structure Again (l m : List (List Field)) (s : List UInt8) : Prop where
  rd : readableB s = true
  len : m.length = l.length
  lens : ∀ i, (m.getD i []).length = (l.getD i []).length
  text : ∀ i k, ((m.getD i []).getD k f0).text = ((l.getD i []).getD k f0).text
  line : ∀ i k, i < m.length → k < (m.getD i []).length → ((m.getD i []).getD k f0).line = i + 1
  join : joinT m = s
theorem texts_at (x : List (List Field)) (i k : Nat) : ((x.getD i []).getD k f0).text = (((textsOf x).getD i []).getD k []) ∧ (x.getD i []).length = ((textsOf x).getD i []).length := by
  have e : (textsOf x).getD i [] = (x.getD i []).map (·.text) := by
    rw [textsOf, List.getD_eq_getElem?_getD, List.getElem?_map, List.getD_eq_getElem?_getD]
    cases x[i]? <;> rfl
  rw [e]
  generalize x.getD i [] = fs
  refine ⟨?_, by simp⟩
  rw [List.getD_eq_getElem?_getD, List.getD_eq_getElem?_getD, List.getElem?_map]
  cases fs[k]? <;> rfl
theorem again (b : List UInt8) (hb : b.length ≤ 5000) : Again (lexLines b) (lexLines (joinT (lexLines b))) (joinT (lexLines b)) := by
  have hok := lex_ok b
  have hlen := joinT_len b
  have hr : readableB (joinT (lexLines b)) = true := by
    rw [joinT_eq] at hlen ⊢
    exact readable_jT hok (by omega)
  have hm : lexLines (joinT (lexLines b)) = relaid 1 (textsOf (lexLines b)) := by
    rw [lexLines, hr, if_pos rfl, joinT_eq, splitNl_jT _ hok, lexFrom_wT _ _ hok]
  have ht : textsOf (lexLines (joinT (lexLines b))) = textsOf (lexLines b) := by rw [hm, relaid_texts _ _ hok]
  refine ⟨hr, ?_, fun i => ?_, fun i k => ?_, fun i k hi hk => ?_, ?_⟩
  · rw [← textsOf_len, ht, textsOf_len]
  · rw [(texts_at _ i 0).2, ht, ← (texts_at _ i 0).2]
  · rw [(texts_at _ i k).1, ht, ← (texts_at _ i k).1]
  · have h1 : (lexLines (joinT (lexLines b)))[i]? = some ((lexLines (joinT (lexLines b))).getD i []) := by
      rw [List.getD_eq_getElem?_getD, List.getElem?_eq_getElem hi]; rfl
    have h2 : ((lexLines (joinT (lexLines b))).getD i []).getD k f0 ∈ (lexLines (joinT (lexLines b))).getD i [] := by
      generalize (lexLines (joinT (lexLines b))).getD i [] = fs at hk
      rw [List.getD_eq_getElem?_getD, List.getElem?_eq_getElem hk]; exact List.getElem_mem _
    have h3 : (relaid 1 (textsOf (lexLines b)))[i]? = some ((lexLines (joinT (lexLines b))).getD i []) := by rw [← hm]; exact h1
    have := relaid_line _ 1 i _ h3 _ h2
    omega
  · rw [joinT_eq, ht, ← joinT_eq]

/-! Remarks. -/
def expand (note : List UInt8) (l : List UInt8) : List UInt8 := l.flatMap fun c => if c = 10 then 32 :: 35 :: note ++ [10] else [c]
theorem expand_snoc (note l : List UInt8) (c : UInt8) : expand note (l ++ [c]) = expand note l ++ (if c = 10 then 32 :: 35 :: note ++ [10] else [c]) := by simp [expand]
theorem expand_len (note l : List UInt8) : (expand note l).length ≤ l.length * (note.length + 3) := by
  induction l with
  | nil => simp [expand]
  | cons c r ih =>
    have e : expand note (c :: r) = (if c = 10 then 32 :: 35 :: note ++ [10] else [c]) ++ expand note r := by simp [expand]
    have : (if c = 10 then 32 :: 35 :: note ++ [10] else [c]).length ≤ note.length + 3 := by split <;> simp
    rw [e, List.length_append, List.length_cons, Nat.add_mul]
    omega
theorem splitNl_expand (note : List UInt8) (hn : (10 : UInt8) ∉ note) : ∀ (b : List UInt8), splitNl (expand note b ++ 32 :: 35 :: note) = (splitNl b).map (· ++ 32 :: 35 :: note)
  | [] => by
    have h : (10 : UInt8) ∉ (32 :: 35 :: note) := by simp; exact hn
    simp only [expand, List.flatMap_nil, List.nil_append, splitNl_nil, List.map_cons, List.map_nil]
    exact splitNl_one _ h
  | c :: r => by
    have ih := splitNl_expand note hn r
    by_cases hc : c = 10
    · subst hc
      have e : expand note (10 :: r) ++ 32 :: 35 :: note = (32 :: 35 :: note) ++ 10 :: (expand note r ++ 32 :: 35 :: note) := by simp [expand]
      have h : (10 : UInt8) ∉ (32 :: 35 :: note) := by simp; exact hn
      rw [e, splitNl_app, ih, splitNl_one _ h, splitNl_10]
      rfl
    · obtain ⟨hd, tl, e1, e2⟩ := splitNl_ne hc r
      obtain ⟨hd', tl', e3, e4⟩ := splitNl_ne hc (expand note r ++ 32 :: 35 :: note)
      have e : expand note (c :: r) ++ 32 :: 35 :: note = c :: (expand note r ++ 32 :: 35 :: note) := by simp [expand, hc]
      rw [e, e4, e2]
      rw [ih, e1] at e3
      cases e3
      rfl
theorem takeWhile_stop (p : UInt8 → Bool) (t : List UInt8) (x : UInt8) (hx : p x = false) : ∀ r : List UInt8, (r ++ x :: t).takeWhile p = r.takeWhile p ∧ (r ++ x :: t).dropWhile p = r.dropWhile p ++ x :: t
  | [] => by simp [hx]
  | c :: r => by
    have ih := takeWhile_stop p t x hx r
    cases h : p c <;> simp [h, ih]
theorem scan_remark_app (t : List UInt8) : ∀ (s : List UInt8) (n i : Nat), scan n i (s ++ 32 :: 35 :: t) = scan n i s := by
  refine scan_ind (P := fun n i s => scan n i (s ++ 32 :: 35 :: t) = scan n i s) ?_ ?_ ?_ ?_
  · intro n i; rw [List.nil_append, scan_blank blank32, scan_hash (c := 35) rfl rfl, scan_nil]
  · intro n i c r h ih; rw [List.cons_append, scan_blank h, scan_blank h, ih]
  · intro n i c r h h2; rw [List.cons_append, scan_hash h h2, scan_hash h h2]
  · intro n i c r h h2 ih
    obtain ⟨e1, e2⟩ := takeWhile_stop (fun (c : UInt8) => !blankB (c.toNat : Int)) (35 :: t) 32 rfl r
    rw [List.cons_append, scan_word h h2, scan_word h h2, e1, e2, ih]
theorem lexFrom_remarks (note : List UInt8) (ls : List (List UInt8)) : ∀ n, lexFrom n (ls.map (· ++ 32 :: 35 :: note)) = lexFrom n ls := by
  induction ls with
  | nil => intro n; rfl
  | cons s r ih => intro n; rw [List.map_cons, lexFrom, lexFrom, ih, scan_remark_app]
theorem all_ok_expand {note b : List UInt8} (hn : note.all (fun c => okB c.toNat) = true) (hb : b.all (fun c => okB c.toNat) = true) : (expand note b ++ 32 :: 35 :: note).all (fun c => okB c.toNat) = true := by
  refine List.all_eq_true.2 (fun c hc => ?_)
  have h2 : ∀ c ∈ (32 :: 35 :: note : List UInt8), okB (c.toNat : Int) = true := by
    intro c hc
    rcases List.mem_cons.1 hc with rfl | hc
    · rfl
    · rcases List.mem_cons.1 hc with rfl | hc
      · rfl
      · exact List.all_eq_true.1 hn c hc
  rcases List.mem_append.1 hc with hc | hc
  · obtain ⟨x, hx, hc⟩ := List.mem_flatMap.1 hc
    split at hc
    · rcases List.mem_append.1 hc with hc | hc
      · exact h2 c hc
      · simp at hc; subst hc; rfl
    · simp at hc; subst hc; exact List.all_eq_true.1 hb c hx
  · exact h2 c hc
def noteOf (c : List UInt8) : List UInt8 := c.filter fun x => x != 10
theorem noteOf_no (c : List UInt8) : (10 : UInt8) ∉ noteOf c := by simp [noteOf]
theorem noteOf_len (c : List UInt8) : (noteOf c).length ≤ c.length := List.length_filter_le _ _
theorem remarks {b c : List UInt8} (hb : readableB b = true) (hc : readableB c = true) (hcl : c.length ≤ 200) (hl : (expand (noteOf c) b).length ≤ 60000) : readableB (expand (noteOf c) b ++ 32 :: 35 :: noteOf c) = true ∧ lexLines (expand (noteOf c) b ++ 32 :: 35 :: noteOf c) = lexLines b := by
  have hnl := noteOf_len c
  have hr : readableB (expand (noteOf c) b ++ 32 :: 35 :: noteOf c) = true := by
    simp only [readableB, Bool.and_eq_true, decide_eq_true_eq] at hb hc ⊢
    refine ⟨all_ok_expand (List.all_eq_true.2 fun x hx => List.all_eq_true.1 hc.1 x ((List.mem_filter.1 hx).1)) hb.1, ?_⟩
    rw [List.length_append, List.length_cons, List.length_cons]; omega
  refine ⟨hr, ?_⟩
  rw [lexLines, hr, if_pos rfl, lexLines, hb, if_pos rfl, splitNl_expand _ (noteOf_no c), lexFrom_remarks]
end Go.Proofs.YtkdpehhdbjkljaaDoor
