/- The plain law of lex: where the fields stand. No program in sight. -/
import Derived.Test.YtkdpehhdbjkljaaDoorLexM2
namespace Go.Proofs.YtkdpehhdbjkljaaDoor

theorem splitNl_head {d s : List UInt8} {r : List (List UInt8)} (h : splitNl d = s :: r) : (r = [] ∧ d = s) ∨ ∃ d', d = s ++ 10 :: d' ∧ splitNl d' = r := by
  induction d generalizing s r with
  | nil => rw [splitNl_nil] at h; cases h; exact .inl ⟨rfl, rfl⟩
  | cons c t ih =>
    by_cases hc : c = 10
    · subst hc
      rw [splitNl_10] at h
      cases h
      exact .inr ⟨t, rfl, rfl⟩
    · obtain ⟨hd, tl, e1, e2⟩ := splitNl_ne hc t
      rw [e2] at h
      cases h
      rcases ih e1 with ⟨h1, h2⟩ | ⟨d', h1, h2⟩
      · exact .inl ⟨h1, by rw [h2]⟩
      · exact .inr ⟨d', by rw [h1]; rfl, h2⟩

/-- Place q of the text stands in line n, which begins at bg. -/
structure PInv (b : List UInt8) (n bg q : Nat) : Prop where
  one : 1 ≤ n
  le : bg ≤ q
  row : ∃ s r, splitNl (b.drop bg) = s :: r ∧ (splitNl b).drop (n - 1) = s :: r ∧ q ≤ bg + s.length
  bgl : bg ≤ b.length

theorem PInv.start (b : List UInt8) : PInv b 1 0 0 := by
  refine ⟨Nat.le_refl _, Nat.le_refl _, ?_, Nat.zero_le _⟩
  cases h : splitNl b with
  | nil => exact absurd h (splitNl_ne_nil b)
  | cons s r => exact ⟨s, r, by simpa using h, by simp, Nat.zero_le _⟩
theorem drop_getD (b : List UInt8) (x j : Nat) : (b.drop x).getD j 0 = b.getD (x + j) 0 := by
  rw [List.getD_eq_getElem?_getD, List.getElem?_drop, ← List.getD_eq_getElem?_getD]
theorem no10_at {s : List UInt8} (h : (10 : UInt8) ∉ s) {j : Nat} (hj : j < s.length) : (s.getD j 0).toNat ≠ 10 := by
  intro e
  have e2 : s.getD j 0 = 10 := UInt8.toNat_inj.1 e
  rw [List.getD_eq_getElem?_getD, List.getElem?_eq_getElem hj] at e2
  exact h (by have := List.getElem_mem hj; rw [show s[j] = 10 from e2] at this; exact this)
theorem PInv.stay {b : List UInt8} {n bg q : Nat} (h : PInv b n bg q) (hq : q < b.length) (hc : ¬ (b.getD q 0).toNat = 10) : PInv b n bg (q + 1) := by
  obtain ⟨s, r, h1, h2, h3⟩ := h.row
  refine ⟨h.one, by have := h.le; omega, ⟨s, r, h1, h2, ?_⟩, h.bgl⟩
  have hle := h.le
  rcases Nat.lt_or_ge q (bg + s.length) with h4 | h4
  · omega
  · exfalso
    rcases splitNl_head h1 with ⟨_, h5⟩ | ⟨d', h5, _⟩
    · have := congrArg List.length h5; simp at this; omega
    · have e : b.getD q 0 = (b.drop bg).getD s.length 0 := by rw [drop_getD]; congr 1; omega
      rw [e, h5] at hc
      simp at hc
theorem PInv.next {b : List UInt8} {n bg q : Nat} (h : PInv b n bg q) (hq : q < b.length) (hc : (b.getD q 0).toNat = 10) : PInv b (n + 1) (q + 1) (q + 1) := by
  obtain ⟨s, r, h1, h2, h3⟩ := h.row
  have hle := h.le
  have hone := h.one
  have h10 : (10 : UInt8) ∉ s := splitNl_no10 _ s (by rw [h1]; exact List.mem_cons_self ..)
  have hqs : q = bg + s.length := by
    rcases Nat.lt_or_ge q (bg + s.length) with h4 | h4
    · exfalso
      have e : b.getD q 0 = (b.drop bg).getD (q - bg) 0 := by rw [drop_getD]; congr 1; omega
      have hs : (b.drop bg).getD (q - bg) 0 = s.getD (q - bg) 0 := by
        rcases splitNl_head h1 with ⟨_, h5⟩ | ⟨d', h5, _⟩
        · rw [h5]
        · rw [h5, List.getD_eq_getElem?_getD, List.getElem?_append_left (by omega), ← List.getD_eq_getElem?_getD]
      rw [e, hs] at hc
      exact no10_at h10 (by omega) hc
    · omega
  rcases splitNl_head h1 with ⟨_, h5⟩ | ⟨d', h5, h6⟩
  · have := congrArg List.length h5; simp at this; omega
  · have hd : b.drop (q + 1) = d' := by
      have : b.drop (q + 1) = (b.drop bg).drop (s.length + 1) := by rw [List.drop_drop]; congr 1; omega
      rw [this, h5]; simp
    have hdr : (splitNl b).drop (n + 1 - 1) = r := by
      have : (splitNl b).drop (n + 1 - 1) = ((splitNl b).drop (n - 1)).drop 1 := by rw [List.drop_drop]; congr 1; omega
      rw [this, h2]; rfl
    refine ⟨by omega, Nat.le_refl _, ?_, by omega⟩
    cases hr : r with
    | nil => rw [hr] at h6; exact absurd h6 (splitNl_ne_nil d')
    | cons s' r' => exact ⟨s', r', by rw [hd, h6, hr], by rw [hdr, hr], Nat.le_add_right _ _⟩
/-- Where the search ends. -/
theorem PInv.at {b s : List UInt8} {n bg q m : Nat} (h : PInv b n bg q) (hnm : n ≤ m) (hs : (splitNl b)[m - 1]? = some s) (hx : ¬ (n < m ∧ q < b.length)) : n = m ∧ ∃ t, b.drop bg = s ++ t := by
  obtain ⟨s', r, h1, h2, h3⟩ := h.row
  have hle := h.le
  have hone := h.one
  have hml := (List.getElem?_eq_some_iff.1 hs).1
  have hn : n = m := by
    rcases Nat.lt_or_ge n m with h4 | h4
    · exfalso
      have hlen := congrArg List.length h2
      simp at hlen
      rcases splitNl_head h1 with ⟨h5, _⟩ | ⟨d', h5, _⟩
      · rw [h5] at hlen; simp at hlen; omega
      · have := congrArg List.length h5
        simp at this
        exact hx ⟨h4, by omega⟩
    · omega
  subst hn
  have e : s = s' := by
    have : ((splitNl b).drop (n - 1))[0]? = some s := by rw [List.getElem?_drop]; exact hs
    rw [h2] at this
    simpa using this.symm
  subst e
  refine ⟨rfl, ?_⟩
  rcases splitNl_head h1 with ⟨_, h5⟩ | ⟨d', h5, _⟩
  · exact ⟨[], by simpa using h5⟩
  · exact ⟨_, h5⟩

/-- Fields that stand in line s, behind place e. -/
inductive Plc (s : List UInt8) : Nat → List Field → Prop
  | nil (e : Nat) : Plc s e []
  | cons (e : Nat) (f : Field) (r : List Field) (h1 : e < f.col) (h2 : f.col - 1 + f.text.length ≤ s.length) (h3 : (s.take (f.col - 1 + f.text.length)).drop (f.col - 1) = f.text) (h4 : Plc s (f.col + f.text.length) r) : Plc s e (f :: r)
theorem Plc.weak {s : List UInt8} {e e' : Nat} {fs : List Field} (h : Plc s e fs) (he : e' ≤ e) : Plc s e' fs := by
  cases h with
  | nil => exact .nil _
  | cons _ f r h1 h2 h3 h4 => exact .cons _ f r (by omega) h2 h3 h4
theorem word_end {s : List UInt8} : ∀ (d i : Nat), s.length - i = d → i < s.length → blankB ((s.getD i 0).toNat : Int) = false →
    ∃ j, i < j ∧ j ≤ s.length ∧ (∀ m, i ≤ m → m < j → blankB ((s.getD m 0).toNat : Int) = false) ∧ (j < s.length → blankB ((s.getD j 0).toNat : Int) = true)
  | 0, i, h, hi, _ => by omega
  | d + 1, i, h, hi, hb => by
    by_cases h1 : i + 1 < s.length
    · cases hb2 : blankB ((s.getD (i + 1) 0).toNat : Int) with
      | true => exact ⟨i + 1, by omega, by omega, fun m h2 h3 => by rw [show m = i by omega]; exact hb, fun _ => hb2⟩
      | false =>
        obtain ⟨j, h2, h3, h4, h5⟩ := word_end d (i + 1) (by omega) h1 hb2
        refine ⟨j, by omega, h3, fun m h6 h7 => ?_, h5⟩
        rcases Nat.lt_or_ge i m with h8 | h8
        · exact h4 m (by omega) h7
        · rw [show m = i by omega]; exact hb
    · exact ⟨i + 1, by omega, by omega, fun m h2 h3 => by rw [show m = i by omega]; exact hb, fun h => absurd h h1⟩
theorem scan_plc {s : List UInt8} (n : Nat) : ∀ (d i : Nat), s.length - i = d → Plc s i (scan n i (s.drop i)) := by
  intro d
  induction d using Nat.strongRecOn with
  | _ d ih =>
    intro i h
    rcases Nat.lt_or_ge i s.length with hi | hi
    · cases hb : blankB ((s.getD i 0).toNat : Int) with
      | true =>
        rw [scan_skip (fun _ => hb)]
        exact (ih (s.length - (i + 1)) (by omega) (i + 1) rfl).weak (by omega)
      | false =>
        by_cases h35 : (s.getD i 0).toNat = 35
        · rw [scan_remark hi hb h35]; exact .nil _
        · obtain ⟨j, h1, h2, h3, h4⟩ := word_end (s.length - i) i rfl hi hb
          rw [scan_step h1 h2 h3 h35 h4]
          have htl : ((s.take j).drop i).length = j - i := by simp; omega
          refine .cons _ _ _ (by show i < i + 1; omega) ?_ ?_ ?_
          · show i + 1 - 1 + ((s.take j).drop i).length ≤ s.length; omega
          · show (s.take (i + 1 - 1 + ((s.take j).drop i).length)).drop (i + 1 - 1) = (s.take j).drop i
            rw [htl, show i + 1 - 1 + (j - i) = j by omega, show i + 1 - 1 = i by omega]
          · show Plc s (i + 1 + ((s.take j).drop i).length) (scan n j (s.drop j))
            rw [htl, show i + 1 + (j - i) = j + 1 by omega, scan_skip h4]
            rcases Nat.lt_or_ge j s.length with hj | hj
            · exact ih (s.length - (j + 1)) (by omega) (j + 1) rfl
            · rw [scan_end (by omega)]; exact .nil _
    · rw [scan_end hi]; exact .nil _

/-- Lines with rising numbers. -/
inductive LL (ls : List (List UInt8)) : Nat → List (List Field) → Prop
  | nil (n : Nat) : LL ls n []
  | cons (n m : Nat) (s : List UInt8) (r : List (List Field)) (h1 : n ≤ m) (h2 : 1 ≤ m) (h3 : ls[m - 1]? = some s) (h0 : scan m 0 s ≠ []) (h4 : LL ls (m + 1) r) : LL ls n (scan m 0 s :: r)
theorem LL.weak {ls : List (List UInt8)} {n n' : Nat} {x : List (List Field)} (h : LL ls n x) (hn : n' ≤ n) : LL ls n' x := by
  cases h with
  | nil => exact .nil _
  | cons _ m s r h1 h2 h3 h0 h4 => exact .cons _ m s r (by omega) h2 h3 h0 h4
theorem lexFrom_LL (ls : List (List UInt8)) : ∀ (d n : Nat), ls.length - n = d → LL ls (n + 1) (lexFrom (n + 1) (ls.drop n))
  | 0, n, h => by rw [List.drop_eq_nil_of_le (by omega)]; exact .nil _
  | d + 1, n, h => by
    have hlt : n < ls.length := by omega
    have e : ls[n]? = some ls[n] := List.getElem?_eq_getElem hlt
    have ih := lexFrom_LL ls d (n + 1) (by omega)
    rw [lexFrom_at e]
    split
    · exact ih.weak (by omega)
    · rename_i h0
      exact .cons _ (n + 1) _ _ (Nat.le_refl _) (by omega) e (fun e2 => h0 (by rw [e2]; rfl)) ih

def mOf (b : List UInt8) (i : Nat) : Nat := (((lexLines b).getD i []).getD 0 f0).line
def sOf (b : List UInt8) (i : Nat) : List UInt8 := (splitNl b).getD (mOf b i - 1) []
/-- The i-th line that has fields. -/
structure LineI (b : List UInt8) (n i : Nat) : Prop where
  one : 1 ≤ mOf b i
  le : n ≤ mOf b i
  row : (splitNl b)[mOf b i - 1]? = some (sOf b i)
  fs : (lexLines b).getD i [] = scan (mOf b i) 0 (sOf b i)
  ne : (lexLines b).getD i [] ≠ []
  rest : LL (splitNl b) (mOf b i + 1) ((lexLines b).drop (i + 1))
theorem LL.head {b : List UInt8} {n i : Nat} (h : LL (splitNl b) n ((lexLines b).drop i)) (hi : i < (lexLines b).length) : LineI b n i := by
  rw [List.drop_eq_getElem_cons hi] at h
  have hg : (lexLines b).getD i [] = (lexLines b)[i] := by rw [List.getD_eq_getElem?_getD, List.getElem?_eq_getElem hi]; rfl
  generalize hx : (lexLines b)[i] = fs at h hg
  cases h with
  | cons _ m s r h1 h2 h3 h0 h4 =>
    have hm : mOf b i = m := by
      rw [mOf, hg]
      cases hsc : scan m 0 s with
      | nil => exact absurd hsc h0
      | cons f t => exact (scan_good s m 0 f (by rw [hsc]; exact List.mem_cons_self ..)).2.1
    have hs : sOf b i = s := by rw [sOf, hm, List.getD_eq_getElem?_getD, h3]; rfl
    exact ⟨by omega, by omega, by rw [hm, hs]; exact h3, by rw [hg, hm, hs], by rw [hg]; exact h0, by rw [hm]; exact h4⟩

/-- What holds ahead of line i. -/
def Pl (b : List UInt8) (i n bg q : Nat) : Prop := PInv b n bg q ∧ LL (splitNl b) n ((lexLines b).drop i)
theorem Pl.start {b : List UInt8} (h : readableB b = true) : Pl b 0 1 0 0 := by
  refine ⟨PInv.start b, ?_⟩
  have := lexFrom_LL (splitNl b) _ 0 rfl
  rw [lexLines, h, if_pos rfl, List.drop_zero]
  simpa using this
/-- .. and ahead of its field k. -/
structure Ql (b : List UInt8) (i k n bg q e : Nat) : Prop where
  line : LineI b n i
  place : PInv b n bg q
  plc : Plc (sOf b i) e (((lexLines b).getD i []).drop k)
theorem Pl.inn {b : List UInt8} {i n bg q : Nat} (h : Pl b i n bg q) (hi : i < (lexLines b).length) : Ql b i 0 n bg q 0 := by
  have hL := h.2.head hi
  refine ⟨hL, h.1, ?_⟩
  rw [List.drop_zero, hL.fs]
  have := scan_plc (s := sOf b i) (mOf b i) _ 0 rfl
  simpa using this
theorem Ql.out {b : List UInt8} {i k n bg q e : Nat} (h : Ql b i k n bg q e) : Pl b (i + 1) n bg q := ⟨h.place, h.line.rest.weak (by have := h.line.le; omega)⟩
theorem Ql.cons {b : List UInt8} {i k n bg q e : Nat} (h : Ql b i k n bg q e) (hk : k < ((lexLines b).getD i []).length) :
    let f := ((lexLines b).getD i []).getD k f0
    f.line = mOf b i ∧ GoodW f.text ∧ e < f.col ∧ f.col - 1 + f.text.length ≤ (sOf b i).length ∧ ((sOf b i).take (f.col - 1 + f.text.length)).drop (f.col - 1) = f.text ∧ Plc (sOf b i) (f.col + f.text.length) (((lexLines b).getD i []).drop (k + 1)) := by
  intro f
  have hp := h.plc
  have hfs := h.line.fs
  have hmem : f ∈ (lexLines b).getD i [] := by
    show ((lexLines b).getD i []).getD k f0 ∈ _
    generalize (lexLines b).getD i [] = fs at hk
    rw [List.getD_eq_getElem?_getD, List.getElem?_eq_getElem hk]; exact List.getElem_mem _
  have hg := scan_good (sOf b i) (mOf b i) 0 f (by rw [← hfs]; exact hmem)
  have hd : ((lexLines b).getD i []).drop k = f :: ((lexLines b).getD i []).drop (k + 1) := by
    show _ = ((lexLines b).getD i []).getD k f0 :: _
    generalize (lexLines b).getD i [] = fs at hk
    rw [List.drop_eq_getElem_cons hk, List.getD_eq_getElem?_getD, List.getElem?_eq_getElem hk]; rfl
  rw [hd] at hp
  generalize ((lexLines b).getD i []).drop (k + 1) = r at hp
  cases hp with
  | cons _ _ _ h1 h2 h3 h4 => exact ⟨hg.2.1, hg.1, h1, h2, h3, h4⟩
theorem Ql.bound {b : List UInt8} {i k n bg q e : Nat} (h : Ql b i k n bg q e) (hk : k < ((lexLines b).getD i []).length) : (((lexLines b).getD i []).getD k f0).col + (((lexLines b).getD i []).getD k f0).text.length ≤ b.length + 1 ∧ 1 ≤ (((lexLines b).getD i []).getD k f0).col := by
  obtain ⟨_, _, h3, h4, _⟩ := h.cons hk
  have : (sOf b i).length ≤ b.length := splitNl_mem b _ _ h.line.row
  omega
theorem Ql.move {b : List UInt8} {i k n bg q e n' bg' q' : Nat} (h : Ql b i k n bg q e) (hp : PInv b n' bg' q') (hn : n' ≤ mOf b i) : Ql b i k n' bg' q' e := ⟨⟨h.line.one, hn, h.line.row, h.line.fs, h.line.ne, h.line.rest⟩, hp, h.plc⟩
theorem Ql.stay {b : List UInt8} {i k n bg q e : Nat} (h : Ql b i k n bg q e) (hq : q < b.length) (hc : ¬ (b.getD q 0).toNat = 10) : Ql b i k n bg (q + 1) e := h.move (h.place.stay hq hc) h.line.le
theorem Ql.nextl {b : List UInt8} {i k n bg q e : Nat} (h : Ql b i k n bg q e) (hk : k < ((lexLines b).getD i []).length) (hn : n < (((lexLines b).getD i []).getD k f0).line) (hq : q < b.length) (hc : (b.getD q 0).toNat = 10) : Ql b i k (n + 1) (q + 1) (q + 1) e := by
  have := (h.cons hk).1
  exact h.move (h.place.next hq hc) (by omega)
theorem Ql.step {b : List UInt8} {i k n bg q e : Nat} (h : Ql b i k n bg q e) (hk : k < ((lexLines b).getD i []).length) : Ql b i (k + 1) n bg q ((((lexLines b).getD i []).getD k f0).col + (((lexLines b).getD i []).getD k f0).text.length) :=
  ⟨h.line, h.place, (h.cons hk).2.2.2.2.2⟩
/-- The field that is found. -/
theorem Ql.found {b : List UInt8} {i k n bg q e : Nat} (h : Ql b i k n bg q e) (hk : k < ((lexLines b).getD i []).length) (hx : ¬ (n < (((lexLines b).getD i []).getD k f0).line ∧ q < b.length)) :
    let f := ((lexLines b).getD i []).getD k f0
    n = f.line ∧ e < f.col ∧ f.text.length ≠ 0 ∧ bg + f.col - 1 + f.text.length ≤ b.length ∧ (b.take (bg + f.col - 1 + f.text.length)).drop (bg + f.col - 1) = f.text ∧ (f.text.getD 0 0).toNat ≠ 35 := by
  intro f
  obtain ⟨h1, h2, h3, h4, h5, _⟩ := h.cons hk
  obtain ⟨h6, t, h7⟩ := h.place.at h.line.le h.line.row (by rw [← h1]; exact hx)
  have hl := congrArg List.length h7
  simp at hl
  have hbl := h.place.bgl
  refine ⟨by rw [h6]; exact h1.symm, h3, fun e => h2.1 (List.length_eq_zero_iff.1 e), ?_, ?_, ?_⟩
  · show bg + (((lexLines b).getD i []).getD k f0).col - 1 + (((lexLines b).getD i []).getD k f0).text.length ≤ b.length
    omega
  · show (b.take (bg + (((lexLines b).getD i []).getD k f0).col - 1 + (((lexLines b).getD i []).getD k f0).text.length)).drop (bg + (((lexLines b).getD i []).getD k f0).col - 1) = (((lexLines b).getD i []).getD k f0).text
    generalize ((lexLines b).getD i []).getD k f0 = g at h3 h4 h5
    have e1 : bg + g.col - 1 + g.text.length = bg + (g.col - 1 + g.text.length) := by omega
    have e2 : bg + g.col - 1 = bg + (g.col - 1) := by omega
    rw [e1, e2, ← List.drop_drop, List.drop_take, show bg + (g.col - 1 + g.text.length) - bg = g.col - 1 + g.text.length by omega, h7, List.take_append_of_le_length h4]
    exact h5
  · have hg := h2.2.2
    show ((((lexLines b).getD i []).getD k f0).text.getD 0 0).toNat ≠ 35
    have hne := h2.1
    generalize (((lexLines b).getD i []).getD k f0).text = w at hg hne
    cases w with
    | nil => exact absurd rfl hne
    | cons c r => exact hg c r rfl
theorem Ql.above {b : List UInt8} {i k n bg q e j : Nat} (h : Ql b i k n bg q e) (hi : i < (lexLines b).length) (hk : k < ((lexLines b).getD i []).length) (hj : j < (((lexLines b).getD i []).getD k f0).text.length) : ((((lexLines b).getD i []).getD k f0).text.getD j 0).toNat > 32 := by
  have h1 : (lexLines b).getD i [] ∈ lexLines b := by rw [List.getD_eq_getElem?_getD, List.getElem?_eq_getElem hi]; exact List.getElem_mem _
  have h2 : ((lexLines b).getD i []).getD k f0 ∈ (lexLines b).getD i [] := by
    generalize (lexLines b).getD i [] = fs at hk
    rw [List.getD_eq_getElem?_getD, List.getElem?_eq_getElem hk]; exact List.getElem_mem _
  obtain ⟨hg, ho⟩ := (lex_good b _ h1).2 _ h2
  generalize (((lexLines b).getD i []).getD k f0).text = w at hj hg ho
  have hm : w.getD j 0 ∈ w := by rw [List.getD_eq_getElem?_getD, List.getElem?_eq_getElem hj]; exact List.getElem_mem _
  have hb := hg.2.1 _ hm
  have ho2 := (ho _ hm).2
  have h10 : (w.getD j 0).toNat ≠ 10 := fun e => (ho _ hm).1 (UInt8.toNat_inj.1 e)
  generalize (w.getD j 0).toNat = c at hb ho2 h10
  unfold okB at ho2
  rw [hb] at ho2
  have : c ≠ 32 := by intro e; subst e; cases hb
  have : ¬ ((c : Int) = 10) := by omega
  simp [this] at ho2
  omega
end Go.Proofs.YtkdpehhdbjkljaaDoor
