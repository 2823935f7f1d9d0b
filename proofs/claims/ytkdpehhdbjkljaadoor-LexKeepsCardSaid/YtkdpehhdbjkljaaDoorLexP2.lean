/- The plain law of lex: the reference's lines. No program in sight. -/
import Derived.Test.YtkdpehhdbjkljaaDoorLexP
import Derived.Test.YtkdpehhdbjkljaaDoorLexS
namespace Go.Proofs.YtkdpehhdbjkljaaDoor

def errI (l : List UInt8) : Int := if readableB l then 0 else 2
def lexLines (l : List UInt8) : List (List Field) := if readableB l then lexFrom 1 (splitNl l) else []

theorem rok {c : Int} : (bif c == 9 then false else bif c == 10 then false else bif c == 13 then false else bif decide (c ≥ 32) then !decide (c ≤ 126) else true) = !(okB c) := by
  unfold okB blankB
  by_cases h9 : c = 9
  · subst h9; rfl
  by_cases h10 : c = 10
  · subst h10; rfl
  by_cases h13 : c = 13
  · subst h13; rfl
  by_cases h32 : c = 32
  · subst h32; rfl
  have e9 := beq_eq_false_iff_ne.2 h9
  have e10 := beq_eq_false_iff_ne.2 h10
  have e13 := beq_eq_false_iff_ne.2 h13
  have e32 := beq_eq_false_iff_ne.2 h32
  by_cases hg : 32 ≤ c <;> by_cases hl : c ≤ 126 <;> simp [e9, e10, e13, e32, hg, hl]
theorem rok_no {c : Int} (h : (bif c == 9 then false else bif c == 10 then false else bif c == 13 then false else bif decide (c ≥ 32) then !decide (c ≤ 126) else true) = true) : okB c = false := by
  rw [rok] at h; exact bnot_t h
theorem rok_go {c : Int} (h : (bif c == 9 then false else bif c == 10 then false else bif c == 13 then false else bif decide (c ≥ 32) then !decide (c ≤ 126) else true) = false) : okB c = true := by
  rw [rok] at h; exact bnot_f h
theorem rblank {c : Int} {rk : Bool} : (bif rk then true else bif c == 9 then true else bif c == 13 then true else c == 32) = (rk || blankB c) := by
  unfold blankB
  cases rk with
  | true => rfl
  | false =>
    by_cases h9 : c = 9
    · subst h9; rfl
    by_cases h13 : c = 13
    · subst h13; rfl
    have e9 := beq_eq_false_iff_ne.2 h9
    have e13 := beq_eq_false_iff_ne.2 h13
    cases h32 : c == 32 <;> simp [e9, e13, h32]
theorem rblank_t {c : Int} {rk : Bool} (h : (bif rk then true else bif c == 9 then true else bif c == 13 then true else c == 32) = true) : rk = true ∨ blankB c = true := by
  rw [rblank] at h; simpa using h
theorem rblank_f {c : Int} {rk : Bool} (h : (bif rk then true else bif c == 9 then true else bif c == 13 then true else c == 32) = false) : rk = false ∧ blankB c = false := by
  rw [rblank] at h; simpa using h
theorem rnl_t {i n c : Nat} (h : (bif (i : Int) == (n : Int) then true else (c : Int) == 10) = true) : i = n ∨ c = 10 := by
  by_cases e : i = n
  · exact .inl e
  · right
    have : ((i : Int) == (n : Int)) = false := by simp; omega
    rw [this] at h
    have := eq_of_beq h
    omega
theorem rnl_f {i n c : Nat} (h : (bif (i : Int) == (n : Int) then true else (c : Int) == 10) = false) : i ≠ n ∧ c ≠ 10 := by
  by_cases e : i = n
  · subst e; simp at h
  · have : ((i : Int) == (n : Int)) = false := by simp; omega
    rw [this] at h
    have := beq_eq_false_iff_ne.1 h
    exact ⟨e, by omega⟩

/-- One line's fields, if there are any. -/
def emit (fl : List Field) : List (List Field) := if fl.length = 0 then [] else [fl]
theorem lexFrom_cons (n : Nat) (s : List UInt8) (r : List (List UInt8)) : lexFrom n (s :: r) = emit (scan n 0 s) ++ lexFrom (n + 1) r := by
  rw [lexFrom, emit]
  split <;> rfl

/-- What the reference still has to do at place i of the text: now the fields of the line so far, its place col. -/
def refRest (l : List UInt8) (i n col : Nat) (remark : Bool) (now : List Field) : List (List Field) :=
  match splitNl (l.drop i) with
  | [] => []
  | s :: r => emit (now ++ (if remark then [] else scan n col s)) ++ lexFrom (n + 1) r

theorem splitNl_ne_nil (l : List UInt8) : splitNl l ≠ [] := by
  intro h
  have := splitNl_len l
  rw [h] at this; simp at this

theorem ref_start (l : List UInt8) : refRest l 0 1 0 false [] = lexFrom 1 (splitNl l) := by
  unfold refRest
  rw [List.drop_zero]
  cases h : splitNl l with
  | nil => exact absurd h (splitNl_ne_nil l)
  | cons s r => simp [lexFrom_cons]

theorem ref_last {l : List UInt8} {i n col : Nat} {rk : Bool} {now : List Field} (h : l.length ≤ i) : refRest l i n col rk now = emit now := by
  unfold refRest
  rw [List.drop_eq_nil_of_le h, splitNl_nil]
  simp [scan_nil, lexFrom]

theorem ref_nl {l : List UInt8} {i n col : Nat} {rk : Bool} {now : List Field} (h : i < l.length) (h10 : (l.getD i 0).toNat = 10) : refRest l i n col rk now = emit now ++ refRest l (i + 1) (n + 1) 0 false [] := by
  unfold refRest
  have hc : l.getD i 0 = 10 := by
    apply UInt8.toNat_inj.1; exact h10
  rw [drop_at h, hc, splitNl_10]
  cases hs : splitNl (l.drop (i + 1)) with
  | nil => exact absurd hs (splitNl_ne_nil _)
  | cons s r => simp [scan_nil, lexFrom_cons]

theorem ref_skip {l : List UInt8} {i n col : Nat} {rk : Bool} {now : List Field} (h : i < l.length) (h10 : ¬ ((l.getD i 0).toNat = 10)) (hb : rk = true ∨ blankB ((l.getD i 0).toNat : Int) = true) : refRest l i n col rk now = refRest l (i + 1) n (col + 1) rk now := by
  unfold refRest
  have hc : l.getD i 0 ≠ 10 := fun e => h10 (by rw [e]; rfl)
  obtain ⟨hd, tl, e1, e2⟩ := splitNl_ne hc (l.drop (i + 1))
  rw [drop_at h, e1, e2]
  rcases hb with rfl | hb
  · simp
  · simp only [scan_blank hb]

theorem ref_hash {l : List UInt8} {i n col : Nat} {now : List Field} (h : i < l.length) (hb : blankB ((l.getD i 0).toNat : Int) = false) (h35 : (l.getD i 0).toNat = 35) : refRest l i n col false now = refRest l i n col true now := by
  unfold refRest
  have hc : l.getD i 0 ≠ 10 := fun e => by rw [e] at h35; cases h35
  obtain ⟨hd, tl, e1, e2⟩ := splitNl_ne hc (l.drop (i + 1))
  rw [drop_at h, e2]
  simp only [scan_hash hb h35, if_true, if_neg (show ¬ (false = true) by simp)]

/-- A word's letters stand in one line. -/
theorem splitNl_word {l : List UInt8} {j : Nat} (hj : j ≤ l.length) : ∀ (d i : Nat), i + d = j → (∀ m, i ≤ m → m < j → (l.getD m 0).toNat ≠ 10) → ∃ s r, splitNl (l.drop j) = s :: r ∧ splitNl (l.drop i) = ((l.take j).drop i ++ s) :: r
  | 0, i, h, _ => by
    have : i = j := by omega
    subst this
    cases hs : splitNl (l.drop i) with
    | nil => exact absurd hs (splitNl_ne_nil _)
    | cons s r => exact ⟨s, r, rfl, by rw [List.drop_take]; simp⟩
  | d + 1, i, h, hw => by
    obtain ⟨s, r, e1, e2⟩ := splitNl_word hj d (i + 1) (by omega) (fun m h1 h2 => hw m (by omega) h2)
    refine ⟨s, r, e1, ?_⟩
    have hlt : i < l.length := by omega
    have hc : l.getD i 0 ≠ 10 := fun e => hw i (Nat.le_refl _) (by omega) (by rw [e]; rfl)
    obtain ⟨hd, tl, f1, f2⟩ := splitNl_ne hc (l.drop (i + 1))
    rw [e2] at f1
    cases f1
    rw [drop_at hlt, f2]
    congr 1
    rw [List.drop_take, List.drop_take, drop_at hlt, show j - i = (j - (i + 1)) + 1 by omega, List.take_succ_cons, List.cons_append]

theorem takeWhile_app (p : UInt8 → Bool) : ∀ (w s : List UInt8), (∀ c ∈ w, p c = true) → (∀ c r, s = c :: r → p c = false) → (w ++ s).takeWhile p = w ∧ (w ++ s).dropWhile p = s
  | [], [], _, _ => by simp
  | [], c :: r, _, h => by simp [h c r rfl]
  | c :: w, s, hw, h => by
    have h0 := hw c (List.mem_cons_self ..)
    have ih := takeWhile_app p w s (fun c hc => hw c (List.mem_cons_of_mem _ hc)) h
    simp [h0, ih]

theorem scan_wordS {n col : Nat} {w s : List UInt8} (hw0 : w ≠ []) (hw : ∀ c ∈ w, blankB (c.toNat : Int) = false) (h35 : ∀ c r, w = c :: r → c.toNat ≠ 35) (hs : ∀ c r, s = c :: r → blankB (c.toNat : Int) = true) :
    scan n col (w ++ s) = ⟨w, n, col + 1⟩ :: scan n (col + w.length) s := by
  cases w with
  | nil => exact absurd rfl hw0
  | cons c w =>
    obtain ⟨h1, h2⟩ := takeWhile_app (fun c => !blankB c.toNat) w s (fun c hc => by show (!blankB (c.toNat : Int)) = true; rw [hw c (List.mem_cons_of_mem _ hc)]; rfl) (fun c r e => by show (!blankB (c.toNat : Int)) = false; rw [hs c r e]; rfl)
    rw [List.cons_append, scan_word (hw c (List.mem_cons_self ..)) (h35 c w rfl), h1, h2]
    congr 2
    simp; omega

theorem take_drop_mem {l : List UInt8} {i j : Nat} {c : UInt8} (h : c ∈ (l.take j).drop i) : ∃ m, i ≤ m ∧ m < j ∧ m < l.length ∧ c = l.getD m 0 := by
  obtain ⟨k, hk, rfl⟩ := List.mem_iff_getElem.1 h
  simp at hk
  refine ⟨i + k, by omega, by omega, by omega, ?_⟩
  rw [List.getD_eq_getElem?_getD, List.getElem?_eq_getElem (by omega)]
  simp

/-- In a text that may be read, what is above a blank is no blank, and no line's end; what isn't is one of both. -/
theorem ok_above {c : Int} (hok : okB c = true) (h : c > 32) : blankB c = false ∧ c ≠ 10 := by
  unfold blankB
  have h1 : c ≠ 32 := by omega
  have h2 : c ≠ 9 := by omega
  have h3 : c ≠ 13 := by omega
  simp [h1, h2, h3]; omega
theorem ok_below {c : Int} (hok : okB c = true) (h : ¬ (c > 32)) : blankB c = true ∨ c = 10 := by
  unfold okB at hok
  cases hb : blankB c with
  | true => exact .inl rfl
  | false =>
    rw [hb] at hok
    by_cases h10 : c = 10
    · exact .inr h10
    · simp [h10] at hok
      have : c = 32 := by omega
      subst this
      simp [blankB] at hb

theorem readable_at {l : List UInt8} (h : readableB l = true) {j : Nat} (hj : j < l.length) : okB ((l.getD j 0).toNat : Int) = true := by
  simp only [readableB, Bool.and_eq_true] at h
  have := List.all_eq_true.1 h.1 (l.getD j 0) (by rw [List.getD_eq_getElem?_getD, List.getElem?_eq_getElem hj]; exact List.getElem_mem _)
  exact this

theorem ref_word {l : List UInt8} {i j n col : Nat} {now : List Field} (hrd : readableB l = true) (hi : i < l.length) (h10 : ¬ ((l.getD i 0).toNat = 10)) (hb : blankB ((l.getD i 0).toNat : Int) = false) (h35 : ¬ ((l.getD i 0).toNat = 35)) (hij : i ≤ j) (hj : j ≤ l.length)
    (hw : ∀ m, i ≤ m → m < j → ((l.getD m 0).toNat : Int) > 32) (he : (j : Int) < (l.length : Int) → ¬ (((l.getD j 0).toNat : Int) > 32)) :
    refRest l i n col false now = refRest l j n (col + (j - i)) false (now ++ [⟨(l.take j).drop i, n, col + 1⟩]) ∧ i < j := by
  have hlt : i < j := by
    rcases Nat.lt_or_ge i j with h | h
    · exact h
    · have e : i = j := by omega
      subst e
      have := ok_below (readable_at hrd hi) (he (by omega))
      rcases this with h | h
      · rw [hb] at h; cases h
      · exact absurd (by omega) h10
  refine ⟨?_, hlt⟩
  have hab : ∀ m, i ≤ m → m < j → blankB ((l.getD m 0).toNat : Int) = false ∧ ((l.getD m 0).toNat : Int) ≠ 10 := fun m h1 h2 => ok_above (readable_at hrd (by omega)) (hw m h1 h2)
  obtain ⟨s, r, e1, e2⟩ := splitNl_word hj (j - i) i (by omega) (fun m h1 h2 e => (hab m h1 h2).2 (by omega))
  unfold refRest
  rw [e1, e2]
  have hwl : ((l.take j).drop i).length = j - i := by simp; omega
  have hs : ∀ c t, s = c :: t → blankB (c.toNat : Int) = true := by
    intro c t ec
    subst ec
    rcases Nat.lt_or_ge j l.length with hjl | hjl
    · by_cases hc : l.getD j 0 = 10
      · rw [drop_at hjl, hc, splitNl_10] at e1
        cases e1
      · obtain ⟨hd, tl, f1, f2⟩ := splitNl_ne hc (l.drop (j + 1))
        rw [drop_at hjl, f2] at e1
        cases e1
        rcases ok_below (readable_at hrd hjl) (he (by omega)) with h | h
        · exact h
        · exact absurd (UInt8.toNat_inj.1 (show (l.getD j 0).toNat = 10 by omega)) hc
    · rw [List.drop_eq_nil_of_le hjl, splitNl_nil] at e1
      cases e1
  have hsc := scan_wordS (n := n) (col := col) (w := (l.take j).drop i) (s := s) (fun e => by rw [e] at hwl; simp at hwl; omega)
    (fun c hc => by obtain ⟨m, h1, h2, _, rfl⟩ := take_drop_mem hc; exact (hab m h1 h2).1)
    (fun c t ec e => by
      have e0 : (l.take j).drop i = l.getD i 0 :: ((l.take j).drop i).tail := by
        rw [List.drop_take, drop_at hi, show j - i = (j - i - 1) + 1 by omega, List.take_succ_cons]; rfl
      rw [e0] at ec
      cases ec
      exact h35 e) hs
  simp only [Bool.false_eq_true, if_false, hsc, hwl]
  simp

/-- What holds at the reference's loop's head. -/
def RInv (l : List UInt8) (i n bg : Nat) (rk : Bool) (now : List Field) (out : List (List Field)) : Prop :=
  (i ≤ l.length ∧ out ++ refRest l i n (i - bg) rk now = lexFrom 1 (splitNl l)) ∨ (i = l.length + 1 ∧ out = lexFrom 1 (splitNl l))

theorem RInv.start (l : List UInt8) : RInv l 0 1 0 false [] [] := .inl ⟨Nat.zero_le _, by rw [List.nil_append]; exact ref_start l⟩
theorem RInv.done {l : List UInt8} {i n bg : Nat} {rk : Bool} {now : List Field} {out : List (List Field)} (h : RInv l i n bg rk now out) (hi : ¬ (i ≤ l.length)) : out = lexFrom 1 (splitNl l) := by
  rcases h with ⟨h1, _⟩ | ⟨_, h2⟩
  · exact absurd h1 hi
  · exact h2
theorem RInv.nl {l : List UInt8} {i n bg : Nat} {rk : Bool} {now : List Field} {out out' : List (List Field)} (h : RInv l i n bg rk now out) (hi : i ≤ l.length) (hc : i = l.length ∨ (l.getD i 0).toNat = 10) (ho : out ++ emit now = out') : RInv l (i + 1) (n + 1) (i + 1) false [] out' := by
  rcases h with ⟨h1, h2⟩ | ⟨h1, _⟩
  · subst ho
    by_cases e : i = l.length
    · right
      rw [ref_last (by omega)] at h2
      exact ⟨by omega, h2⟩
    · left
      rw [ref_nl (by omega) (hc.resolve_left e)] at h2
      refine ⟨by omega, ?_⟩
      rw [List.append_assoc, Nat.sub_self]
      exact h2
  · omega
theorem RInv.skip {l : List UInt8} {i n bg : Nat} {rk : Bool} {now : List Field} {out : List (List Field)} (h : RInv l i n bg rk now out) (hbg : bg ≤ i) (hi : i ≤ l.length) (hc : i ≠ l.length ∧ (l.getD i 0).toNat ≠ 10) (hb : rk = true ∨ blankB ((l.getD i 0).toNat : Int) = true) : RInv l (i + 1) n bg rk now out := by
  rcases h with ⟨h1, h2⟩ | ⟨h1, _⟩
  · left
    rw [ref_skip (by omega) hc.2 hb] at h2
    exact ⟨by omega, by rw [show i + 1 - bg = i - bg + 1 by omega]; exact h2⟩
  · omega
theorem RInv.hash {l : List UInt8} {i n bg : Nat} {rk : Bool} {now : List Field} {out : List (List Field)} (h : RInv l i n bg rk now out) (hi : i ≤ l.length) (hc : i ≠ l.length ∧ (l.getD i 0).toNat ≠ 10) (hb : rk = false ∧ blankB ((l.getD i 0).toNat : Int) = false) (h35 : (l.getD i 0).toNat = 35) : RInv l i n bg true now out := by
  rcases h with ⟨h1, h2⟩ | ⟨h1, _⟩
  · left
    rw [hb.1, ref_hash (by omega) hb.2 h35] at h2
    exact ⟨h1, h2⟩
  · omega
theorem RInv.word {l : List UInt8} {i j n bg : Nat} {rk : Bool} {now : List Field} {out : List (List Field)} (h : RInv l i n bg rk now out) (hrd : readableB l = true) (hbg : bg ≤ i) (hi : i ≤ l.length) (hc : i ≠ l.length ∧ (l.getD i 0).toNat ≠ 10) (hb : rk = false ∧ blankB ((l.getD i 0).toNat : Int) = false) (h35 : ¬ ((l.getD i 0).toNat = 35))
    (hij : i ≤ j) (hj : j ≤ l.length) (hw : ∀ m, i ≤ m → m < j → decide (((l.getD m 0).toNat : Int) > 32) = true) (he : (j : Int) < (l.length : Int) → decide (((l.getD j 0).toNat : Int) > 32) = false) :
    RInv l j n bg rk (now ++ [Field.mk ((l.take j).drop i) n (i - bg + 1)]) out ∧ i < j := by
  rcases h with ⟨h1, h2⟩ | ⟨h1, _⟩
  · rw [hb.1] at h2 ⊢
    obtain ⟨h3, h4⟩ := ref_word (n := n) (col := i - bg) (now := now) hrd (by omega) hc.2 hb.2 h35 hij hj (fun m h1 h2 => of_decide_eq_true (hw m h1 h2)) (fun h => of_decide_eq_false (he h))
    refine ⟨.inl ⟨hj, ?_⟩, h4⟩
    rw [h3, show i - bg + (j - i) = j - bg by omega] at h2
    exact h2
  · omega
theorem emit_some {fl : List Field} {out : List (List Field)} (h : fl.length > 0) : out ++ emit fl = out ++ [fl] := by
  unfold emit; rw [if_neg (by omega)]
theorem emit_none {fl : List Field} {out : List (List Field)} (h : ¬ (fl.length > 0)) : out ++ emit fl = out := by
  unfold emit; rw [if_pos (by omega)]; simp
end Go.Proofs.YtkdpehhdbjkljaaDoor
