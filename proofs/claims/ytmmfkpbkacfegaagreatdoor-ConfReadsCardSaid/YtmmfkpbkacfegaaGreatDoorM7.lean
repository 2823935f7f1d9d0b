/- LexP, LexP2, LexP3, LexM, LexM2, CfP, Lex1, Lex2, Lex3, Lex4. -/
import Derived.Test.YtmmfkpbkacfegaaGreatDoorM2
import Derived.Lib.Split
import Derived.Test.YtmmfkpbkacfegaaGreatDoorM5
import Derived.Test.YtmmfkpbkacfegaaGreatDoorM4
import Derived.Test.YtmmfkpbkacfegaaGreatDoorM3
import Derived.Test.YtmmfkpbkacfegaaGreatDoorM6
namespace Go.Proofs.YtmmfkpbkacfegaaGreatDoor
section
def blankB (c : Int) : Bool := bif c == 32 then true else bif c == 9 then true else c == 13
def okB (c : Int) : Bool := blankB c || c == 10 || (decide (32 ≤ c) && decide (c ≤ 126))
def readableB (l : List UInt8) : Bool := (l.all fun b => okB b.toNat) && decide (l.length ≤ 65536)

structure Field where
  text : List UInt8
  line : Nat
  col : Nat
  deriving DecidableEq

/-- The fields of a line's rest: n the line's number, i the place of the rest in the line. -/
def scan (n i : Nat) (s : List UInt8) : List Field :=
  match s with
  | [] => []
  | c :: r =>
    if blankB c.toNat then scan n (i + 1) r
    else if c.toNat = 35 then []
    else ⟨c :: r.takeWhile (fun c => !blankB c.toNat), n, i + 1⟩ :: scan n (i + 1 + (r.takeWhile (fun c => !blankB c.toNat)).length) (r.dropWhile (fun c => !blankB c.toNat))
termination_by s.length
decreasing_by
  all_goals simp_wf
  · have := (List.dropWhile_sublist (l := r) (fun c => !blankB c.toNat)).length_le
    omega

theorem scan_nil (n i : Nat) : scan n i [] = [] := by unfold scan; rfl
theorem scan_blank {n i : Nat} {c : UInt8} {r : List UInt8} (h : blankB c.toNat = true) : scan n i (c :: r) = scan n (i + 1) r := by
  rw [scan]; simp [h]
theorem scan_hash {n i : Nat} {c : UInt8} {r : List UInt8} (h : blankB c.toNat = false) (h2 : c.toNat = 35) : scan n i (c :: r) = [] := by
  rw [scan, if_neg (by rw [h]; simp), if_pos h2]
theorem scan_word {n i : Nat} {c : UInt8} {r : List UInt8} (h : blankB c.toNat = false) (h2 : c.toNat ≠ 35) :
    scan n i (c :: r) = ⟨c :: r.takeWhile (fun c => !blankB c.toNat), n, i + 1⟩ :: scan n (i + 1 + (r.takeWhile (fun c => !blankB c.toNat)).length) (r.dropWhile (fun c => !blankB c.toNat)) := by
  rw [scan]; simp [h, h2]

theorem drop_at {l : List UInt8} {i : Nat} (h : i < l.length) : l.drop i = l.getD i 0 :: l.drop (i + 1) := by
  rw [List.drop_eq_getElem_cons h, List.getD_eq_getElem?_getD, List.getElem?_eq_getElem h]; rfl

theorem takeWhile_to (p : UInt8 → Bool) : ∀ (l : List UInt8) (m : Nat), m ≤ l.length → (∀ j, j < m → p (l.getD j 0) = true) → (m < l.length → p (l.getD m 0) = false) → l.takeWhile p = l.take m ∧ l.dropWhile p = l.drop m
  | [], m, hm, _, _ => by simp at hm; subst hm; simp
  | c :: r, 0, _, _, h => by
    have := h (by simp)
    simp at this
    simp [this]
  | c :: r, m + 1, hm, ha, h => by
    have h0 := ha 0 (by omega)
    simp at h0
    have ih := takeWhile_to p r m (by simpa using hm) (fun j hj => by simpa using ha (j + 1) (by omega)) (fun hlt => by simpa using h (by simpa using hlt))
    simp [List.takeWhile_cons, List.dropWhile_cons, h0, ih]

/-- A word from i to j. -/
theorem scan_step {l : List UInt8} {n i j : Nat} (hij : i < j) (hj : j ≤ l.length) (hw : ∀ m, i ≤ m → m < j → blankB ((l.getD m 0).toNat : Int) = false) (h35 : (l.getD i 0).toNat ≠ 35) (he : j < l.length → blankB ((l.getD j 0).toNat : Int) = true) :
    scan n i (l.drop i) = ⟨(l.take j).drop i, n, i + 1⟩ :: scan n j (l.drop j) := by
  have hg : ∀ (a b : Nat), (l.drop a).getD b 0 = l.getD (a + b) 0 := by
    intro a b; rw [List.getD_eq_getElem?_getD, List.getElem?_drop, ← List.getD_eq_getElem?_getD]
  rw [drop_at (by omega : i < l.length), scan_word (hw i (Nat.le_refl _) hij) h35]
  obtain ⟨h1, h2⟩ := takeWhile_to (fun c => !blankB c.toNat) (l.drop (i + 1)) (j - (i + 1)) (by simp; omega) (fun m hm => by
    show (!blankB (((l.drop (i + 1)).getD m 0).toNat : Int)) = true
    rw [hg, hw (i + 1 + m) (by omega) (by omega)]; rfl) (fun hm => by
    simp at hm
    show (!blankB (((l.drop (i + 1)).getD (j - (i + 1)) 0).toNat : Int)) = false
    rw [hg, show i + 1 + (j - (i + 1)) = j by omega, he (by omega)]; rfl)
  rw [h1, h2]
  have e1 : (l.drop (i + 1)).drop (j - (i + 1)) = l.drop j := by rw [List.drop_drop]; congr 1; omega
  have e2 : i + 1 + ((l.drop (i + 1)).take (j - (i + 1))).length = j := by simp; omega
  rw [e1, e2]
  congr 2
  rw [List.drop_take, drop_at (by omega : i < l.length), show j - i = (j - (i + 1)) + 1 by omega, List.take_succ_cons]

theorem scan_skip {l : List UInt8} {n i : Nat} (h : i < l.length → blankB ((l.getD i 0).toNat : Int) = true) : scan n i (l.drop i) = scan n (i + 1) (l.drop (i + 1)) := by
  rcases Nat.lt_or_ge i l.length with hi | hi
  · rw [drop_at hi, scan_blank (h hi)]
  · rw [List.drop_eq_nil_of_le hi, List.drop_eq_nil_of_le (by omega), scan_nil, scan_nil]

theorem scan_end {l : List UInt8} {n i : Nat} (h : l.length ≤ i) : scan n i (l.drop i) = [] := by rw [List.drop_eq_nil_of_le h, scan_nil]
theorem scan_remark {l : List UInt8} {n i : Nat} (hi : i < l.length) (h : blankB ((l.getD i 0).toNat : Int) = false) (h2 : (l.getD i 0).toNat = 35) : scan n i (l.drop i) = [] := by rw [drop_at hi, scan_hash h h2]

/-- The lines that have fields, from the n-th on. -/
def lexFrom (n : Nat) : List (List UInt8) → List (List Field)
  | [] => []
  | s :: r => if (scan n 0 s).length = 0 then lexFrom (n + 1) r else scan n 0 s :: lexFrom (n + 1) r

theorem lexFrom_at {ls : List (List UInt8)} {k n : Nat} {s : List UInt8} (h : ls[k]? = some s) : lexFrom n (ls.drop k) = (if (scan n 0 s).length = 0 then lexFrom (n + 1) (ls.drop (k + 1)) else scan n 0 s :: lexFrom (n + 1) (ls.drop (k + 1))) := by
  obtain ⟨hlt, he⟩ := List.getElem?_eq_some_iff.1 h
  rw [List.drop_eq_getElem_cons hlt, he]
  rfl

theorem and_t {p : Prop} [Decidable p] {b : Bool} (h : (bif decide p then b else false) = true) : p ∧ b = true := by
  by_cases hp : p <;> simp [hp] at h ⊢; exact h
theorem and_f {p : Prop} [Decidable p] {b : Bool} (h : (bif decide p then b else false) = false) (hp : p) : b = false := by simpa [hp] using h
theorem ext_lt {i j : Nat} {p : Nat → Prop} (h : ∀ m, i ≤ m → m < j → p m) (hj : p j) : ∀ m, i ≤ m → m < j + 1 → p m := by
  intro m h1 h2
  rcases Nat.lt_or_ge m j with h3 | h3
  · exact h m h1 h3
  · rw [show m = j by omega]; exact hj
theorem ext_0 {j : Nat} {p : Nat → Prop} (h : ∀ m, m < j → p m) (hj : p j) : ∀ m, m < j + 1 → p m := by
  intro m h2
  rcases Nat.lt_or_ge m j with h3 | h3
  · exact h m h3
  · rw [show m = j by omega]; exact hj

theorem lex_app {ls : List (List UInt8)} {k : Nat} {out R : List (List Field)} {fl : List Field} {s : List UInt8} (hs : ls[k]? = some s) (hf : fl = scan (k + 1) 0 s) (hp : fl.length > 0) (hout : out ++ lexFrom (k + 1) (ls.drop k) = R) :
    (out ++ [fl]) ++ lexFrom (k + 1 + 1) (ls.drop (k + 1)) = R := by
  rw [lexFrom_at hs, if_neg (by rw [← hf]; omega), ← hf] at hout
  simpa using hout
theorem lex_skip {ls : List (List UInt8)} {k : Nat} {out R : List (List Field)} {fl : List Field} {s : List UInt8} (hs : ls[k]? = some s) (hf : fl = scan (k + 1) 0 s) (hp : ¬ (fl.length > 0)) (hout : out ++ lexFrom (k + 1) (ls.drop k) = R) :
    out ++ lexFrom (k + 1 + 1) (ls.drop (k + 1)) = R := by
  rw [lexFrom_at hs, if_pos (by rw [← hf]; omega)] at hout
  exact hout
theorem lex_done {ls : List (List UInt8)} {k : Nat} {out R : List (List Field)} (hk : ¬ (k < ls.length)) (hout : out ++ lexFrom (k + 1) (ls.drop k) = R) : out = R := by
  rw [List.drop_eq_nil_of_le (by omega)] at hout
  simpa [lexFrom] using hout
theorem scan_at_end {n i : Nat} {s : List UInt8} {fl R : List Field} (hi : ¬ (i < s.length)) (h : fl ++ scan n i (s.drop i) = R) : fl = R := by
  rw [scan_end (by omega)] at h; simpa using h
theorem scan_at_hash {n i : Nat} {s : List UInt8} {fl R : List Field} (hi : i < s.length) (hb : blankB ((s.getD i 0).toNat : Int) = false) (h35 : (s.getD i 0).toNat = 35) (h : fl ++ scan n i (s.drop i) = R) : fl = R := by
  rw [scan_remark hi hb h35] at h; simpa using h
theorem scan_at_blank {n i : Nat} {s : List UInt8} {fl R : List Field} (hb : blankB ((s.getD i 0).toNat : Int) = true) (h : fl ++ scan n i (s.drop i) = R) : fl ++ scan n (i + 1) (s.drop (i + 1)) = R := by
  rw [scan_skip (fun _ => hb)] at h; exact h
theorem scan_at_word {n i j : Nat} {s : List UInt8} {fl R : List Field} (hlt : i < s.length) (hb : blankB ((s.getD i 0).toNat : Int) = false) (h35 : ¬ ((s.getD i 0).toNat = 35)) (hij : i ≤ j) (hj : j ≤ s.length) (hw : ∀ m, i ≤ m → m < j → blankB ((s.getD m 0).toNat : Int) = false)
    (he : (j : Int) < (s.length : Int) → (!(blankB ((s.getD j 0).toNat : Int))) = false) (h : fl ++ scan n i (s.drop i) = R) : (fl ++ [⟨(s.take j).drop i, n, i + 1⟩]) ++ scan n (j + 1) (s.drop (j + 1)) = R ∧ i < j := by
  have hne : i ≠ j := by
    intro e
    subst e
    have := he (by omega)
    rw [hb] at this; cases this
  have hlt' : i < j := by omega
  have he' : j < s.length → blankB ((s.getD j 0).toNat : Int) = true := fun hh => by
    have := he (by omega)
    cases hbb : blankB ((s.getD j 0).toNat : Int) with
    | true => rfl
    | false => rw [hbb] at this; cases this
  rw [scan_step hlt' hj hw h35 he', scan_skip (n := n) he'] at h
  exact ⟨by simpa using h, hlt'⟩

theorem okB_go {c : Int} (h : (bif !(blankB c) then (bif c != 10 then (bif decide (c < 32) then true else decide (c > 126)) else false) else false) = false) : okB c = true := by
  unfold okB
  cases hb : blankB c with
  | true => rfl
  | false =>
    rw [hb] at h
    simp only [Bool.not_false, cond_true] at h
    by_cases h10 : c = 10
    · subst h10; rfl
    · have : (c != 10) = true := by simpa using h10
      rw [this] at h
      by_cases h32 : c < 32
      · simp [h32] at h
      · simp [h32] at h
        simp; omega
theorem okB_no {c : Int} (h : (bif !(blankB c) then (bif c != 10 then (bif decide (c < 32) then true else decide (c > 126)) else false) else false) = true) : okB c = false := by
  unfold okB
  cases hb : blankB c with
  | true => simp [hb] at h
  | false =>
    rw [hb] at h
    simp only [Bool.not_false, cond_true] at h
    by_cases h10 : c = 10
    · subst h10; simp at h
    · have : (c != 10) = true := by simpa using h10
      rw [this] at h
      by_cases h32 : c < 32
      · simp [h10]; omega
      · simp [h32] at h
        simp [h10]; omega
theorem readable_no {l : List UInt8} {k : Nat} (hk : k < l.length) (h : okB ((l.getD k 0).toNat : Int) = false) : false = readableB l := by
  have : (l.all fun b => okB b.toNat) = false := by
    cases hh : (l.all fun b => okB b.toNat) with
    | false => rfl
    | true =>
      have := List.all_eq_true.1 hh (l.getD k 0) (by rw [List.getD_eq_getElem?_getD, List.getElem?_eq_getElem hk]; exact List.getElem_mem _)
      rw [h] at this; cases this
  simp [readableB, this]
theorem readable_yes {l : List UInt8} (h : ∀ j, j < l.length → okB ((l.getD j 0).toNat : Int) = true) : decide ((l.length : Int) ≤ 65536) = readableB l := by
  have : (l.all fun b => okB b.toNat) = true := by
    refine List.all_eq_true.2 (fun b hb => ?_)
    obtain ⟨j, hj, rfl⟩ := List.mem_iff_getElem.1 hb
    have := h j hj
    rw [List.getD_eq_getElem?_getD, List.getElem?_eq_getElem hj] at this
    exact this
  rw [readableB, this, Bool.true_and]
  by_cases h : l.length ≤ 65536
  · rw [decide_eq_true h, decide_eq_true (by omega)]
  · rw [decide_eq_false h, decide_eq_false (by omega)]
theorem readable_len {l : List UInt8} (h : readableB l = true) : l.length ≤ 65536 := by
  simp [readableB] at h; exact h.2

def encF (f : Field) : AV := .agg [.str f.text, .lit (.int .i64 f.line), .lit (.int .i64 f.col)]
def encL (l : List Field) : AV := .list false 50 (l.map encF)
end
section
def errI (l : List UInt8) : Int := if readableB l then 0 else 2
def lexLines (l : List UInt8) : List (List Field) := if readableB l then lexFrom 1 (splitNl l) else []

theorem rok {c : Int} : (bif c == 9 then false else bif c == 10 then false else bif c == 13 then false else bif decide (c ≥ 32) then !decide (c ≤ 126) else true) = !(okB c) := by
  unfold okB blankB
  by_cases h9 : c = 9
  · subst h9; rfl
  by_cases h10 : c = 10
  · subst h10; rfl
  by_cases h13 : c = 13
  · subst h13; rfl
  by_cases h32 : c = 32
  · subst h32; rfl
  have e9 := beq_eq_false_iff_ne.2 h9
  have e10 := beq_eq_false_iff_ne.2 h10
  have e13 := beq_eq_false_iff_ne.2 h13
  have e32 := beq_eq_false_iff_ne.2 h32
  by_cases hg : 32 ≤ c <;> by_cases hl : c ≤ 126 <;> simp [e9, e10, e13, e32, hg, hl]
theorem rok_no {c : Int} (h : (bif c == 9 then false else bif c == 10 then false else bif c == 13 then false else bif decide (c ≥ 32) then !decide (c ≤ 126) else true) = true) : okB c = false := by
  rw [rok] at h; exact bnot_t h
theorem rok_go {c : Int} (h : (bif c == 9 then false else bif c == 10 then false else bif c == 13 then false else bif decide (c ≥ 32) then !decide (c ≤ 126) else true) = false) : okB c = true := by
  rw [rok] at h; exact bnot_f h
theorem rblank {c : Int} {rk : Bool} : (bif rk then true else bif c == 9 then true else bif c == 13 then true else c == 32) = (rk || blankB c) := by
  unfold blankB
  cases rk with
  | true => rfl
  | false =>
    by_cases h9 : c = 9
    · subst h9; rfl
    by_cases h13 : c = 13
    · subst h13; rfl
    have e9 := beq_eq_false_iff_ne.2 h9
    have e13 := beq_eq_false_iff_ne.2 h13
    cases h32 : c == 32 <;> simp [e9, e13, h32]
theorem rblank_t {c : Int} {rk : Bool} (h : (bif rk then true else bif c == 9 then true else bif c == 13 then true else c == 32) = true) : rk = true ∨ blankB c = true := by
  rw [rblank] at h; simpa using h
theorem rblank_f {c : Int} {rk : Bool} (h : (bif rk then true else bif c == 9 then true else bif c == 13 then true else c == 32) = false) : rk = false ∧ blankB c = false := by
  rw [rblank] at h; simpa using h
theorem rnl_t {i n c : Nat} (h : (bif (i : Int) == (n : Int) then true else (c : Int) == 10) = true) : i = n ∨ c = 10 := by
  by_cases e : i = n
  · exact .inl e
  · right
    have : ((i : Int) == (n : Int)) = false := by simp; omega
    rw [this] at h
    have := eq_of_beq h
    omega
theorem rnl_f {i n c : Nat} (h : (bif (i : Int) == (n : Int) then true else (c : Int) == 10) = false) : i ≠ n ∧ c ≠ 10 := by
  by_cases e : i = n
  · subst e; simp at h
  · have : ((i : Int) == (n : Int)) = false := by simp; omega
    rw [this] at h
    have := beq_eq_false_iff_ne.1 h
    exact ⟨e, by omega⟩

/-- One line's fields, if there are any. -/
def emit (fl : List Field) : List (List Field) := if fl.length = 0 then [] else [fl]
theorem lexFrom_cons (n : Nat) (s : List UInt8) (r : List (List UInt8)) : lexFrom n (s :: r) = emit (scan n 0 s) ++ lexFrom (n + 1) r := by
  rw [lexFrom, emit]
  split <;> rfl

/-- What the reference still has to do at place i of the text: now the fields of the line so far, its place col. -/
def refRest (l : List UInt8) (i n col : Nat) (remark : Bool) (now : List Field) : List (List Field) :=
  match splitNl (l.drop i) with
  | [] => []
  | s :: r => emit (now ++ (if remark then [] else scan n col s)) ++ lexFrom (n + 1) r

theorem splitNl_ne_nil (l : List UInt8) : splitNl l ≠ [] := by
  intro h
  have := splitNl_len l
  rw [h] at this; simp at this

theorem ref_start (l : List UInt8) : refRest l 0 1 0 false [] = lexFrom 1 (splitNl l) := by
  unfold refRest
  rw [List.drop_zero]
  cases h : splitNl l with
  | nil => exact absurd h (splitNl_ne_nil l)
  | cons s r => simp [lexFrom_cons]

theorem ref_last {l : List UInt8} {i n col : Nat} {rk : Bool} {now : List Field} (h : l.length ≤ i) : refRest l i n col rk now = emit now := by
  unfold refRest
  rw [List.drop_eq_nil_of_le h, splitNl_nil]
  simp [scan_nil, lexFrom]

theorem ref_nl {l : List UInt8} {i n col : Nat} {rk : Bool} {now : List Field} (h : i < l.length) (h10 : (l.getD i 0).toNat = 10) : refRest l i n col rk now = emit now ++ refRest l (i + 1) (n + 1) 0 false [] := by
  unfold refRest
  have hc : l.getD i 0 = 10 := by
    apply UInt8.toNat_inj.1; exact h10
  rw [drop_at h, hc, splitNl_10]
  cases hs : splitNl (l.drop (i + 1)) with
  | nil => exact absurd hs (splitNl_ne_nil _)
  | cons s r => simp [scan_nil, lexFrom_cons]

theorem ref_skip {l : List UInt8} {i n col : Nat} {rk : Bool} {now : List Field} (h : i < l.length) (h10 : ¬ ((l.getD i 0).toNat = 10)) (hb : rk = true ∨ blankB ((l.getD i 0).toNat : Int) = true) : refRest l i n col rk now = refRest l (i + 1) n (col + 1) rk now := by
  unfold refRest
  have hc : l.getD i 0 ≠ 10 := fun e => h10 (by rw [e]; rfl)
  obtain ⟨hd, tl, e1, e2⟩ := splitNl_ne hc (l.drop (i + 1))
  rw [drop_at h, e1, e2]
  rcases hb with rfl | hb
  · simp
  · simp only [scan_blank hb]

theorem ref_hash {l : List UInt8} {i n col : Nat} {now : List Field} (h : i < l.length) (hb : blankB ((l.getD i 0).toNat : Int) = false) (h35 : (l.getD i 0).toNat = 35) : refRest l i n col false now = refRest l i n col true now := by
  unfold refRest
  have hc : l.getD i 0 ≠ 10 := fun e => by rw [e] at h35; cases h35
  obtain ⟨hd, tl, e1, e2⟩ := splitNl_ne hc (l.drop (i + 1))
  rw [drop_at h, e2]
  simp only [scan_hash hb h35, if_true, if_neg (show ¬ (false = true) by simp)]

/-- A word's letters stand in one line. -/
theorem splitNl_word {l : List UInt8} {j : Nat} (hj : j ≤ l.length) : ∀ (d i : Nat), i + d = j → (∀ m, i ≤ m → m < j → (l.getD m 0).toNat ≠ 10) → ∃ s r, splitNl (l.drop j) = s :: r ∧ splitNl (l.drop i) = ((l.take j).drop i ++ s) :: r
  | 0, i, h, _ => by
    have : i = j := by omega
    subst this
    cases hs : splitNl (l.drop i) with
    | nil => exact absurd hs (splitNl_ne_nil _)
    | cons s r => exact ⟨s, r, rfl, by rw [List.drop_take]; simp⟩
  | d + 1, i, h, hw => by
    obtain ⟨s, r, e1, e2⟩ := splitNl_word hj d (i + 1) (by omega) (fun m h1 h2 => hw m (by omega) h2)
    refine ⟨s, r, e1, ?_⟩
    have hlt : i < l.length := by omega
    have hc : l.getD i 0 ≠ 10 := fun e => hw i (Nat.le_refl _) (by omega) (by rw [e]; rfl)
    obtain ⟨hd, tl, f1, f2⟩ := splitNl_ne hc (l.drop (i + 1))
    rw [e2] at f1
    cases f1
    rw [drop_at hlt, f2]
    congr 1
    rw [List.drop_take, List.drop_take, drop_at hlt, show j - i = (j - (i + 1)) + 1 by omega, List.take_succ_cons, List.cons_append]

theorem takeWhile_app (p : UInt8 → Bool) : ∀ (w s : List UInt8), (∀ c ∈ w, p c = true) → (∀ c r, s = c :: r → p c = false) → (w ++ s).takeWhile p = w ∧ (w ++ s).dropWhile p = s
  | [], [], _, _ => by simp
  | [], c :: r, _, h => by simp [h c r rfl]
  | c :: w, s, hw, h => by
    have h0 := hw c (List.mem_cons_self ..)
    have ih := takeWhile_app p w s (fun c hc => hw c (List.mem_cons_of_mem _ hc)) h
    simp [h0, ih]

theorem scan_wordS {n col : Nat} {w s : List UInt8} (hw0 : w ≠ []) (hw : ∀ c ∈ w, blankB (c.toNat : Int) = false) (h35 : ∀ c r, w = c :: r → c.toNat ≠ 35) (hs : ∀ c r, s = c :: r → blankB (c.toNat : Int) = true) :
    scan n col (w ++ s) = ⟨w, n, col + 1⟩ :: scan n (col + w.length) s := by
  cases w with
  | nil => exact absurd rfl hw0
  | cons c w =>
    obtain ⟨h1, h2⟩ := takeWhile_app (fun c => !blankB c.toNat) w s (fun c hc => by show (!blankB (c.toNat : Int)) = true; rw [hw c (List.mem_cons_of_mem _ hc)]; rfl) (fun c r e => by show (!blankB (c.toNat : Int)) = false; rw [hs c r e]; rfl)
    rw [List.cons_append, scan_word (hw c (List.mem_cons_self ..)) (h35 c w rfl), h1, h2]
    congr 2
    simp; omega

theorem take_drop_mem {l : List UInt8} {i j : Nat} {c : UInt8} (h : c ∈ (l.take j).drop i) : ∃ m, i ≤ m ∧ m < j ∧ m < l.length ∧ c = l.getD m 0 := by
  obtain ⟨k, hk, rfl⟩ := List.mem_iff_getElem.1 h
  simp at hk
  refine ⟨i + k, by omega, by omega, by omega, ?_⟩
  rw [List.getD_eq_getElem?_getD, List.getElem?_eq_getElem (by omega)]
  simp

/-- In a text that may be read, what is above a blank is no blank, and no line's end; what isn't is one of both. -/
theorem ok_above {c : Int} (hok : okB c = true) (h : c > 32) : blankB c = false ∧ c ≠ 10 := by
  unfold blankB
  have h1 : c ≠ 32 := by omega
  have h2 : c ≠ 9 := by omega
  have h3 : c ≠ 13 := by omega
  simp [h1, h2, h3]; omega
theorem ok_below {c : Int} (hok : okB c = true) (h : ¬ (c > 32)) : blankB c = true ∨ c = 10 := by
  unfold okB at hok
  cases hb : blankB c with
  | true => exact .inl rfl
  | false =>
    rw [hb] at hok
    by_cases h10 : c = 10
    · exact .inr h10
    · simp [h10] at hok
      have : c = 32 := by omega
      subst this
      simp [blankB] at hb

theorem readable_at {l : List UInt8} (h : readableB l = true) {j : Nat} (hj : j < l.length) : okB ((l.getD j 0).toNat : Int) = true := by
  simp only [readableB, Bool.and_eq_true] at h
  have := List.all_eq_true.1 h.1 (l.getD j 0) (by rw [List.getD_eq_getElem?_getD, List.getElem?_eq_getElem hj]; exact List.getElem_mem _)
  exact this

theorem ref_word {l : List UInt8} {i j n col : Nat} {now : List Field} (hrd : readableB l = true) (hi : i < l.length) (h10 : ¬ ((l.getD i 0).toNat = 10)) (hb : blankB ((l.getD i 0).toNat : Int) = false) (h35 : ¬ ((l.getD i 0).toNat = 35)) (hij : i ≤ j) (hj : j ≤ l.length)
    (hw : ∀ m, i ≤ m → m < j → ((l.getD m 0).toNat : Int) > 32) (he : (j : Int) < (l.length : Int) → ¬ (((l.getD j 0).toNat : Int) > 32)) :
    refRest l i n col false now = refRest l j n (col + (j - i)) false (now ++ [⟨(l.take j).drop i, n, col + 1⟩]) ∧ i < j := by
  have hlt : i < j := by
    rcases Nat.lt_or_ge i j with h | h
    · exact h
    · have e : i = j := by omega
      subst e
      have := ok_below (readable_at hrd hi) (he (by omega))
      rcases this with h | h
      · rw [hb] at h; cases h
      · exact absurd (by omega) h10
  refine ⟨?_, hlt⟩
  have hab : ∀ m, i ≤ m → m < j → blankB ((l.getD m 0).toNat : Int) = false ∧ ((l.getD m 0).toNat : Int) ≠ 10 := fun m h1 h2 => ok_above (readable_at hrd (by omega)) (hw m h1 h2)
  obtain ⟨s, r, e1, e2⟩ := splitNl_word hj (j - i) i (by omega) (fun m h1 h2 e => (hab m h1 h2).2 (by omega))
  unfold refRest
  rw [e1, e2]
  have hwl : ((l.take j).drop i).length = j - i := by simp; omega
  have hs : ∀ c t, s = c :: t → blankB (c.toNat : Int) = true := by
    intro c t ec
    subst ec
    rcases Nat.lt_or_ge j l.length with hjl | hjl
    · by_cases hc : l.getD j 0 = 10
      · rw [drop_at hjl, hc, splitNl_10] at e1
        cases e1
      · obtain ⟨hd, tl, f1, f2⟩ := splitNl_ne hc (l.drop (j + 1))
        rw [drop_at hjl, f2] at e1
        cases e1
        rcases ok_below (readable_at hrd hjl) (he (by omega)) with h | h
        · exact h
        · exact absurd (UInt8.toNat_inj.1 (show (l.getD j 0).toNat = 10 by omega)) hc
    · rw [List.drop_eq_nil_of_le hjl, splitNl_nil] at e1
      cases e1
  have hsc := scan_wordS (n := n) (col := col) (w := (l.take j).drop i) (s := s) (fun e => by rw [e] at hwl; simp at hwl; omega)
    (fun c hc => by obtain ⟨m, h1, h2, _, rfl⟩ := take_drop_mem hc; exact (hab m h1 h2).1)
    (fun c t ec e => by
      have e0 : (l.take j).drop i = l.getD i 0 :: ((l.take j).drop i).tail := by
        rw [List.drop_take, drop_at hi, show j - i = (j - i - 1) + 1 by omega, List.take_succ_cons]; rfl
      rw [e0] at ec
      cases ec
      exact h35 e) hs
  simp only [Bool.false_eq_true, if_false, hsc, hwl]
  simp

/-- What holds at the reference's loop's head. -/
def RInv (l : List UInt8) (i n bg : Nat) (rk : Bool) (now : List Field) (out : List (List Field)) : Prop :=
  (i ≤ l.length ∧ out ++ refRest l i n (i - bg) rk now = lexFrom 1 (splitNl l)) ∨ (i = l.length + 1 ∧ out = lexFrom 1 (splitNl l))

theorem RInv.start (l : List UInt8) : RInv l 0 1 0 false [] [] := .inl ⟨Nat.zero_le _, by rw [List.nil_append]; exact ref_start l⟩
theorem RInv.done {l : List UInt8} {i n bg : Nat} {rk : Bool} {now : List Field} {out : List (List Field)} (h : RInv l i n bg rk now out) (hi : ¬ (i ≤ l.length)) : out = lexFrom 1 (splitNl l) := by
  rcases h with ⟨h1, _⟩ | ⟨_, h2⟩
  · exact absurd h1 hi
  · exact h2
theorem RInv.nl {l : List UInt8} {i n bg : Nat} {rk : Bool} {now : List Field} {out out' : List (List Field)} (h : RInv l i n bg rk now out) (hi : i ≤ l.length) (hc : i = l.length ∨ (l.getD i 0).toNat = 10) (ho : out ++ emit now = out') : RInv l (i + 1) (n + 1) (i + 1) false [] out' := by
  rcases h with ⟨h1, h2⟩ | ⟨h1, _⟩
  · subst ho
    by_cases e : i = l.length
    · right
      rw [ref_last (by omega)] at h2
      exact ⟨by omega, h2⟩
    · left
      rw [ref_nl (by omega) (hc.resolve_left e)] at h2
      refine ⟨by omega, ?_⟩
      rw [List.append_assoc, Nat.sub_self]
      exact h2
  · omega
theorem RInv.skip {l : List UInt8} {i n bg : Nat} {rk : Bool} {now : List Field} {out : List (List Field)} (h : RInv l i n bg rk now out) (hbg : bg ≤ i) (hi : i ≤ l.length) (hc : i ≠ l.length ∧ (l.getD i 0).toNat ≠ 10) (hb : rk = true ∨ blankB ((l.getD i 0).toNat : Int) = true) : RInv l (i + 1) n bg rk now out := by
  rcases h with ⟨h1, h2⟩ | ⟨h1, _⟩
  · left
    rw [ref_skip (by omega) hc.2 hb] at h2
    exact ⟨by omega, by rw [show i + 1 - bg = i - bg + 1 by omega]; exact h2⟩
  · omega
theorem RInv.hash {l : List UInt8} {i n bg : Nat} {rk : Bool} {now : List Field} {out : List (List Field)} (h : RInv l i n bg rk now out) (hi : i ≤ l.length) (hc : i ≠ l.length ∧ (l.getD i 0).toNat ≠ 10) (hb : rk = false ∧ blankB ((l.getD i 0).toNat : Int) = false) (h35 : (l.getD i 0).toNat = 35) : RInv l i n bg true now out := by
  rcases h with ⟨h1, h2⟩ | ⟨h1, _⟩
  · left
    rw [hb.1, ref_hash (by omega) hb.2 h35] at h2
    exact ⟨h1, h2⟩
  · omega
theorem RInv.word {l : List UInt8} {i j n bg : Nat} {rk : Bool} {now : List Field} {out : List (List Field)} (h : RInv l i n bg rk now out) (hrd : readableB l = true) (hbg : bg ≤ i) (hi : i ≤ l.length) (hc : i ≠ l.length ∧ (l.getD i 0).toNat ≠ 10) (hb : rk = false ∧ blankB ((l.getD i 0).toNat : Int) = false) (h35 : ¬ ((l.getD i 0).toNat = 35))
    (hij : i ≤ j) (hj : j ≤ l.length) (hw : ∀ m, i ≤ m → m < j → decide (((l.getD m 0).toNat : Int) > 32) = true) (he : (j : Int) < (l.length : Int) → decide (((l.getD j 0).toNat : Int) > 32) = false) :
    RInv l j n bg rk (now ++ [Field.mk ((l.take j).drop i) n (i - bg + 1)]) out ∧ i < j := by
  rcases h with ⟨h1, h2⟩ | ⟨h1, _⟩
  · rw [hb.1] at h2 ⊢
    obtain ⟨h3, h4⟩ := ref_word (n := n) (col := i - bg) (now := now) hrd (by omega) hc.2 hb.2 h35 hij hj (fun m h1 h2 => of_decide_eq_true (hw m h1 h2)) (fun h => of_decide_eq_false (he h))
    refine ⟨.inl ⟨hj, ?_⟩, h4⟩
    rw [h3, show i - bg + (j - i) = j - bg by omega] at h2
    exact h2
  · omega
theorem emit_some {fl : List Field} {out : List (List Field)} (h : fl.length > 0) : out ++ emit fl = out ++ [fl] := by
  unfold emit; rw [if_neg (by omega)]
theorem emit_none {fl : List Field} {out : List (List Field)} (h : ¬ (fl.length > 0)) : out ++ emit fl = out := by
  unfold emit; rw [if_pos (by omega)]; simp
end
section
def f0 : Field := ⟨[], 0, 0⟩
theorem getD_map {α : Type} {f : α → AV} {l : List α} {j : Nat} {a : α} (h : j < l.length) : (l.map f)[j]? = some (f (l.getD j a)) := by
  rw [List.getElem?_map, List.getD_eq_getElem?_getD, List.getElem?_eq_getElem h]; rfl
/-- Lists that are no longer than memory. -/
def Small (x : List (List Field)) : Prop := x.length ≤ 140737488355328 ∧ ∀ i, (x.getD i []).length ≤ 140737488355328
/-- A line's words, with blanks between. -/
def wordsT : List Field → List UInt8
  | [] => []
  | f :: r => f.text ++ r.flatMap fun g => 32 :: g.text
/-- Lines, joined. -/
def joinT (x : List (List Field)) : List UInt8 := x.flatMap fun fs => wordsT fs ++ [10]

theorem wordsT_snoc (fs : List Field) (f : Field) : wordsT (fs ++ [f]) = (if fs.length > 0 then wordsT fs ++ [32] else wordsT fs) ++ f.text := by
  cases fs with
  | nil => simp [wordsT]
  | cons a r => simp [wordsT]
theorem take_snoc {α : Type} {d : α} {l : List α} {k : Nat} (h : k < l.length) : l.take (k + 1) = l.take k ++ [l.getD k d] := by
  rw [List.take_succ_eq_append_getElem h, List.getD_eq_getElem?_getD, List.getElem?_eq_getElem h]; rfl
theorem joinT_snoc (x : List (List Field)) (fs : List Field) : joinT (x ++ [fs]) = joinT x ++ wordsT fs ++ [10] := by
  simp [joinT]
/-- What is joined so far: i lines, and k words of the next. -/
def joinAt (x : List (List Field)) (i k : Nat) : List UInt8 := joinT (x.take i) ++ wordsT ((x.getD i []).take k)
theorem joinAt_0 (x : List (List Field)) (i : Nat) : joinAt x i 0 = joinT (x.take i) := by simp [joinAt, wordsT]
theorem joinAt_word {x : List (List Field)} {i k : Nat} (hk : k < (x.getD i []).length) :
    joinAt x i (k + 1) = (if k > 0 then joinAt x i k ++ [32] else joinAt x i k) ++ ((x.getD i []).getD k f0).text := by
  unfold joinAt
  rw [take_snoc (d := f0) hk, wordsT_snoc]
  have : ((x.getD i []).take k).length = k := by rw [List.length_take]; omega
  rw [this]
  split <;> simp
theorem joinAt_line {x : List (List Field)} {i : Nat} (hi : i < x.length) : joinT (x.take (i + 1)) = joinAt x i (x.getD i []).length ++ [10] := by
  unfold joinAt
  rw [take_snoc (d := []) hi, joinT_snoc, List.take_length]
theorem joinT_le {x : List (List Field)} (i : Nat) : (joinT (x.take i)).length ≤ (joinT x).length := by
  have : joinT x = joinT (x.take i) ++ joinT (x.drop i) := by
    rw [joinT, joinT, joinT, ← List.flatMap_append, List.take_append_drop]
  rw [this, List.length_append]; omega
theorem joinAt_mono {x : List (List Field)} {i : Nat} : ∀ (d k : Nat), k + d = (x.getD i []).length → (joinAt x i k).length ≤ (joinAt x i (x.getD i []).length).length
  | 0, k, h => by rw [show k = (x.getD i []).length by omega]; exact Nat.le_refl _
  | d + 1, k, h => by
    have h1 := joinAt_mono (x := x) (i := i) d (k + 1) (by omega)
    have h2 : (joinAt x i k).length ≤ (joinAt x i (k + 1)).length := by
      rw [joinAt_word (by omega), List.length_append]
      split
      · rw [List.length_append]; omega
      · omega
    omega
theorem joinAt_le {x : List (List Field)} {i k : Nat} (hi : i < x.length) (hk : k ≤ (x.getD i []).length) : (joinAt x i k).length + 1 ≤ (joinT x).length := by
  have h1 := joinAt_mono (x := x) (i := i) ((x.getD i []).length - k) k (by omega)
  have h2 := joinT_le (x := x) (i + 1)
  rw [joinAt_line hi, List.length_append] at h2
  have : ([10] : List UInt8).length = 1 := rfl
  omega
theorem joinAt_le2 {x : List (List Field)} {i k : Nat} (hi : i < x.length) (hk : k < (x.getD i []).length) : (joinAt x i k).length + (if k > 0 then 1 else 0) + ((x.getD i []).getD k f0).text.length + 1 ≤ (joinT x).length := by
  have h1 := joinAt_le hi (show k + 1 ≤ (x.getD i []).length by omega)
  rw [joinAt_word hk, List.length_append] at h1
  split <;> rename_i h <;> simp only [h, if_true, if_false] at h1 <;> (try rw [List.length_append] at h1) <;> (try have : ([32] : List UInt8).length = 1 := rfl) <;> omega
theorem joinAt_pos {x : List (List Field)} {i k : Nat} (hk : k < (x.getD i []).length) (h : k > 0) : (joinAt x i k ++ [32]) ++ ((x.getD i []).getD k f0).text = joinAt x i (k + 1) := by
  rw [joinAt_word hk, if_pos h]
theorem joinAt_neg {x : List (List Field)} {i k : Nat} (hk : k < (x.getD i []).length) (h : ¬ k > 0) : joinAt x i k ++ ((x.getD i []).getD k f0).text = joinAt x i (k + 1) := by
  rw [joinAt_word hk, if_neg h]
theorem joinAt_end {x : List (List Field)} {i k : Nat} (hi : i < x.length) (hk : k ≤ (x.getD i []).length) (h : ¬ k < (x.getD i []).length) : joinAt x i k ++ [10] = joinT (x.take (i + 1)) := by
  rw [joinAt_line hi, show k = (x.getD i []).length by omega]
theorem join_done {x : List (List Field)} {i : Nat} (h1 : i ≤ x.length) (h : ¬ i < x.length) : joinT (x.take i) = joinT x := by
  rw [show i = x.length by omega, List.take_length]
end
section
theorem scan_ind {P : Nat → Nat → List UInt8 → Prop} (h0 : ∀ n i, P n i []) (hb : ∀ n i c r, blankB c.toNat = true → P n (i + 1) r → P n i (c :: r)) (hh : ∀ n i c r, blankB c.toNat = false → c.toNat = 35 → P n i (c :: r))
    (hw : ∀ n i c r, blankB c.toNat = false → c.toNat ≠ 35 → P n (i + 1 + (r.takeWhile (fun c => !blankB c.toNat)).length) (r.dropWhile (fun c => !blankB c.toNat)) → P n i (c :: r)) : ∀ s n i, P n i s := by
  intro s
  induction h : s.length using Nat.strongRecOn generalizing s with
  | _ m ih =>
    intro n i
    cases s with
    | nil => exact h0 n i
    | cons c r =>
      subst h
      cases hbl : blankB c.toNat with
      | true => exact hb n i c r hbl (ih r.length (by simp) r rfl n (i + 1))
      | false =>
        by_cases h35 : c.toNat = 35
        · exact hh n i c r hbl h35
        · have hl := (List.dropWhile_sublist (l := r) (fun c => !blankB c.toNat)).length_le
          exact hw n i c r hbl h35 (ih _ (by simp; omega) _ rfl n _)

/-- A word: not empty; without blanks and lines' ends; no remark. -/
def GoodW (w : List UInt8) : Prop := w ≠ [] ∧ (∀ c ∈ w, blankB (c.toNat : Int) = false) ∧ (∀ c r, w = c :: r → c.toNat ≠ 35)
theorem scan_good : ∀ (s : List UInt8) (n i : Nat), ∀ f ∈ scan n i s, GoodW f.text ∧ f.line = n ∧ (∀ c ∈ f.text, c ∈ s) := by
  refine scan_ind (P := fun n i s => ∀ f ∈ scan n i s, GoodW f.text ∧ f.line = n ∧ (∀ c ∈ f.text, c ∈ s)) ?_ ?_ ?_ ?_
  · intro n i f hf; rw [scan_nil] at hf; cases hf
  · intro n i c r h ih f hf
    rw [scan_blank h] at hf
    obtain ⟨h1, h2, h3⟩ := ih f hf
    exact ⟨h1, h2, fun c hc => List.mem_cons_of_mem _ (h3 c hc)⟩
  · intro n i c r h h2 f hf; rw [scan_hash h h2] at hf; cases hf
  · intro n i c r h h2 ih f hf
    rw [scan_word h h2] at hf
    rcases List.mem_cons.1 hf with rfl | hf
    · refine ⟨⟨by simp, fun x hx => ?_, fun x t e => by cases e; exact h2⟩, rfl, fun x hx => ?_⟩
      · rcases List.mem_cons.1 hx with rfl | hx
        · exact h
        · have := List.all_eq_true.1 (List.all_takeWhile (p := fun (c : UInt8) => !blankB (c.toNat : Int)) (l := r)) x hx
          exact bnot_t this
      · rcases List.mem_cons.1 hx with rfl | hx
        · exact List.mem_cons_self ..
        · exact List.mem_cons_of_mem _ ((List.takeWhile_sublist _).mem hx)
    · obtain ⟨h3, h4, h5⟩ := ih f hf
      exact ⟨h3, h4, fun c hc => List.mem_cons_of_mem _ ((List.dropWhile_sublist _).mem (h5 c hc))⟩
/-- Lines' texts. -/
def textsOf (x : List (List Field)) : List (List (List UInt8)) := x.map fun fs => fs.map (·.text)
theorem textsOf_len (x : List (List Field)) : (textsOf x).length = x.length := by simp [textsOf]
def wT : List (List UInt8) → List UInt8
  | [] => []
  | w :: r => w ++ r.flatMap fun v => 32 :: v
def jT (x : List (List (List UInt8))) : List UInt8 := x.flatMap fun ws => wT ws ++ [10]
theorem wordsT_eq (fs : List Field) : wordsT fs = wT (fs.map (·.text)) := by
  cases fs with
  | nil => rfl
  | cons f r => simp [wordsT, wT, List.flatMap_map]
theorem joinT_eq (x : List (List Field)) : joinT x = jT (textsOf x) := by
  simp [joinT, jT, textsOf, List.flatMap_map, wordsT_eq]
theorem jT_app (x y : List (List (List UInt8))) : jT (x ++ y) = jT x ++ jT y := by simp [jT]
/-! Texts one behind the other. -/
theorem splitNl_app (a b : List UInt8) : splitNl (a ++ 10 :: b) = splitNl a ++ splitNl b := by
  induction a with
  | nil => rw [List.nil_append, splitNl_10, splitNl_nil]; rfl
  | cons c r ih =>
    by_cases hc : c = 10
    · subst hc
      rw [List.cons_append, splitNl_10, splitNl_10, ih]; rfl
    · obtain ⟨hd, tl, e1, e2⟩ := splitNl_ne hc (r ++ 10 :: b)
      obtain ⟨hd', tl', e3, e4⟩ := splitNl_ne hc r
      rw [List.cons_append, e2, e4]
      rw [ih, e3, List.cons_append] at e1
      cases e1
      rfl
/-! The length of what is joined. -/
theorem wT_len (ws : List (List UInt8)) (h : ws ≠ []) : (wT ws).length + 1 = (ws.map fun w => w.length + 1).sum := by
  cases ws with
  | nil => exact absurd rfl h
  | cons w r =>
    simp only [wT, List.length_append, List.map_cons, List.sum_cons]
    have : ∀ (r : List (List UInt8)), (r.flatMap fun v => 32 :: v).length = (r.map fun w => w.length + 1).sum := by
      intro r; induction r with
      | nil => rfl
      | cons v t ih => simp only [List.flatMap_cons, List.length_append, List.length_cons, List.map_cons, List.sum_cons, ih]
    rw [this]; omega
theorem words_len2 : ∀ (s : List UInt8) (n i : Nat), ((scan n i s).map fun f => f.text.length + 1).sum ≤ s.length + 1 ∧ ((s = [] ∨ ∃ x t, s = x :: t ∧ blankB x.toNat = true) → ((scan n i s).map fun f => f.text.length + 1).sum ≤ s.length) := by
  refine scan_ind (P := fun n i s => ((scan n i s).map fun f => f.text.length + 1).sum ≤ s.length + 1 ∧ ((s = [] ∨ ∃ x t, s = x :: t ∧ blankB x.toNat = true) → ((scan n i s).map fun f => f.text.length + 1).sum ≤ s.length)) ?_ ?_ ?_ ?_
  · intro n i; rw [scan_nil]; simp
  · intro n i c r h ih
    rw [scan_blank h]
    have := ih.1
    simp only [List.length_cons]
    exact ⟨by omega, fun _ => by omega⟩
  · intro n i c r h h2; rw [scan_hash h h2]; simp
  · intro n i c r h h2 ih
    rw [scan_word h h2]
    simp only [List.map_cons, List.sum_cons, List.length_cons]
    have hl : (r.takeWhile (fun c => !blankB c.toNat)).length + (r.dropWhile (fun c => !blankB c.toNat)).length = r.length := by
      rw [← List.length_append, List.takeWhile_append_dropWhile]
    have hd : r.dropWhile (fun c => !blankB c.toNat) = [] ∨ ∃ x t, r.dropWhile (fun c => !blankB c.toNat) = x :: t ∧ blankB x.toNat = true := by
      cases hx : r.dropWhile (fun c => !blankB c.toNat) with
      | nil => exact .inl rfl
      | cons x t =>
        refine .inr ⟨x, t, rfl, ?_⟩
        have := List.head_dropWhile_not (fun (c : UInt8) => !blankB (c.toNat : Int)) (l := r) (by rw [hx]; simp)
        simp only [hx, List.head_cons] at this
        exact bnot_f this
    have := ih.2 hd
    refine ⟨by omega, fun h3 => ?_⟩
    rcases h3 with h3 | ⟨x, t, h3, h4⟩
    · cases h3
    · cases h3; rw [h] at h4; cases h4
theorem words_len (s : List UInt8) (n i : Nat) : ((scan n i s).map fun f => f.text.length + 1).sum ≤ s.length + 1 := (words_len2 s n i).1
theorem wordsT_len (s : List UInt8) (n i : Nat) : (wordsT (scan n i s)).length ≤ s.length := by
  have h := words_len s n i
  rw [wordsT_eq]
  by_cases h0 : (scan n i s).map (·.text) = []
  · rw [h0]; exact Nat.zero_le _
  · have := wT_len _ h0
    rw [List.map_map] at this
    have e : ((scan n i s).map ((fun (w : List UInt8) => w.length + 1) ∘ fun x => x.text)).sum = ((scan n i s).map fun f => f.text.length + 1).sum := rfl
    omega
/-- What is joined is no longer than the text, but for one line's end. -/
theorem joinT_from_len (ls : List (List UInt8)) : ∀ n, (joinT (lexFrom n ls)).length ≤ (ls.map fun s => s.length + 1).sum := by
  induction ls with
  | nil => intro n; exact Nat.zero_le _
  | cons s r ih =>
    intro n
    have h1 := ih (n + 1)
    have h2 := wordsT_len s n 0
    rw [lexFrom]
    simp only [List.map_cons, List.sum_cons]
    split
    · omega
    · simp only [joinT, List.flatMap_cons, List.length_append] at h1 ⊢
      have : ([10] : List UInt8).length = 1 := rfl
      omega
theorem splitNl_sum : ∀ (l : List UInt8), ((splitNl l).map fun s => s.length + 1).sum = l.length + 1
  | [] => rfl
  | c :: r => by
    have ih := splitNl_sum r
    by_cases hc : c = 10
    · subst hc; rw [splitNl_10]; simp only [List.map_cons, List.sum_cons, List.length_nil, List.length_cons]; omega
    · obtain ⟨hd, tl, e1, e2⟩ := splitNl_ne hc r
      rw [e1] at ih
      rw [e2]
      simp only [List.map_cons, List.sum_cons, List.length_cons] at ih ⊢
      omega
theorem joinT_len (l : List UInt8) : (joinT (lexLines l)).length ≤ l.length + 1 := by
  unfold lexLines
  split
  · rw [← splitNl_sum]; exact joinT_from_len _ _
  · exact Nat.zero_le _
theorem lexFrom_mem (ls : List (List UInt8)) : ∀ n, ∀ fs ∈ lexFrom n ls, ∃ s ∈ ls, ∃ m, fs = scan m 0 s ∧ fs ≠ [] := by
  induction ls with
  | nil => intro n fs h; cases h
  | cons s r ih =>
    intro n fs h
    rw [lexFrom] at h
    split at h
    · obtain ⟨s', h1, h2⟩ := ih _ fs h; exact ⟨s', List.mem_cons_of_mem _ h1, h2⟩
    · rename_i h0
      rcases List.mem_cons.1 h with rfl | h
      · exact ⟨s, List.mem_cons_self .., n, rfl, fun e => h0 (by rw [e]; rfl)⟩
      · obtain ⟨s', h1, h2⟩ := ih _ fs h; exact ⟨s', List.mem_cons_of_mem _ h1, h2⟩
/-- A line's end stands in no line. -/
theorem splitNl_no10 : ∀ (l : List UInt8), ∀ s ∈ splitNl l, (10 : UInt8) ∉ s
  | [], s, h => by rw [splitNl_nil] at h; simp at h; subst h; simp
  | c :: r, s, h => by
    have ih := splitNl_no10 r
    by_cases hc : c = 10
    · subst hc
      rw [splitNl_10] at h
      rcases List.mem_cons.1 h with rfl | h
      · simp
      · exact ih s h
    · obtain ⟨hd, tl, e1, e2⟩ := splitNl_ne hc r
      rw [e2] at h
      rw [e1] at ih
      rcases List.mem_cons.1 h with rfl | h
      · intro hm
        rcases List.mem_cons.1 hm with e | e
        · exact hc e.symm
        · exact ih hd (List.mem_cons_self ..) e
      · exact ih s (List.mem_cons_of_mem _ h)
theorem splitNl_sub : ∀ (l : List UInt8), ∀ s ∈ splitNl l, ∀ c ∈ s, c ∈ l
  | [], s, h, c, hc => by rw [splitNl_nil] at h; simp at h; subst h; cases hc
  | x :: r, s, h, c, hc => by
    have ih := splitNl_sub r
    by_cases hx : x = 10
    · subst hx
      rw [splitNl_10] at h
      rcases List.mem_cons.1 h with rfl | h
      · cases hc
      · exact List.mem_cons_of_mem _ (ih s h c hc)
    · obtain ⟨hd, tl, e1, e2⟩ := splitNl_ne hx r
      rw [e2] at h
      rw [e1] at ih
      rcases List.mem_cons.1 h with rfl | h
      · rcases List.mem_cons.1 hc with rfl | hc
        · exact List.mem_cons_self ..
        · exact List.mem_cons_of_mem _ (ih hd (List.mem_cons_self ..) c hc)
      · exact List.mem_cons_of_mem _ (ih s (List.mem_cons_of_mem _ h) c hc)
theorem lex_good (l : List UInt8) : ∀ fs ∈ lexLines l, fs ≠ [] ∧ ∀ f ∈ fs, GoodW f.text ∧ (∀ c ∈ f.text, c ≠ 10 ∧ okB (c.toNat : Int) = true) := by
  intro fs h
  unfold lexLines at h
  split at h
  · rename_i hr
    obtain ⟨s, hs, m, rfl, h0⟩ := lexFrom_mem _ _ fs h
    refine ⟨h0, fun f hf => ?_⟩
    obtain ⟨h1, _, h3⟩ := scan_good s m 0 f hf
    refine ⟨h1, fun c hc => ⟨fun e => ?_, ?_⟩⟩
    · subst e; exact splitNl_no10 l s hs (h3 _ hc)
    · simp only [readableB, Bool.and_eq_true] at hr
      exact List.all_eq_true.1 hr.1 c (splitNl_sub l s hs c (h3 c hc))
  · cases h
end
section
theorem blank32 : blankB ((32 : UInt8).toNat : Int) = true := rfl
theorem scan_blanks : ∀ (ws : List (List UInt8)), (∀ w ∈ ws, GoodW w) → ∀ n i, (scan n i (ws.flatMap fun v => 32 :: v)).map (·.text) = ws
  | [], _, n, i => by simp [scan_nil]
  | w :: r, h, n, i => by
    have hw := h w (List.mem_cons_self ..)
    have ih := scan_blanks r (fun v hv => h v (List.mem_cons_of_mem _ hv))
    rw [List.flatMap_cons, List.cons_append, scan_blank blank32, scan_wordS hw.1 hw.2.1 hw.2.2]
    · simp only [List.map_cons, ih]
    · intro c t e
      cases r with
      | nil => cases e
      | cons v t' => rw [List.flatMap_cons] at e; cases e; exact blank32
theorem scan_wT (ws : List (List UInt8)) (h : ∀ w ∈ ws, GoodW w) (n i : Nat) : (scan n i (wT ws)).map (·.text) = ws := by
  cases ws with
  | nil => simp [wT, scan_nil]
  | cons w r =>
    have hw := h w (List.mem_cons_self ..)
    have ih := scan_blanks r (fun v hv => h v (List.mem_cons_of_mem _ hv))
    rw [wT, scan_wordS hw.1 hw.2.1 hw.2.2]
    · simp only [List.map_cons, ih]
    · intro c t e
      cases r with
      | nil => cases e
      | cons v t' => rw [List.flatMap_cons] at e; cases e; exact blank32
theorem splitNl_one : ∀ (s : List UInt8), (10 : UInt8) ∉ s → splitNl s = [s]
  | [], _ => rfl
  | c :: r, h => by
    have ih := splitNl_one r (fun e => h (List.mem_cons_of_mem _ e))
    obtain ⟨hd, tl, e1, e2⟩ := splitNl_ne (c := c) (fun e => h (by rw [e]; exact List.mem_cons_self ..)) r
    rw [ih] at e1
    cases e1
    exact e2
theorem wT_mem {ws : List (List UInt8)} {c : UInt8} (h : c ∈ wT ws) : c = 32 ∨ ∃ w ∈ ws, c ∈ w := by
  cases ws with
  | nil => cases h
  | cons w r =>
    rw [wT, List.mem_append] at h
    rcases h with h | h
    · exact .inr ⟨w, List.mem_cons_self .., h⟩
    · obtain ⟨v, hv, hc⟩ := List.mem_flatMap.1 h
      rcases List.mem_cons.1 hc with rfl | hc
      · exact .inl rfl
      · exact .inr ⟨v, List.mem_cons_of_mem _ hv, hc⟩
/-- Words that may be joined: good ones, without lines' ends, of readable letters. -/
def JoinOk (x : List (List (List UInt8))) : Prop := ∀ ws ∈ x, ws ≠ [] ∧ ∀ w ∈ ws, GoodW w ∧ ∀ c ∈ w, c ≠ 10 ∧ okB (c.toNat : Int) = true
theorem splitNl_jT : ∀ (x : List (List (List UInt8))), JoinOk x → splitNl (jT x) = x.map wT ++ [[]]
  | [], _ => rfl
  | ws :: r, h => by
    have ih := splitNl_jT r (fun v hv => h v (List.mem_cons_of_mem _ hv))
    have e : jT (ws :: r) = wT ws ++ 10 :: jT r := by simp [jT]
    rw [e, splitNl_app, ih, splitNl_one]
    · rfl
    · intro hm
      rcases wT_mem hm with h1 | ⟨w, hw, hc⟩
      · cases h1
      · exact ((h ws (List.mem_cons_self ..)).2 w hw).2 10 hc |>.1 rfl
def relaid : Nat → List (List (List UInt8)) → List (List Field)
  | _, [] => []
  | n, ws :: r => scan n 0 (wT ws) :: relaid (n + 1) r
theorem lexFrom_wT : ∀ (x : List (List (List UInt8))) (n : Nat), JoinOk x → lexFrom n (x.map wT ++ [[]]) = relaid n x
  | [], n, _ => by simp [lexFrom, relaid, scan_nil]
  | ws :: r, n, h => by
    have ih := lexFrom_wT r (n + 1) (fun v hv => h v (List.mem_cons_of_mem _ hv))
    have hs := scan_wT ws (fun w hw => ((h ws (List.mem_cons_self ..)).2 w hw).1) n 0
    rw [List.map_cons, List.cons_append, lexFrom, ih, relaid, if_neg]
    intro e
    rw [List.length_eq_zero_iff.1 e] at hs
    exact (h ws (List.mem_cons_self ..)).1 hs.symm
theorem relaid_texts : ∀ (x : List (List (List UInt8))) (n : Nat), JoinOk x → textsOf (relaid n x) = x
  | [], n, _ => rfl
  | ws :: r, n, h => by
    have ih := relaid_texts r (n + 1) (fun v hv => h v (List.mem_cons_of_mem _ hv))
    have hs := scan_wT ws (fun w hw => ((h ws (List.mem_cons_self ..)).2 w hw).1) n 0
    simp only [textsOf] at ih
    simp only [relaid, textsOf, List.map_cons, hs, ih]
theorem relaid_line : ∀ (x : List (List (List UInt8))) (n i : Nat) (fs : List Field), (relaid n x)[i]? = some fs → ∀ f ∈ fs, f.line = n + i
  | [], n, i, fs, h => by cases h
  | ws :: r, n, 0, fs, h => by
    simp only [relaid, List.getElem?_cons_zero, Option.some.injEq] at h
    subst h
    intro f hf
    exact (scan_good _ _ _ f hf).2.1
  | ws :: r, n, i + 1, fs, h => by
    simp only [relaid, List.getElem?_cons_succ] at h
    intro f hf
    have := relaid_line r (n + 1) i fs h f hf
    omega
theorem lex_ok (b : List UInt8) : JoinOk (textsOf (lexLines b)) := by
  intro ws hws
  obtain ⟨fs, hfs, rfl⟩ := List.mem_map.1 hws
  obtain ⟨h1, h2⟩ := lex_good b fs hfs
  refine ⟨fun e => h1 (List.map_eq_nil_iff.1 e), fun w hw => ?_⟩
  obtain ⟨f, hf, rfl⟩ := List.mem_map.1 hw
  exact h2 f hf
theorem readable_jT {x : List (List (List UInt8))} (h : JoinOk x) (hl : (jT x).length ≤ 65536) : readableB (jT x) = true := by
  simp only [readableB, Bool.and_eq_true, decide_eq_true_eq]
  refine ⟨List.all_eq_true.2 (fun c hc => ?_), hl⟩
  obtain ⟨ws, hws, hc⟩ := List.mem_flatMap.1 hc
  rcases List.mem_append.1 hc with hc | hc
  · rcases wT_mem hc with rfl | ⟨w, hw, hc⟩
    · rfl
    · exact (((h ws hws).2 w hw).2 c hc).2
  · simp at hc; subst hc; rfl

/-- What is joined is read again. -/
structure Again (l m : List (List Field)) (s : List UInt8) : Prop where
  rd : readableB s = true
  len : m.length = l.length
  lens : ∀ i, (m.getD i []).length = (l.getD i []).length
  text : ∀ i k, ((m.getD i []).getD k f0).text = ((l.getD i []).getD k f0).text
  line : ∀ i k, i < m.length → k < (m.getD i []).length → ((m.getD i []).getD k f0).line = i + 1
  join : joinT m = s
theorem texts_at (x : List (List Field)) (i k : Nat) : ((x.getD i []).getD k f0).text = (((textsOf x).getD i []).getD k []) ∧ (x.getD i []).length = ((textsOf x).getD i []).length := by
  have e : (textsOf x).getD i [] = (x.getD i []).map (·.text) := by
    rw [textsOf, List.getD_eq_getElem?_getD, List.getElem?_map, List.getD_eq_getElem?_getD]
    cases x[i]? <;> rfl
  rw [e]
  generalize x.getD i [] = fs
  refine ⟨?_, by simp⟩
  rw [List.getD_eq_getElem?_getD, List.getD_eq_getElem?_getD, List.getElem?_map]
  cases fs[k]? <;> rfl
theorem again (b : List UInt8) (hb : b.length ≤ 5000) : Again (lexLines b) (lexLines (joinT (lexLines b))) (joinT (lexLines b)) := by
  have hok := lex_ok b
  have hlen := joinT_len b
  have hr : readableB (joinT (lexLines b)) = true := by
    rw [joinT_eq] at hlen ⊢
    exact readable_jT hok (by omega)
  have hm : lexLines (joinT (lexLines b)) = relaid 1 (textsOf (lexLines b)) := by
    rw [lexLines, hr, if_pos rfl, joinT_eq, splitNl_jT _ hok, lexFrom_wT _ _ hok]
  have ht : textsOf (lexLines (joinT (lexLines b))) = textsOf (lexLines b) := by rw [hm, relaid_texts _ _ hok]
  refine ⟨hr, ?_, fun i => ?_, fun i k => ?_, fun i k hi hk => ?_, ?_⟩
  · rw [← textsOf_len, ht, textsOf_len]
  · rw [(texts_at _ i 0).2, ht, ← (texts_at _ i 0).2]
  · rw [(texts_at _ i k).1, ht, ← (texts_at _ i k).1]
  · have h1 : (lexLines (joinT (lexLines b)))[i]? = some ((lexLines (joinT (lexLines b))).getD i []) := by
      rw [List.getD_eq_getElem?_getD, List.getElem?_eq_getElem hi]; rfl
    have h2 : ((lexLines (joinT (lexLines b))).getD i []).getD k f0 ∈ (lexLines (joinT (lexLines b))).getD i [] := by
      generalize (lexLines (joinT (lexLines b))).getD i [] = fs at hk
      rw [List.getD_eq_getElem?_getD, List.getElem?_eq_getElem hk]; exact List.getElem_mem _
    have h3 : (relaid 1 (textsOf (lexLines b)))[i]? = some ((lexLines (joinT (lexLines b))).getD i []) := by rw [← hm]; exact h1
    have := relaid_line _ 1 i _ h3 _ h2
    omega
  · rw [joinT_eq, ht, ← joinT_eq]

/-! Remarks. -/
end
section
open Go.RowKit

structure Cfg where
  c0 : Int
  c1 : Int
  c2 : Int
  a0 : Int
  a1 : Int
  a2 : Int
  thr : List Thr
  per : Int
  ret : Int
  age : Int
  ded : Int
  deriving DecidableEq
def cf0 : Cfg := ⟨0, 0, 0, 0, 0, 0, [], 0, 0, 0, 0⟩
/-- A config's cells. -/
def cells (o : Bool) (c : Cfg) : List AV := [.lit (.int .i64 c.c0), .lit (.int .i64 c.c1), .lit (.int .i64 c.c2), .lit (.int .i64 c.a0), .lit (.int .i64 c.a1), .lit (.int .i64 c.a2), .list o 40 (c.thr.map encT), .lit (.int .i64 c.per), .lit (.int .i64 c.ret), .lit (.int .i64 c.age), .lit (.int .i64 c.ded)]
def encC (c : Cfg) : AV := .agg (cells false c)
def cpL : List UInt8 := [99, 97, 112, 97, 99, 105, 116, 121]
def alL : List UInt8 := [97, 108, 108, 111, 99, 97, 116, 97, 98, 108, 101]
def peL : List UInt8 := [112, 101, 114, 105, 111, 100]
def reL : List UInt8 := [114, 101, 116, 114, 105, 101, 115]
def agL : List UInt8 := [109, 97, 120, 97, 103, 101]
def deL : List UInt8 := [100, 101, 97, 100]
def trL : List UInt8 := [116, 104, 114, 101, 115, 104, 111, 108, 100]
def cwL : List (List UInt8) := [cpL, alL, peL, reL, agL, deL]
def kOf (w : List UInt8) : Int := if w = cpL then 0 else if w = alL then 1 else if w = peL then 2 else if w = reL then 3 else if w = agL then 4 else if w = deL then 5 else -1
theorem k_cases (w : List UInt8) : (kOf w = -1 ∧ w ∉ cwL) ∨ (kOf w = 0 ∧ w = cpL) ∨ (kOf w = 1 ∧ w = alL) ∨ (kOf w = 2 ∧ w = peL) ∨ (kOf w = 3 ∧ w = reL) ∨ (kOf w = 4 ∧ w = agL) ∨ (kOf w = 5 ∧ w = deL) := by
  unfold kOf
  by_cases h0 : w = cpL
  · exact .inr (.inl ⟨if_pos h0, h0⟩)
  · rw [if_neg h0]
    by_cases h1 : w = alL
    · exact .inr (.inr (.inl ⟨if_pos h1, h1⟩))
    · rw [if_neg h1]
      by_cases h2 : w = peL
      · exact .inr (.inr (.inr (.inl ⟨if_pos h2, h2⟩)))
      · rw [if_neg h2]
        by_cases h3 : w = reL
        · exact .inr (.inr (.inr (.inr (.inl ⟨if_pos h3, h3⟩))))
        · rw [if_neg h3]
          by_cases h4 : w = agL
          · exact .inr (.inr (.inr (.inr (.inr (.inl ⟨if_pos h4, h4⟩)))))
          · rw [if_neg h4]
            by_cases h5 : w = deL
            · exact .inr (.inr (.inr (.inr (.inr (.inr ⟨if_pos h5, h5⟩)))))
            · rw [if_neg h5]
              exact .inl ⟨rfl, by simp [cwL, h0, h1, h2, h3, h4, h5]⟩
theorem k_mem {w : List UInt8} : 0 ≤ kOf w ↔ w ∈ cwL := by
  rcases k_cases w with ⟨h, h2⟩ | ⟨h, h2⟩ | ⟨h, h2⟩ | ⟨h, h2⟩ | ⟨h, h2⟩ | ⟨h, h2⟩ | ⟨h, h2⟩
  · rw [h]; exact ⟨fun e => by omega, fun e => absurd e h2⟩
  all_goals subst h2; rw [h]; exact ⟨fun _ => by decide, fun _ => by decide⟩

def setC (c : Cfg) (k : Int) (n : List Int) : Cfg :=
  if k = 0 then { c with c0 := n.getD 0 0, c1 := n.getD 1 0, c2 := n.getD 2 0 } else if k = 1 then { c with a0 := n.getD 0 0, a1 := n.getD 1 0, a2 := n.getD 2 0 }
  else if k = 2 then { c with per := n.getD 0 0 } else if k = 3 then { c with ret := n.getD 0 0 } else if k = 4 then { c with age := n.getD 0 0 } else if k = 5 then { c with ded := n.getD 0 0 } else c
def IsThr (ws : List (List UInt8)) : Prop := ws.getD 0 [] = trL ∧ ws.length = 2
instance (ws : List (List UInt8)) : Decidable (IsThr ws) := by unfold IsThr; infer_instance
def Fits (ws : List (List UInt8)) : Prop := 0 ≤ kOf (ws.getD 0 []) ∧ ws.length = (if kOf (ws.getD 0 []) < 2 then 4 else 2) ∧ ∀ w ∈ ws.drop 1, qe w = 0
instance (ws : List (List UInt8)) : Decidable (Fits ws) := by unfold Fits; infer_instance
/-- What a line comes to: an error, a config, the words that were. -/
def clE (sn ws : List (List UInt8)) : Int := if IsThr ws then errT (ws.getD 1 []) else if Fits ws then (if ws.getD 0 [] ∈ sn then 5 else 0) else 2
def clC (c : Cfg) (ws : List (List UInt8)) : Cfg := if IsThr ws then { c with thr := c.thr ++ [readT (ws.getD 1 [])] } else setC c (kOf (ws.getD 0 [])) ((ws.drop 1).map fun w => (qv w : Int))
def clS (sn ws : List (List UInt8)) : List (List UInt8) := if IsThr ws then sn else sn ++ [ws.getD 0 []]
def ftx (l : List Field) : List (List UInt8) := l.map (·.text)
theorem ftx_get (l : List Field) (i : Nat) : (l.getD i f0).text = (ftx l).getD i [] := by
  unfold ftx
  rw [List.getD_eq_getElem?_getD, List.getD_eq_getElem?_getD, List.getElem?_map]
  cases l[i]? <;> rfl
theorem ftx_len (l : List Field) : (ftx l).length = l.length := List.length_map ..
def runC : Cfg → List (List UInt8) → List (List Field) → Int × Nat × Cfg × List (List UInt8)
  | c, sn, [] => (0, 0, c, sn)
  | c, sn, l :: r => if clE sn (ftx l) = 0 then runC (clC c (ftx l)) (clS sn (ftx l)) r else (clE sn (ftx l), (l.getD 0 f0).line, cf0, [])
def RightC (c : Cfg) : Prop := 1 ≤ c.c0 ∧ 1 ≤ c.c1 ∧ 1 ≤ c.c2 ∧ 0 ≤ c.a0 ∧ 0 ≤ c.a1 ∧ 0 ≤ c.a2 ∧ c.a1 ≤ c.c0 ∧ c.a2 ≤ c.c2 ∧ c.thr.length ≤ 12 ∧ (∀ t ∈ c.thr, RightT t) ∧ 1 ≤ c.per ∧ c.per ≤ 1000 ∧ 1 ≤ c.age ∧ c.age ≤ 1000 ∧ 0 ≤ c.ret ∧ c.ret ≤ 20 ∧ 0 ≤ c.ded ∧ c.ded ≤ 100
instance (c : Cfg) : Decidable (RightC c) := by unfold RightC; infer_instance
def rawC (b : List UInt8) : Int × Nat × Cfg × List (List UInt8) := runC cf0 [] (lexLines b)
def cfE (b : List UInt8) : Int := if readableB b = false then 2 else if (rawC b).1 ≠ 0 then (rawC b).1 else if (rawC b).2.2.2.length < 6 then 4 else if RightC (rawC b).2.2.1 then 0 else 1
def cfN (b : List UInt8) : Nat := if readableB b = true ∧ (rawC b).1 ≠ 0 then (rawC b).2.1 else 0
def cfC (b : List UInt8) : Cfg := if cfE b = 0 then (rawC b).2.2.1 else cf0

theorem drop_cons {α : Type} {d : α} {l : List α} {i : Nat} (h : i < l.length) : l.drop i = l.getD i d :: l.drop (i + 1) := by
  rw [List.drop_eq_getElem_cons h, List.getD_eq_getElem?_getD, List.getElem?_eq_getElem h]; rfl
theorem run_ok {c : Cfg} {sn : List (List UInt8)} {L : List (List Field)} {i : Nat} (h : i < L.length) (he : clE sn (ftx (L.getD i [])) = 0) : runC c sn (L.drop i) = runC (clC c (ftx (L.getD i []))) (clS sn (ftx (L.getD i []))) (L.drop (i + 1)) := by
  rw [drop_cons h]; exact if_pos he
theorem run_bad {c : Cfg} {sn : List (List UInt8)} {L : List (List Field)} {i : Nat} (h : i < L.length) (he : clE sn (ftx (L.getD i [])) ≠ 0) : runC c sn (L.drop i) = (clE sn (ftx (L.getD i [])), ((L.getD i []).getD 0 f0).line, cf0, []) := by
  rw [drop_cons h]; exact if_neg he
theorem run_end {c : Cfg} {sn : List (List UInt8)} {L : List (List Field)} {i : Nat} (h : L.length ≤ i) : runC c sn (L.drop i) = (0, 0, c, sn) := by
  rw [List.drop_eq_nil_of_le h]; rfl
/-- The words that were: each once. -/
def SeenOk (sn : List (List UInt8)) : Prop := sn.Nodup ∧ ∀ w ∈ sn, w ∈ cwL
theorem seen_step {sn ws : List (List UInt8)} (h : SeenOk sn) (he : clE sn ws = 0) : SeenOk (clS sn ws) := by
  unfold clS
  unfold clE at he
  split
  · exact h
  · rename_i ht
    rw [if_neg ht] at he
    split at he
    · rename_i hf
      split at he
      · cases he
      · rename_i hn
        refine ⟨List.nodup_append.2 ⟨h.1, by simp, fun a ha b hb => ?_⟩, fun w hw => ?_⟩
        · rw [List.mem_singleton.1 hb]; exact fun e => hn (by rw [← e]; exact ha)
        · rcases List.mem_append.1 hw with hw | hw
          · exact h.2 w hw
          · rw [List.mem_singleton.1 hw]; exact k_mem.1 hf.1
    · cases he
theorem sub_len : ∀ {l m : List (List UInt8)}, l.Nodup → (∀ w ∈ l, w ∈ m) → l.length ≤ m.length
  | [], m, _, _ => Nat.zero_le _
  | a :: r, m, hn, hs => by
    obtain ⟨h1, h2⟩ := List.nodup_cons.1 hn
    have ha := hs a (List.mem_cons_self ..)
    have := sub_len (m := m.erase a) h2 (fun w hw => (List.mem_erase_of_ne (fun e => h1 (by rw [← e]; exact hw))).2 (hs w (List.mem_cons_of_mem _ hw)))
    rw [List.length_erase_of_mem ha] at this
    have h0 := List.length_pos_of_mem ha
    rw [List.length_cons]; omega
theorem seen_all {sn : List (List UInt8)} (h : SeenOk sn) : sn.length < 6 ↔ ∃ w ∈ cwL, w ∉ sn := by
  constructor
  · intro hl
    refine Classical.byContradiction fun hno => ?_
    have := sub_len (l := cwL) (m := sn) (by decide) (fun w hw => Classical.byContradiction fun e => hno ⟨w, hw, e⟩)
    have h6 : cwL.length = 6 := rfl
    omega
  · rintro ⟨w, hw, hn⟩
    refine Nat.lt_of_not_le fun hl => ?_
    have := sub_len (l := w :: sn) (m := cwL) (List.nodup_cons.2 ⟨hn, h.1⟩) (fun x hx => by
      rcases List.mem_cons.1 hx with rfl | hx
      · exact hw
      · exact h.2 x hx)
    have h6 : cwL.length = 6 := rfl
    rw [List.length_cons] at this
    omega
theorem clC_thr {c : Cfg} {ws : List (List UInt8)} : (clC c ws).thr.length ≤ c.thr.length + 1 := by
  unfold clC
  split
  · simp
  · unfold setC
    (repeat' split) <;> exact Nat.le_succ _
end
section
open Go.RowKit

theorem res_no {l : List UInt8} (h : readableB l = false) : AV.tuple [.list true 46 [], .lit (.int .i64 2)] = .tuple [.list true 46 ((lexLines l).map encL), .lit (.int .i64 (errI l))] := by simp [lexLines, errI, h]
theorem res_yes {l : List UInt8} {out : List (List Field)} (h : readableB l = true) (ho : out = lexFrom 1 (splitNl l)) : AV.tuple [.list true 46 (out.map encL), .lit (.int .i64 0)] = .tuple [.list true 46 ((lexLines l).map encL), .lit (.int .i64 (errI l))] := by simp [lexLines, errI, h, ho]

set_option maxRecDepth 20000 in
theorem blank_any (c : Int) (M : Nat → Option (List AV)) : ACall Tryz.prog 43 [.lit (.int .u8 c)] M (fun r M' => r = zB (blankB c) ∧ M = M') := by
  refine ACall.of Tryz.func43 rfl (n := 13) rfl rfl rfl ?_
  refine zg ?_
  refine zM (zB false) ?_
  refine zN ?_
  refine zj 2 [(0, .lit (.int .u8 c))] [] M (bif (c == 32) then true else (bif (c == 9) then true else (c == 13))) ?_ ?_
  · skip
    refine zM (.lit (.int .u8 c)) ?_
    refine zr (zi (c == 32)) ?_
    refine zM (zB (c == 32)) ?_
    refine AOps.splitJ (t := 5) (b := c == 32) (x := true) (y := (bif (c == 9) then true else (c == 13))) rfl (fun h1 => ?_) (fun h1 => ?_)
    · skip
      have h1' : c = 32 := (by have hh := eq_of_beq h1; omega)
      clear h1
      refine zs ?_
      refine zs ?_
      refine zr (zp true (zB true)) ?_
      refine zM (zB true) ?_
      refine zs ?_
      refine zs ?_
      refine zr (zp true (zB true)) ?_
      refine zM (zB true) ?_
      exact AOps.nil rfl
    · skip
      have h1' : ¬ (c = 32) := (by have hh := beq_eq_false_iff_ne.1 h1; omega)
      clear h1
      refine zM (.lit (.int .u8 c)) ?_
      refine zr (zi (c == 9)) ?_
      refine zr (zp false (zB (c == 9))) ?_
      refine zM (zB (c == 9)) ?_
      refine AOps.splitJ (t := 9) (b := c == 9) (x := true) (y := (c == 13)) rfl (fun h2 => ?_) (fun h2 => ?_)
      · skip
        have h2' : c = 9 := (by have hh := eq_of_beq h2; omega)
        clear h2
        refine zs ?_
        refine zs ?_
        refine zr (zp true (zB true)) ?_
        refine zM (zB true) ?_
        exact AOps.nil rfl
      · skip
        have h2' : ¬ (c = 9) := (by have hh := beq_eq_false_iff_ne.1 h2; omega)
        clear h2
        refine zM (.lit (.int .u8 c)) ?_
        refine zr (zi (c == 13)) ?_
        refine zr (zp false (zB (c == 13))) ?_
        refine zM (zB (c == 13)) ?_
        exact AOps.nil rfl
  refine AWp.ret ?_
  exact ⟨.inl rfl, _, ResOf.one 2 (zB (bif (c == 32) then true else (bif (c == 9) then true else (c == 13)))) rfl rfl, ⟨rfl, rfl⟩⟩

set_option maxRecDepth 20000 in
theorem readable_any (l : List UInt8) (hl : l.length ≤ 140737488355328) (M : Nat → Option (List AV)) : ACall Tryz.prog 41 [.list false 5 (byteAVs l)] M (fun r M' => r = zB (readableB l) ∧ M = M') := by
  refine ACall.of Tryz.func41 rfl (n := 30) rfl rfl rfl ?_
  refine zg ?_
  refine zM (zB false) ?_
  refine zN ?_
  refine AWp.seq ?_
  refine zg ?_
  refine zM (.list false 5 (byteAVs l)) ?_
  refine zr (zL (byteAVs l) l.length Tryz.underlying22 (byteAVs_len _)) ?_
  refine zM (zI 0) ?_
  refine zN ?_
  refine AWp.block ?_
  refine AWp.loopE [0, 5, 6, 7] [] (fun m s => ∃ (k : Nat), m = l.length - k ∧ s = ⟨[(0, .list false 5 (byteAVs l)), (5, .list false 5 (byteAVs l)), (6, zI (l.length : Int)), (7, zI (k : Int))], [], M⟩ ∧ (k ≤ l.length) ∧ (∀ j, j < k → okB ((l.getD j 0).toNat : Int) = true)) ?_ ?_
  · exact ⟨_, 0, rfl, rfl, Nat.zero_le _, fun j hj => by omega⟩
  · rintro _ _ ⟨k, rfl, rfl, hk, hall⟩
    refine zg ?_
    refine zr (zi (decide ((k : Int) < (l.length : Int)))) ?_
    refine zN ?_
    refine AWp.seq ?_
    refine zC (b := decide ((k : Int) < (l.length : Int))) rfl (fun h1 => ?_) (fun h1 => ?_)
    · skip
      have h1' : k < l.length := (by have hh := of_decide_eq_true h1; omega)
      clear h1
      refine AWp.skip ?_
      refine AWp.seq ?_
      refine AWp.block ?_
      refine zg ?_
      refine zr (zel k (.lit (.int .u8 ((l.getD k 0).toNat : Int))) Tryz.underlying22 sizeOf_5 (byteAVs_at (by first | omega | (simp; omega)))) ?_
      refine zr (zlE (.lit (.int .u8 ((l.getD k 0).toNat : Int))) Tryz.underlying5 sizeOf_5) ?_
      refine zM (.lit (.int .u8 ((l.getD k 0).toNat : Int))) ?_
      refine zN ?_
      refine zj 25 [(0, .list false 5 (byteAVs l)), (5, .list false 5 (byteAVs l)), (6, zI (l.length : Int)), (7, zI (k : Int)), (8, zB (decide ((k : Int) < (l.length : Int)))), (4, .lit (.int .u8 ((l.getD k 0).toNat : Int)))] [] M (bif (!(blankB ((l.getD k 0).toNat : Int))) then (bif (((l.getD k 0).toNat : Int) != 10) then (bif (decide (((l.getD k 0).toNat : Int) < 32)) then true else (decide (((l.getD k 0).toNat : Int) > 126))) else false) else false) ?_ ?_
      · skip
        refine zM (.lit (.int .u8 ((l.getD k 0).toNat : Int))) ?_
        refine zc [.lit (.int .u8 ((l.getD k 0).toNat : Int))] Tryz.call43 (blank_any ((l.getD k 0).toNat : Int) M) ?_
        rintro _ _ ⟨rfl, rfl⟩
        refine zr (zn (blankB ((l.getD k 0).toNat : Int))) ?_
        refine zM (zB (!(blankB ((l.getD k 0).toNat : Int)))) ?_
        refine AOps.splitJ (t := 14) (b := !(blankB ((l.getD k 0).toNat : Int))) (x := (bif (((l.getD k 0).toNat : Int) != 10) then (bif (decide (((l.getD k 0).toNat : Int) < 32)) then true else (decide (((l.getD k 0).toNat : Int) > 126))) else false)) (y := false) rfl (fun h2 => ?_) (fun h2 => ?_)
        · skip
          have h2' : blankB ((l.getD k 0).toNat : Int) = false := (bnot_t h2)
          clear h2
          refine zM (.lit (.int .u8 ((l.getD k 0).toNat : Int))) ?_
          refine zr (zi (((l.getD k 0).toNat : Int) != 10)) ?_
          refine zr (zp true (zB (((l.getD k 0).toNat : Int) != 10))) ?_
          refine zM (zB (((l.getD k 0).toNat : Int) != 10)) ?_
          refine AOps.splitJ (t := 18) (b := ((l.getD k 0).toNat : Int) != 10) (x := (bif (decide (((l.getD k 0).toNat : Int) < 32)) then true else (decide (((l.getD k 0).toNat : Int) > 126)))) (y := false) rfl (fun h3 => ?_) (fun h3 => ?_)
          · skip
            have h3' : ((l.getD k 0).toNat) ≠ 10 := (by have hh := bne_iff_ne.1 h3; omega)
            clear h3
            refine zM (.lit (.int .u8 ((l.getD k 0).toNat : Int))) ?_
            refine zr (zi (decide (((l.getD k 0).toNat : Int) < 32))) ?_
            refine zM (zB (decide (((l.getD k 0).toNat : Int) < 32))) ?_
            refine AOps.splitJ (t := 21) (b := decide (((l.getD k 0).toNat : Int) < 32)) (x := true) (y := (decide (((l.getD k 0).toNat : Int) > 126))) rfl (fun h4 => ?_) (fun h4 => ?_)
            · skip
              have h4' : ((l.getD k 0).toNat) < 32 := (by have hh := of_decide_eq_true h4; omega)
              clear h4
              refine zs ?_
              refine zs ?_
              refine zr (zp true (zB true)) ?_
              refine zr (zp true (zB true)) ?_
              exact AOps.nil rfl
            · skip
              have h4' : ¬ (((l.getD k 0).toNat) < 32) := (by have hh := of_decide_eq_false h4; omega)
              clear h4
              refine zM (.lit (.int .u8 ((l.getD k 0).toNat : Int))) ?_
              refine zr (zi (decide (((l.getD k 0).toNat : Int) > 126))) ?_
              refine zr (zp false (zB (decide (((l.getD k 0).toNat : Int) > 126)))) ?_
              refine zr (zp true (zB (decide (((l.getD k 0).toNat : Int) > 126)))) ?_
              exact AOps.nil rfl
          · skip
            have h3' : ¬ (((l.getD k 0).toNat) ≠ 10) := (by have hh := bne_eq_false_iff_eq.1 h3; omega)
            clear h3
            refine zs ?_
            refine zs ?_
            refine zs ?_
            refine zs ?_
            refine zs ?_
            refine zs ?_
            refine zr (zp false (zB false)) ?_
            exact AOps.nil rfl
        · skip
          have h2' : blankB ((l.getD k 0).toNat : Int) = true := (bnot_f h2)
          clear h2
          refine zs ?_
          refine zs ?_
          refine zr (zp false (zB false)) ?_
          refine zM (zB false) ?_
          refine zs ?_
          refine zs ?_
          refine zs ?_
          refine zs ?_
          refine zs ?_
          refine zs ?_
          refine zr (zp false (zB false)) ?_
          exact AOps.nil rfl
      refine zC (b := bif (!(blankB ((l.getD k 0).toNat : Int))) then (bif (((l.getD k 0).toNat : Int) != 10) then (bif (decide (((l.getD k 0).toNat : Int) < 32)) then true else (decide (((l.getD k 0).toNat : Int) > 126))) else false) else false) rfl (fun h5 => ?_) (fun h5 => ?_)
      · skip
        have h5' : okB ((l.getD k 0).toNat : Int) = false := (okB_no h5)
        clear h5
        refine zg ?_
        refine zM (zB false) ?_
        refine zN ?_
        refine AWp.ret ?_
        exact ⟨.inl rfl, _, ResOf.one 2 (zB false) rfl rfl, ⟨congrArg (fun b => AV.lit (.bool b)) (readable_no (k := k) (by omega) (by assumption)), rfl⟩⟩
      · skip
        have h5' : okB ((l.getD k 0).toNat : Int) = true := (okB_go h5)
        clear h5
        refine AWp.skip ?_
        refine AWp.region ?_
        refine zr (zw ((k : Int) + 1) ((k + 1 : Nat) : Int)) ?_
        refine zM (zI ((k + 1 : Nat) : Int)) ?_
        refine zN ?_
        exact ⟨_, by omega, k + 1, rfl, rfl, by omega, ext_0 hall (by assumption)⟩
    · skip
      have h1' : ¬ (k < l.length) := (by have hh := of_decide_eq_false h1; omega)
      clear h1
      refine AWp.exit ?_
      refine zg ?_
      refine zM (.list false 5 (byteAVs l)) ?_
      refine zr (zL (byteAVs l) l.length Tryz.underlying22 (byteAVs_len _)) ?_
      refine zr (zi (decide ((l.length : Int) ≤ 65536))) ?_
      refine zM (zB (decide ((l.length : Int) ≤ 65536))) ?_
      refine zN ?_
      refine AWp.ret ?_
      exact ⟨.inl rfl, _, ResOf.one 2 (zB (decide ((l.length : Int) ≤ 65536))) rfl rfl, ⟨congrArg (fun b => AV.lit (.bool b)) (readable_yes (fun j hj => hall j (by omega))), rfl⟩⟩

set_option maxRecDepth 20000 in
theorem lines_any (l : List UInt8) (hl : l.length ≤ 140737488355328) (M : Nat → Option (List AV)) : ACall Tryz.prog 19 [.list false 5 (byteAVs l)] M (fun r M' => r = .tuple [.list true 46 ((lexLines l).map encL), zI (errI l)] ∧ M = M') := by
  refine ACall.of Tryz.func19 rfl (n := 78) rfl rfl rfl ?_
  refine zg ?_
  refine AOps.nilList 46 trivial rfl (by decide) (.inl rfl) ?_
  refine zM (zI 0) ?_
  refine zN ?_
  refine AWp.scope ?_
  refine AWp.seq ?_
  refine zg ?_
  refine zM (.list false 5 (byteAVs l)) ?_
  refine zc [.list false 5 (byteAVs l)] Tryz.call41 (readable_any l (by first | assumption | omega) M) ?_
  rintro _ _ ⟨rfl, rfl⟩
  refine zr (zn (readableB l)) ?_
  refine zN ?_
  refine zC (b := !(readableB l)) rfl (fun h1 => ?_) (fun h1 => ?_)
  · skip
    have h1' : readableB l = false := (bnot_t h1)
    clear h1
    refine zg ?_
    refine AOps.nilList 46 trivial rfl (by decide) (.inl rfl) ?_
    refine zM (zI 2) ?_
    refine zN ?_
    refine AWp.ret ?_
    exact ⟨.inl rfl, _, ResOf.two 2 3 (.list true 46 []) (zI 2) rfl rfl (.inr ⟨_, _, rfl⟩) (.inl rfl) (by decide), ⟨res_no (by assumption), rfl⟩⟩
  · skip
    have h1' : readableB l = true := (bnot_f h1)
    clear h1
    refine AWp.skip ?_
    refine zg ?_
    refine AOps.nilList 46 trivial rfl (by decide) (.inl rfl) ?_
    refine zN ?_
    refine AWp.seq ?_
    refine AWp.label ?_
    refine AWp.seq ?_
    refine zg ?_
    refine zM (.list false 5 (byteAVs l)) ?_
    refine zr (Reader.ofBytes (l := l) rfl Tryz.underlying22 Tryz.underlying9 Tryz.underlying5 rfl) ?_
    refine zc [.str l, .str [10]] Tryz.call42 (splitNl_any l (by have := readable_len (l := l) (by assumption); omega) M) ?_
    rintro _ _ ⟨rfl, rfl⟩
    refine zr (zL ((splitNl l).map AV.str) ((splitNl l).length) Tryz.underlying38 (by simp)) ?_
    refine zM (zI 0) ?_
    refine zN ?_
    refine AWp.block ?_
    refine AWp.loopE [0, 4, 15, 16, 17] [] (fun m s => ∃ (k : Nat) (out : List (List Field)), m = (splitNl l).length - k ∧ s = ⟨[(0, .list false 5 (byteAVs l)), (4, .list true 46 (out.map encL)), (15, .list true 9 ((splitNl l).map AV.str)), (16, zI (((splitNl l).length : Nat) : Int)), (17, zI (k : Int))], [], M⟩ ∧ (k ≤ (splitNl l).length) ∧ (out.length ≤ k) ∧ (out ++ lexFrom (k + 1) ((splitNl l).drop k) = lexFrom 1 (splitNl l))) ?_ ?_
    · exact ⟨_, 0, [], rfl, rfl, Nat.zero_le _, Nat.zero_le _, rfl⟩
    · rintro _ _ ⟨k, out, rfl, rfl, hk, hol, hout⟩
      have hll := readable_len (l := l) (by assumption)
      have hsl := splitNl_le l
      refine zg ?_
      refine zr (zi (decide ((k : Int) < (((splitNl l).length : Nat) : Int)))) ?_
      refine zN ?_
      refine AWp.seq ?_
      refine zC (b := decide ((k : Int) < (((splitNl l).length : Nat) : Int))) rfl (fun h2 => ?_) (fun h2 => ?_)
      · skip
        have h2' : k < ((splitNl l).length) := (by have hh := of_decide_eq_true h2; omega)
        clear h2
        refine AWp.skip ?_
        refine AWp.seq ?_
        refine AWp.block ?_
        refine zg ?_
        refine zM (zI (k : Int)) ?_
        obtain ⟨s1, hs1⟩ : ∃ x, (splitNl l)[k]? = some x := ⟨_, List.getElem?_eq_getElem (by first | omega | (simp; omega))⟩
        refine zr (zel k (.str s1) Tryz.underlying38 sizeOf_9 (map_at hs1)) ?_
        refine zr (zlE (.str s1) Tryz.underlying9 sizeOf_9) ?_
        refine zM (zI (k : Int)) ?_
        refine zM (.str s1) ?_
        refine zN ?_
        refine zg ?_
        refine AOps.nilList 50 trivial rfl (by decide) (.inl rfl) ?_
        refine zN ?_
        refine AWp.seq ?_
        refine zg ?_
        refine zM (zI 0) ?_
        refine zN ?_
        refine AWp.block ?_
        refine AWp.loopE [0, 4, 15, 16, 17, 5, 6, 7, 8] [] (fun m s => ∃ (i : Nat) (fl : List Field), m = s1.length + 1 - i ∧ s = ⟨[(0, .list false 5 (byteAVs l)), (4, .list true 46 (out.map encL)), (15, .list true 9 ((splitNl l).map AV.str)), (16, zI (((splitNl l).length : Nat) : Int)), (17, zI (k : Int)), (5, zI (k : Int)), (6, .str s1), (7, .list true 50 (fl.map encF)), (8, zI (i : Int))], [], M⟩ ∧ (i ≤ s1.length + 1) ∧ (fl.length ≤ i) ∧ (fl ++ scan (k + 1) i (s1.drop i) = scan (k + 1) 0 s1)) ?_ ?_
        · exact ⟨_, 0, [], rfl, rfl, Nat.zero_le _, Nat.zero_le _, rfl⟩
        · rintro _ _ ⟨i, fl, rfl, rfl, hi, hfl, hscan⟩
          have hs1l := splitNl_mem l _ _ hs1
          refine AWp.seq ?_
          refine zg ?_
          refine zM (zI (i : Int)) ?_
          refine zM (.str s1) ?_
          refine zr (zS s1 s1.length Tryz.underlying9) ?_
          refine zr (zi (decide ((i : Int) < (s1.length : Int)))) ?_
          refine zN ?_
          refine zC (b := decide ((i : Int) < (s1.length : Int))) rfl (fun h3 => ?_) (fun h3 => ?_)
          · skip
            have h3' : i < s1.length := (by have hh := of_decide_eq_true h3; omega)
            clear h3
            refine AWp.skip ?_
            refine AWp.seq ?_
            refine AWp.block ?_
            refine AWp.seq ?_
            refine zg ?_
            refine zM (.str s1) ?_
            refine zM (zI (i : Int)) ?_
            refine zr (Reader.byte (m := i) (c := s1.getD i 0) rfl Tryz.underlying9 rfl rfl rfl (getD_some (by first | omega | (simp; omega)))) ?_
            refine zc [.lit (.int .u8 ((s1.getD i 0).toNat : Int))] Tryz.call43 (blank_any ((s1.getD i 0).toNat : Int) M) ?_
            rintro _ _ ⟨rfl, rfl⟩
            refine zN ?_
            refine zC (b := blankB ((s1.getD i 0).toNat : Int)) rfl (fun h4 => ?_) (fun h4 => ?_)
            · skip
              have h4' : blankB ((s1.getD i 0).toNat : Int) = true := h4
              clear h4
              refine AWp.exit ?_
              refine AWp.region ?_
              refine zM (zI (i : Int)) ?_
              refine zr (zw ((i : Int) + 1) ((i + 1 : Nat) : Int)) ?_
              refine zM (zI ((i + 1 : Nat) : Int)) ?_
              refine zN ?_
              first | exact ⟨_, by omega, i + 1, fl, rfl, rfl, by omega, by omega, scan_at_blank (by assumption) hscan⟩ | (have hwd := scan_at_word (j := j) (by assumption) (by assumption) (by assumption) hij hj hw (by assumption) hscan; exact ⟨_, by omega, j + 1, _, rfl, rfl, by omega, by simp; omega, hwd.1⟩)
            · skip
              have h4' : blankB ((s1.getD i 0).toNat : Int) = false := h4
              clear h4
              refine AWp.skip ?_
              refine AWp.seq ?_
              refine zg ?_
              refine zM (.str s1) ?_
              refine zM (zI (i : Int)) ?_
              refine zr (Reader.byte (m := i) (c := s1.getD i 0) rfl Tryz.underlying9 rfl rfl rfl (getD_some (by first | omega | (simp; omega)))) ?_
              refine zr (zi (((s1.getD i 0).toNat : Int) == 35)) ?_
              refine zN ?_
              refine zC (b := ((s1.getD i 0).toNat : Int) == 35) rfl (fun h5 => ?_) (fun h5 => ?_)
              · skip
                have h5' : ((s1.getD i 0).toNat) = 35 := (by have hh := eq_of_beq h5; omega)
                clear h5
                refine AWp.seq ?_
                refine zg ?_
                refine zM (.list false 50 (fl.map encF)) ?_
                refine zr (zL (fl.map encF) fl.length Tryz.underlying46 (by simp)) ?_
                refine zr (zi (decide ((fl.length : Int) > 0))) ?_
                refine zN ?_
                refine zC (b := decide ((fl.length : Int) > 0)) rfl (fun h6 => ?_) (fun h6 => ?_)
                · skip
                  have h6' : fl.length > 0 := (by have hh := of_decide_eq_true h6; omega)
                  clear h6
                  refine AWp.region ?_
                  refine zT (v := .list true 46 (out.map encL)) rfl ?_
                  refine zM (.list false 50 (fl.map encF)) ?_
                  refine zbS [50] [.list false 50 (fl.map encF)] Tryz.underlying42 Tryz.i46 ?_
                  refine zap (m1 := out.length) (m2 := 1) 24 (out.map encL) [.list false 50 (fl.map encF)] ((out ++ [fl]).map encL) Tryz.underlying42 Tryz.underlying42 Tryz.i46 (by simp) rfl (by simp [encL]) ?_
                  refine zT (v := .list true 46 ((out ++ [fl]).map encL)) rfl ?_
                  refine zN ?_
                  refine AWp.exit ?_
                  refine AWp.region ?_
                  refine zr (zw ((k : Int) + 1) ((k + 1 : Nat) : Int)) ?_
                  refine zM (zI ((k + 1 : Nat) : Int)) ?_
                  refine zN ?_
                  have hfs : fl = scan (k + 1) 0 s1 := by first | exact scan_at_end (by assumption) hscan | exact scan_at_hash (by assumption) (by assumption) (by assumption) hscan
                  first | exact ⟨_, by omega, k + 1, out ++ [fl], rfl, rfl, by omega, by simp; omega, lex_app hs1 hfs (by assumption) hout⟩ | exact ⟨_, by omega, k + 1, out, rfl, rfl, by omega, by omega, lex_skip hs1 hfs (by assumption) hout⟩
                · skip
                  have h6' : ¬ (fl.length > 0) := (by have hh := of_decide_eq_false h6; omega)
                  clear h6
                  refine AWp.skip ?_
                  refine AWp.exit ?_
                  refine AWp.region ?_
                  refine zr (zw ((k : Int) + 1) ((k + 1 : Nat) : Int)) ?_
                  refine zM (zI ((k + 1 : Nat) : Int)) ?_
                  refine zN ?_
                  have hfs : fl = scan (k + 1) 0 s1 := by first | exact scan_at_end (by assumption) hscan | exact scan_at_hash (by assumption) (by assumption) (by assumption) hscan
                  first | exact ⟨_, by omega, k + 1, out ++ [fl], rfl, rfl, by omega, by simp; omega, lex_app hs1 hfs (by assumption) hout⟩ | exact ⟨_, by omega, k + 1, out, rfl, rfl, by omega, by omega, lex_skip hs1 hfs (by assumption) hout⟩
              · skip
                have h5' : ¬ (((s1.getD i 0).toNat) = 35) := (by have hh := beq_eq_false_iff_ne.1 h5; omega)
                clear h5
                refine AWp.skip ?_
                refine zg ?_
                refine zM (zI (i : Int)) ?_
                refine zM (zI (i : Int)) ?_
                refine zN ?_
                refine AWp.seq ?_
                refine AWp.block ?_
                refine AWp.loopE [0, 4, 15, 16, 17, 5, 6, 7, 9, 8] [] (fun m s => ∃ (j : Nat), m = s1.length - j ∧ s = ⟨[(0, .list false 5 (byteAVs l)), (4, .list true 46 (out.map encL)), (15, .list true 9 ((splitNl l).map AV.str)), (16, zI (((splitNl l).length : Nat) : Int)), (17, zI (k : Int)), (5, zI (k : Int)), (6, .str s1), (7, .list true 50 (fl.map encF)), (9, zI (i : Int)), (8, zI (j : Int))], [], M⟩ ∧ (i ≤ j) ∧ (j ≤ s1.length) ∧ (∀ m, i ≤ m → m < j → blankB ((s1.getD m 0).toNat : Int) = false)) ?_ ?_
                · exact ⟨_, i, rfl, rfl, Nat.le_refl _, by omega, fun m h1 h2 => by omega⟩
                · rintro _ _ ⟨j, rfl, rfl, hij, hj, hw⟩
                  refine AWp.seq ?_
                  refine zj 54 [(0, .list false 5 (byteAVs l)), (4, .list true 46 (out.map encL)), (15, .list true 9 ((splitNl l).map AV.str)), (16, zI (((splitNl l).length : Nat) : Int)), (17, zI (k : Int)), (5, zI (k : Int)), (6, .str s1), (7, .list true 50 (fl.map encF)), (9, zI (i : Int)), (8, zI (j : Int))] [] M (bif (decide ((j : Int) < (s1.length : Int))) then (!(blankB ((s1.getD j 0).toNat : Int))) else false) ?_ ?_
                  · skip
                    refine zM (zI (j : Int)) ?_
                    refine zM (.str s1) ?_
                    refine zr (zS s1 s1.length Tryz.underlying9) ?_
                    refine zr (zi (decide ((j : Int) < (s1.length : Int)))) ?_
                    refine zM (zB (decide ((j : Int) < (s1.length : Int)))) ?_
                    refine AOps.splitJ (t := 48) (b := decide ((j : Int) < (s1.length : Int))) (x := (!(blankB ((s1.getD j 0).toNat : Int)))) (y := false) rfl (fun h7 => ?_) (fun h7 => ?_)
                    · skip
                      have h7' : j < s1.length := (by have hh := of_decide_eq_true h7; omega)
                      clear h7
                      refine zM (.str s1) ?_
                      refine zM (zI (j : Int)) ?_
                      refine zr (Reader.byte (m := j) (c := s1.getD j 0) rfl Tryz.underlying9 rfl rfl rfl (getD_some (by first | omega | (simp; omega)))) ?_
                      refine zc [.lit (.int .u8 ((s1.getD j 0).toNat : Int))] Tryz.call43 (blank_any ((s1.getD j 0).toNat : Int) M) ?_
                      rintro _ _ ⟨rfl, rfl⟩
                      refine zr (zn (blankB ((s1.getD j 0).toNat : Int))) ?_
                      refine zr (zp true (zB (!(blankB ((s1.getD j 0).toNat : Int))))) ?_
                      exact AOps.nil rfl
                    · skip
                      have h7' : ¬ (j < s1.length) := (by have hh := of_decide_eq_false h7; omega)
                      clear h7
                      refine zs ?_
                      refine zs ?_
                      refine zs ?_
                      refine zs ?_
                      refine zs ?_
                      refine zr (zp false (zB false)) ?_
                      exact AOps.nil rfl
                  refine zC (b := bif (decide ((j : Int) < (s1.length : Int))) then (!(blankB ((s1.getD j 0).toNat : Int))) else false) rfl (fun h8 => ?_) (fun h8 => ?_)
                  · skip
                    have h8' : ((j : Int) < (s1.length : Int)) ∧ (!(blankB ((s1.getD j 0).toNat : Int))) = true := (and_t h8)
                    clear h8
                    refine AWp.skip ?_
                    refine AWp.block ?_
                    refine AWp.region ?_
                    refine zM (zI (j : Int)) ?_
                    refine zr (zw ((j : Int) + 1) ((j + 1 : Nat) : Int)) ?_
                    refine zM (zI ((j + 1 : Nat) : Int)) ?_
                    refine zN ?_
                    obtain ⟨hgo1, hgo2⟩ := (by assumption : ((j : Int) < (s1.length : Int)) ∧ (!(blankB ((s1.getD j 0).toNat : Int))) = true)
                    exact ⟨_, by omega, j + 1, rfl, rfl, by omega, by omega, ext_lt hw (bnot_t hgo2)⟩
                  · skip
                    have h8' : (j : Int) < (s1.length : Int) → (!(blankB ((s1.getD j 0).toNat : Int))) = false := (and_f h8)
                    clear h8
                    refine AWp.exit ?_
                    refine AWp.region ?_
                    refine zT (v := .list true 50 (fl.map encF)) rfl ?_
                    refine zM (.str s1) ?_
                    refine zM (zI (i : Int)) ?_
                    refine zM (zI (j : Int)) ?_
                    refine zr (Reader.sub (i := i) (j := j) rfl Tryz.underlying9 rfl ⟨_, _, rfl, rfl⟩ ⟨_, _, rfl, rfl⟩ (by first | omega | (simp; omega)) (by first | omega | (simp; omega)) (m := (s1.take j).drop i) rfl) ?_
                    refine zM (zI (k : Int)) ?_
                    refine zr (zw ((k : Int) + 1) ((k + 1 : Nat) : Int)) ?_
                    refine zM (zI (i : Int)) ?_
                    refine zr (zw ((i : Int) + 1) ((i + 1 : Nat) : Int)) ?_
                    refine zr (Reader.build (xs := [(0, .str ((s1.take j).drop i)), (1, zI ((k + 1 : Nat) : Int)), (2, zI ((i + 1 : Nat) : Int))]) (Es := []) (places := places_50) rfl Tryz.underlying50 (by refine ⟨rfl, fun j p x hp hx => ?_⟩; match j, hp, hx with | 0, hp, hx => cases hp; cases hx; exact ⟨rfl, .inl ⟨rfl, rfl⟩, rfl, rfl⟩ | 1, hp, hx => cases hp; cases hx; exact ⟨rfl, .inl ⟨rfl, rfl⟩, rfl, rfl⟩ | 2, hp, hx => cases hp; cases hx; exact ⟨rfl, .inl ⟨rfl, rfl⟩, rfl, rfl⟩ | _ + 3, hp, hx => cases hp) zero_50 rfl places_50_ok (cs := [.str ((s1.take j).drop i), zI ((k + 1 : Nat) : Int), zI ((i + 1 : Nat) : Int)]) rfl) ?_
                    refine zbS [] [.agg [.str ((s1.take j).drop i), zI ((k + 1 : Nat) : Int), zI ((i + 1 : Nat) : Int)]] Tryz.underlying46 Tryz.i50 ?_
                    refine zap (m1 := fl.length) (m2 := 1) 32 (fl.map encF) [.agg [.str ((s1.take j).drop i), zI ((k + 1 : Nat) : Int), zI ((i + 1 : Nat) : Int)]] ((fl ++ [Field.mk ((s1.take j).drop i) (k + 1) (i + 1)]).map encF) Tryz.underlying46 Tryz.underlying46 Tryz.i50 (by simp) rfl (by rw [List.map_append]; rfl) ?_
                    refine zT (v := .list true 50 ((fl ++ [Field.mk ((s1.take j).drop i) (k + 1) (i + 1)]).map encF)) rfl ?_
                    refine zN ?_
                    refine AWp.region ?_
                    refine zM (zI (j : Int)) ?_
                    refine zr (zw ((j : Int) + 1) ((j + 1 : Nat) : Int)) ?_
                    refine zM (zI ((j + 1 : Nat) : Int)) ?_
                    refine zN ?_
                    first | exact ⟨_, by omega, i + 1, fl, rfl, rfl, by omega, by omega, scan_at_blank (by assumption) hscan⟩ | (have hwd := scan_at_word (j := j) (by assumption) (by assumption) (by assumption) hij hj hw (by assumption) hscan; exact ⟨_, by omega, j + 1, _, rfl, rfl, by omega, by simp; omega, hwd.1⟩)
          · skip
            have h3' : ¬ (i < s1.length) := (by have hh := of_decide_eq_false h3; omega)
            clear h3
            refine AWp.exit ?_
            refine zg ?_
            refine zM (.list false 50 (fl.map encF)) ?_
            refine zr (zL (fl.map encF) fl.length Tryz.underlying46 (by simp)) ?_
            refine zr (zi (decide ((fl.length : Int) > 0))) ?_
            refine zN ?_
            refine zC (b := decide ((fl.length : Int) > 0)) rfl (fun h9 => ?_) (fun h9 => ?_)
            · skip
              have h9' : fl.length > 0 := (by have hh := of_decide_eq_true h9; omega)
              clear h9
              refine AWp.region ?_
              refine zT (v := .list true 46 (out.map encL)) rfl ?_
              refine zM (.list false 50 (fl.map encF)) ?_
              refine zbS [50] [.list false 50 (fl.map encF)] Tryz.underlying42 Tryz.i46 ?_
              refine zap (m1 := out.length) (m2 := 1) 24 (out.map encL) [.list false 50 (fl.map encF)] ((out ++ [fl]).map encL) Tryz.underlying42 Tryz.underlying42 Tryz.i46 (by simp) rfl (by simp [encL]) ?_
              refine zT (v := .list true 46 ((out ++ [fl]).map encL)) rfl ?_
              refine zN ?_
              refine AWp.region ?_
              refine zr (zw ((k : Int) + 1) ((k + 1 : Nat) : Int)) ?_
              refine zM (zI ((k + 1 : Nat) : Int)) ?_
              refine zN ?_
              have hfs : fl = scan (k + 1) 0 s1 := by first | exact scan_at_end (by assumption) hscan | exact scan_at_hash (by assumption) (by assumption) (by assumption) hscan
              first | exact ⟨_, by omega, k + 1, out ++ [fl], rfl, rfl, by omega, by simp; omega, lex_app hs1 hfs (by assumption) hout⟩ | exact ⟨_, by omega, k + 1, out, rfl, rfl, by omega, by omega, lex_skip hs1 hfs (by assumption) hout⟩
            · skip
              have h9' : ¬ (fl.length > 0) := (by have hh := of_decide_eq_false h9; omega)
              clear h9
              refine AWp.skip ?_
              refine AWp.region ?_
              refine zr (zw ((k : Int) + 1) ((k + 1 : Nat) : Int)) ?_
              refine zM (zI ((k + 1 : Nat) : Int)) ?_
              refine zN ?_
              have hfs : fl = scan (k + 1) 0 s1 := by first | exact scan_at_end (by assumption) hscan | exact scan_at_hash (by assumption) (by assumption) (by assumption) hscan
              first | exact ⟨_, by omega, k + 1, out ++ [fl], rfl, rfl, by omega, by simp; omega, lex_app hs1 hfs (by assumption) hout⟩ | exact ⟨_, by omega, k + 1, out, rfl, rfl, by omega, by omega, lex_skip hs1 hfs (by assumption) hout⟩
      · skip
        have h2' : ¬ (k < ((splitNl l).length)) := (by have hh := of_decide_eq_false h2; omega)
        clear h2
        refine AWp.exit ?_
        refine zg ?_
        refine zT (v := .list true 46 (out.map encL)) rfl ?_
        refine zT (v := .list true 46 (out.map encL)) rfl ?_
        refine zM (zI 0) ?_
        refine zN ?_
        refine AWp.ret ?_
        exact ⟨.inl rfl, _, ResOf.two 2 3 (.list true 46 (out.map encL)) (zI 0) rfl rfl (.inr ⟨_, _, rfl⟩) (.inl rfl) (by decide), ⟨res_yes (by assumption) (lex_done (by assumption) hout), rfl⟩⟩
end
section
open Go.RowKit

theorem rlex {l : List UInt8} (h : readableB l = true) : AV.list true 46 ((lexFrom 1 (splitNl l)).map encL) = .list true 46 ((lexLines l).map encL) := by simp [lexLines, h]

set_option maxRecDepth 20000 in
theorem rreadable_any (l : List UInt8) (hl : l.length ≤ 140737488355328) (M : Nat → Option (List AV)) : ACall Tryz.prog 22 [.list false 5 (byteAVs l)] M (fun r M' => r = zB (readableB l) ∧ M = M') := by
  refine ACall.of Tryz.func22 rfl (n := 37) rfl rfl rfl ?_
  refine zg ?_
  refine zM (zB false) ?_
  refine zN ?_
  refine AWp.seq ?_
  refine zg ?_
  refine zM (zI 0) ?_
  refine zN ?_
  refine AWp.block ?_
  refine AWp.loopE [0, 3] [] (fun m s => ∃ (k : Nat), m = l.length - k ∧ s = ⟨[(0, .list false 5 (byteAVs l)), (3, zI (k : Int))], [], M⟩ ∧ (k ≤ l.length) ∧ (∀ j, j < k → okB ((l.getD j 0).toNat : Int) = true)) ?_ ?_
  · exact ⟨_, 0, rfl, rfl, Nat.zero_le _, fun j hj => by omega⟩
  · rintro _ _ ⟨k, rfl, rfl, hk, hall⟩
    refine AWp.seq ?_
    refine zg ?_
    refine zM (zI (k : Int)) ?_
    refine zM (.list false 5 (byteAVs l)) ?_
    refine zr (zL (byteAVs l) l.length Tryz.underlying22 (byteAVs_len _)) ?_
    refine zr (zi (decide ((k : Int) < (l.length : Int)))) ?_
    refine zN ?_
    refine zC (b := decide ((k : Int) < (l.length : Int))) rfl (fun h1 => ?_) (fun h1 => ?_)
    · skip
      have h1' : k < l.length := (by have hh := of_decide_eq_true h1; omega)
      clear h1
      refine AWp.skip ?_
      refine AWp.seq ?_
      refine AWp.block ?_
      refine zg ?_
      refine zM (.list false 5 (byteAVs l)) ?_
      refine zM (zI (k : Int)) ?_
      refine zr (zel k (.lit (.int .u8 ((l.getD k 0).toNat : Int))) Tryz.underlying22 sizeOf_5 (byteAVs_at (by first | omega | (simp; omega)))) ?_
      refine zr (zlE (.lit (.int .u8 ((l.getD k 0).toNat : Int))) Tryz.underlying5 sizeOf_5) ?_
      refine zM (.lit (.int .u8 ((l.getD k 0).toNat : Int))) ?_
      refine zN ?_
      refine zj 33 [(0, .list false 5 (byteAVs l)), (3, zI (k : Int)), (8, zB (decide ((k : Int) < (l.length : Int)))), (4, .lit (.int .u8 ((l.getD k 0).toNat : Int)))] [] M (bif (((l.getD k 0).toNat : Int) == 9) then false else (bif (((l.getD k 0).toNat : Int) == 10) then false else (bif (((l.getD k 0).toNat : Int) == 13) then false else (bif (decide (((l.getD k 0).toNat : Int) ≥ 32)) then (!(decide (((l.getD k 0).toNat : Int) ≤ 126))) else true)))) ?_ ?_
      · skip
        refine zM (.lit (.int .u8 ((l.getD k 0).toNat : Int))) ?_
        refine zr (zi (((l.getD k 0).toNat : Int) == 9)) ?_
        refine zM (zB (((l.getD k 0).toNat : Int) == 9)) ?_
        refine AOps.splitJ (t := 17) (b := ((l.getD k 0).toNat : Int) == 9) (x := false) (y := (bif (((l.getD k 0).toNat : Int) == 10) then false else (bif (((l.getD k 0).toNat : Int) == 13) then false else (bif (decide (((l.getD k 0).toNat : Int) ≥ 32)) then (!(decide (((l.getD k 0).toNat : Int) ≤ 126))) else true)))) rfl (fun h2 => ?_) (fun h2 => ?_)
        · skip
          have h2' : ((l.getD k 0).toNat) = 9 := (by have hh := eq_of_beq h2; omega)
          clear h2
          refine zs ?_
          refine zs ?_
          refine zr (zp true (zB true)) ?_
          refine zM (zB true) ?_
          refine zs ?_
          refine zs ?_
          refine zr (zp true (zB true)) ?_
          refine zM (zB true) ?_
          refine zs ?_
          refine zs ?_
          refine zs ?_
          refine zs ?_
          refine zs ?_
          refine zs ?_
          refine zr (zp true (zB true)) ?_
          refine zr (zn true) ?_
          exact AOps.nil rfl
        · skip
          have h2' : ¬ (((l.getD k 0).toNat) = 9) := (by have hh := beq_eq_false_iff_ne.1 h2; omega)
          clear h2
          refine zM (.lit (.int .u8 ((l.getD k 0).toNat : Int))) ?_
          refine zr (zi (((l.getD k 0).toNat : Int) == 10)) ?_
          refine zr (zp false (zB (((l.getD k 0).toNat : Int) == 10))) ?_
          refine zM (zB (((l.getD k 0).toNat : Int) == 10)) ?_
          refine AOps.splitJ (t := 21) (b := ((l.getD k 0).toNat : Int) == 10) (x := false) (y := (bif (((l.getD k 0).toNat : Int) == 13) then false else (bif (decide (((l.getD k 0).toNat : Int) ≥ 32)) then (!(decide (((l.getD k 0).toNat : Int) ≤ 126))) else true))) rfl (fun h3 => ?_) (fun h3 => ?_)
          · skip
            have h3' : ((l.getD k 0).toNat) = 10 := (by have hh := eq_of_beq h3; omega)
            clear h3
            refine zs ?_
            refine zs ?_
            refine zr (zp true (zB true)) ?_
            refine zM (zB true) ?_
            refine zs ?_
            refine zs ?_
            refine zs ?_
            refine zs ?_
            refine zs ?_
            refine zs ?_
            refine zr (zp true (zB true)) ?_
            refine zr (zn true) ?_
            exact AOps.nil rfl
          · skip
            have h3' : ¬ (((l.getD k 0).toNat) = 10) := (by have hh := beq_eq_false_iff_ne.1 h3; omega)
            clear h3
            refine zM (.lit (.int .u8 ((l.getD k 0).toNat : Int))) ?_
            refine zr (zi (((l.getD k 0).toNat : Int) == 13)) ?_
            refine zr (zp false (zB (((l.getD k 0).toNat : Int) == 13))) ?_
            refine zM (zB (((l.getD k 0).toNat : Int) == 13)) ?_
            refine AOps.splitJ (t := 25) (b := ((l.getD k 0).toNat : Int) == 13) (x := false) (y := (bif (decide (((l.getD k 0).toNat : Int) ≥ 32)) then (!(decide (((l.getD k 0).toNat : Int) ≤ 126))) else true)) rfl (fun h4 => ?_) (fun h4 => ?_)
            · skip
              have h4' : ((l.getD k 0).toNat) = 13 := (by have hh := eq_of_beq h4; omega)
              clear h4
              refine zs ?_
              refine zs ?_
              refine zs ?_
              refine zs ?_
              refine zs ?_
              refine zs ?_
              refine zr (zp true (zB true)) ?_
              refine zr (zn true) ?_
              exact AOps.nil rfl
            · skip
              have h4' : ¬ (((l.getD k 0).toNat) = 13) := (by have hh := beq_eq_false_iff_ne.1 h4; omega)
              clear h4
              refine zM (.lit (.int .u8 ((l.getD k 0).toNat : Int))) ?_
              refine zr (zi (decide (((l.getD k 0).toNat : Int) ≥ 32))) ?_
              refine zM (zB (decide (((l.getD k 0).toNat : Int) ≥ 32))) ?_
              refine AOps.splitJ (t := 28) (b := decide (((l.getD k 0).toNat : Int) ≥ 32)) (x := (!(decide (((l.getD k 0).toNat : Int) ≤ 126)))) (y := true) rfl (fun h5 => ?_) (fun h5 => ?_)
              · skip
                have h5' : ((l.getD k 0).toNat) ≥ 32 := (by have hh := of_decide_eq_true h5; omega)
                clear h5
                refine zM (.lit (.int .u8 ((l.getD k 0).toNat : Int))) ?_
                refine zr (zi (decide (((l.getD k 0).toNat : Int) ≤ 126))) ?_
                refine zr (zp true (zB (decide (((l.getD k 0).toNat : Int) ≤ 126)))) ?_
                refine zr (zp false (zB (decide (((l.getD k 0).toNat : Int) ≤ 126)))) ?_
                refine zr (zn (decide (((l.getD k 0).toNat : Int) ≤ 126))) ?_
                exact AOps.nil rfl
              · skip
                have h5' : ¬ (((l.getD k 0).toNat) ≥ 32) := (by have hh := of_decide_eq_false h5; omega)
                clear h5
                refine zs ?_
                refine zs ?_
                refine zr (zp false (zB false)) ?_
                refine zr (zp false (zB false)) ?_
                refine zr (zn false) ?_
                exact AOps.nil rfl
      refine zC (b := bif (((l.getD k 0).toNat : Int) == 9) then false else (bif (((l.getD k 0).toNat : Int) == 10) then false else (bif (((l.getD k 0).toNat : Int) == 13) then false else (bif (decide (((l.getD k 0).toNat : Int) ≥ 32)) then (!(decide (((l.getD k 0).toNat : Int) ≤ 126))) else true)))) rfl (fun h6 => ?_) (fun h6 => ?_)
      · skip
        have h6' : okB ((l.getD k 0).toNat : Int) = false := (rok_no h6)
        clear h6
        refine zg ?_
        refine zM (zB false) ?_
        refine zN ?_
        refine AWp.ret ?_
        exact ⟨.inl rfl, _, ResOf.one 2 (zB false) rfl rfl, ⟨congrArg (fun b => AV.lit (.bool b)) (readable_no (k := k) (by omega) (by assumption)), rfl⟩⟩
      · skip
        have h6' : okB ((l.getD k 0).toNat : Int) = true := (rok_go h6)
        clear h6
        refine AWp.skip ?_
        refine AWp.region ?_
        refine zM (zI (k : Int)) ?_
        refine zr (zw ((k : Int) + 1) ((k + 1 : Nat) : Int)) ?_
        refine zM (zI ((k + 1 : Nat) : Int)) ?_
        refine zN ?_
        exact ⟨_, by omega, k + 1, rfl, rfl, by omega, ext_0 hall (by assumption)⟩
    · skip
      have h1' : ¬ (k < l.length) := (by have hh := of_decide_eq_false h1; omega)
      clear h1
      refine AWp.exit ?_
      refine zg ?_
      refine zM (.list false 5 (byteAVs l)) ?_
      refine zr (zL (byteAVs l) l.length Tryz.underlying22 (byteAVs_len _)) ?_
      refine zr (zi (decide ((l.length : Int) ≤ 65536))) ?_
      refine zM (zB (decide ((l.length : Int) ≤ 65536))) ?_
      refine zN ?_
      refine AWp.ret ?_
      exact ⟨.inl rfl, _, ResOf.one 2 (zB (decide ((l.length : Int) ≤ 65536))) rfl rfl, ⟨congrArg (fun b => AV.lit (.bool b)) (readable_yes (fun j hj => hall j (by omega))), rfl⟩⟩

set_option maxRecDepth 20000 in
theorem rlines_any (l : List UInt8) (hl : l.length ≤ 140737488355328) (hrd : readableB l = true) (M : Nat → Option (List AV)) : ACall Tryz.prog 23 [.list false 5 (byteAVs l)] M (fun r M' => r = .list true 46 ((lexLines l).map encL) ∧ M = M') := by
  have hll := readable_len hrd
  refine ACall.of Tryz.func23 rfl (n := 96) rfl rfl rfl ?_
  refine zg ?_
  refine AOps.nilList 46 trivial rfl (by decide) (.inl rfl) ?_
  refine zN ?_
  refine zg ?_
  refine AOps.nilList 46 trivial rfl (by decide) (.inl rfl) ?_
  refine zN ?_
  refine zg ?_
  refine AOps.nilList 50 trivial rfl (by decide) (.inl rfl) ?_
  refine zN ?_
  refine zg ?_
  refine zM (zI 1) ?_
  refine zN ?_
  refine zg ?_
  refine zM (zI 0) ?_
  refine zN ?_
  refine zg ?_
  refine zM (zB false) ?_
  refine zN ?_
  refine zg ?_
  refine zM (zI 0) ?_
  refine zN ?_
  refine AWp.seq ?_
  refine AWp.block ?_
  refine AWp.loopE [0, 3, 4, 5, 6, 7, 8] [] (fun m s => ∃ (i n bg : Nat) (rk : Bool) (now : List Field) (out : List (List Field)), m = 2 * (l.length + 1 - i) + (1 - rk.toNat) ∧ s = ⟨[(0, .list false 5 (byteAVs l)), (3, .list true 46 (out.map encL)), (4, .list true 50 (now.map encF)), (5, zI (n : Int)), (6, zI (bg : Int)), (7, zB rk), (8, zI (i : Int))], [], M⟩ ∧ (bg ≤ i) ∧ (n ≤ i + 1) ∧ (now.length ≤ i) ∧ (out.length ≤ i) ∧ (RInv l i n bg rk now out)) ?_ ?_
  · exact ⟨_, 0, 1, 0, false, [], [], rfl, rfl, Nat.le_refl _, Nat.le_refl _, Nat.le_refl _, Nat.le_refl _, RInv.start l⟩
  · rintro _ _ ⟨i, n, bg, rk, now, out, rfl, rfl, hbg, hn, hnow, hol, hinv⟩
    refine AWp.seq ?_
    refine zg ?_
    refine zM (zI (i : Int)) ?_
    refine zM (.list false 5 (byteAVs l)) ?_
    refine zr (zL (byteAVs l) l.length Tryz.underlying22 (byteAVs_len _)) ?_
    refine zr (zi (decide ((i : Int) ≤ (l.length : Int)))) ?_
    refine zN ?_
    refine zC (b := decide ((i : Int) ≤ (l.length : Int))) rfl (fun h1 => ?_) (fun h1 => ?_)
    · skip
      have h1' : i ≤ l.length := (by have hh := of_decide_eq_true h1; omega)
      clear h1
      refine AWp.skip ?_
      refine AWp.block ?_
      refine AWp.seq ?_
      refine zj 24 [(0, .list false 5 (byteAVs l)), (3, .list true 46 (out.map encL)), (4, .list true 50 (now.map encF)), (5, zI (n : Int)), (6, zI (bg : Int)), (7, zB rk), (8, zI (i : Int)), (13, zB (decide ((i : Int) ≤ (l.length : Int))))] [] M (bif ((i : Int) == (l.length : Int)) then true else (((l.getD i 0).toNat : Int) == 10)) ?_ ?_
      · skip
        refine zM (zI (i : Int)) ?_
        refine zM (.list false 5 (byteAVs l)) ?_
        refine zr (zL (byteAVs l) l.length Tryz.underlying22 (byteAVs_len _)) ?_
        refine zr (zi ((i : Int) == (l.length : Int))) ?_
        refine zM (zB ((i : Int) == (l.length : Int))) ?_
        refine AOps.splitJ (t := 18) (b := (i : Int) == (l.length : Int)) (x := true) (y := (((l.getD i 0).toNat : Int) == 10)) rfl (fun h2 => ?_) (fun h2 => ?_)
        · skip
          have h2' : i = l.length := (by have hh := eq_of_beq h2; omega)
          clear h2
          refine zs ?_
          refine zs ?_
          refine zs ?_
          refine zs ?_
          refine zs ?_
          refine zr (zp true (zB true)) ?_
          exact AOps.nil rfl
        · skip
          have h2' : ¬ (i = l.length) := (by have hh := beq_eq_false_iff_ne.1 h2; omega)
          clear h2
          refine zM (.list false 5 (byteAVs l)) ?_
          refine zM (zI (i : Int)) ?_
          refine zr (zel i (.lit (.int .u8 ((l.getD i 0).toNat : Int))) Tryz.underlying22 sizeOf_5 (byteAVs_at (by first | omega | (simp; omega)))) ?_
          refine zr (zlE (.lit (.int .u8 ((l.getD i 0).toNat : Int))) Tryz.underlying5 sizeOf_5) ?_
          refine zr (zi (((l.getD i 0).toNat : Int) == 10)) ?_
          refine zr (zp false (zB (((l.getD i 0).toNat : Int) == 10))) ?_
          exact AOps.nil rfl
      refine zC (b := bif ((i : Int) == (l.length : Int)) then true else (((l.getD i 0).toNat : Int) == 10)) rfl (fun h3 => ?_) (fun h3 => ?_)
      · skip
        have h3' : i = l.length ∨ (l.getD i 0).toNat = 10 := (rnl_t h3)
        clear h3
        refine AWp.seq ?_
        refine zg ?_
        refine zM (.list false 50 (now.map encF)) ?_
        refine zr (zL (now.map encF) now.length Tryz.underlying46 (by simp)) ?_
        refine zr (zi (decide ((now.length : Int) > 0))) ?_
        refine zN ?_
        refine zC (b := decide ((now.length : Int) > 0)) rfl (fun h4 => ?_) (fun h4 => ?_)
        · skip
          have h4' : now.length > 0 := (by have hh := of_decide_eq_true h4; omega)
          clear h4
          refine AWp.region ?_
          refine zT (v := .list true 46 (out.map encL)) rfl ?_
          refine zM (.list false 50 (now.map encF)) ?_
          refine zbS [50] [.list false 50 (now.map encF)] Tryz.underlying42 Tryz.i46 ?_
          refine zap (m1 := out.length) (m2 := 1) 24 (out.map encL) [.list false 50 (now.map encF)] ((out ++ [now]).map encL) Tryz.underlying42 Tryz.underlying42 Tryz.i46 (by simp) rfl (by simp [encL]) ?_
          refine zT (v := .list true 46 ((out ++ [now]).map encL)) rfl ?_
          refine zN ?_
          refine zg ?_
          refine AOps.nilList 50 trivial rfl (by decide) (.inl rfl) ?_
          refine zN ?_
          refine zg ?_
          refine zM (zI (n : Int)) ?_
          refine zr (zw ((n : Int) + 1) ((n + 1 : Nat) : Int)) ?_
          refine zM (zI ((n + 1 : Nat) : Int)) ?_
          refine zN ?_
          refine zg ?_
          refine zM (zI (i : Int)) ?_
          refine zr (zw ((i : Int) + 1) ((i + 1 : Nat) : Int)) ?_
          refine zM (zI ((i + 1 : Nat) : Int)) ?_
          refine zN ?_
          refine zg ?_
          refine zM (zI ((i + 1 : Nat) : Int)) ?_
          refine zM (zI ((i + 1 : Nat) : Int)) ?_
          refine zN ?_
          refine zg ?_
          refine zM (zB false) ?_
          refine zN ?_
          refine AWp.exit ?_
          first
            | exact ⟨_, by simp; omega, i + 1, n + 1, i + 1, false, [], out ++ [now], rfl, rfl, by omega, by omega, by simp, by simp; omega, hinv.nl (by omega) (by assumption) (emit_some (by assumption))⟩
            | exact ⟨_, by simp; omega, i + 1, n + 1, i + 1, false, [], out, rfl, rfl, by omega, by omega, by simp, by omega, hinv.nl (by omega) (by assumption) (emit_none (by assumption))⟩
            | exact ⟨_, by omega, i + 1, n, bg, rk, now, out, rfl, rfl, by omega, by omega, by omega, by omega, hinv.skip hbg (by omega) (by assumption) (by assumption)⟩
            | exact ⟨_, by rw [(by assumption : rk = false ∧ blankB ((l.getD i 0).toNat : Int) = false).1]; simp, i, n, bg, true, now, out, rfl, rfl, by omega, by omega, by omega, by omega, hinv.hash (by omega) (by assumption) (by assumption) (by assumption)⟩
            | (have hwd := hinv.word (j := j) hrd hbg (by omega) (by assumption) (by assumption) (by assumption) hij hj hw (by assumption); exact ⟨_, by omega, j, n, bg, rk, _, out, rfl, rfl, by omega, by omega, by simp; omega, by omega, hwd.1⟩)
        · skip
          have h4' : ¬ (now.length > 0) := (by have hh := of_decide_eq_false h4; omega)
          clear h4
          refine AWp.skip ?_
          refine zg ?_
          refine AOps.nilList 50 trivial rfl (by decide) (.inl rfl) ?_
          refine zN ?_
          refine zg ?_
          refine zM (zI (n : Int)) ?_
          refine zr (zw ((n : Int) + 1) ((n + 1 : Nat) : Int)) ?_
          refine zM (zI ((n + 1 : Nat) : Int)) ?_
          refine zN ?_
          refine zg ?_
          refine zM (zI (i : Int)) ?_
          refine zr (zw ((i : Int) + 1) ((i + 1 : Nat) : Int)) ?_
          refine zM (zI ((i + 1 : Nat) : Int)) ?_
          refine zN ?_
          refine zg ?_
          refine zM (zI ((i + 1 : Nat) : Int)) ?_
          refine zM (zI ((i + 1 : Nat) : Int)) ?_
          refine zN ?_
          refine zg ?_
          refine zM (zB false) ?_
          refine zN ?_
          refine AWp.exit ?_
          first
            | exact ⟨_, by simp; omega, i + 1, n + 1, i + 1, false, [], out ++ [now], rfl, rfl, by omega, by omega, by simp, by simp; omega, hinv.nl (by omega) (by assumption) (emit_some (by assumption))⟩
            | exact ⟨_, by simp; omega, i + 1, n + 1, i + 1, false, [], out, rfl, rfl, by omega, by omega, by simp, by omega, hinv.nl (by omega) (by assumption) (emit_none (by assumption))⟩
            | exact ⟨_, by omega, i + 1, n, bg, rk, now, out, rfl, rfl, by omega, by omega, by omega, by omega, hinv.skip hbg (by omega) (by assumption) (by assumption)⟩
            | exact ⟨_, by rw [(by assumption : rk = false ∧ blankB ((l.getD i 0).toNat : Int) = false).1]; simp, i, n, bg, true, now, out, rfl, rfl, by omega, by omega, by omega, by omega, hinv.hash (by omega) (by assumption) (by assumption) (by assumption)⟩
            | (have hwd := hinv.word (j := j) hrd hbg (by omega) (by assumption) (by assumption) (by assumption) hij hj hw (by assumption); exact ⟨_, by omega, j, n, bg, rk, _, out, rfl, rfl, by omega, by omega, by simp; omega, by omega, hwd.1⟩)
      · skip
        have h3' : i ≠ l.length ∧ (l.getD i 0).toNat ≠ 10 := (rnl_f h3)
        clear h3
        refine AWp.skip ?_
        refine AWp.seq ?_
        refine zj 58 [(24, zB (bif ((i : Int) == (l.length : Int)) then true else (((l.getD i 0).toNat : Int) == 10))), (0, .list false 5 (byteAVs l)), (3, .list true 46 (out.map encL)), (4, .list true 50 (now.map encF)), (5, zI (n : Int)), (6, zI (bg : Int)), (7, zB rk), (8, zI (i : Int)), (13, zB (decide ((i : Int) ≤ (l.length : Int))))] [] M (bif rk then true else (bif (((l.getD i 0).toNat : Int) == 9) then true else (bif (((l.getD i 0).toNat : Int) == 13) then true else (((l.getD i 0).toNat : Int) == 32)))) ?_ ?_
        · skip
          refine zM (zB rk) ?_
          refine zM (zB rk) ?_
          refine AOps.splitJ (t := 38) (b := rk) (x := true) (y := (bif (((l.getD i 0).toNat : Int) == 9) then true else (bif (((l.getD i 0).toNat : Int) == 13) then true else (((l.getD i 0).toNat : Int) == 32)))) rfl (fun h5 => ?_) (fun h5 => ?_)
          · skip
            refine zs ?_
            refine zs ?_
            refine zs ?_
            refine zs ?_
            refine zs ?_
            refine zr (zp true (zB true)) ?_
            refine zM (zB true) ?_
            refine zs ?_
            refine zs ?_
            refine zs ?_
            refine zs ?_
            refine zs ?_
            refine zr (zp true (zB true)) ?_
            refine zM (zB true) ?_
            refine zs ?_
            refine zs ?_
            refine zs ?_
            refine zs ?_
            refine zs ?_
            refine zr (zp true (zB true)) ?_
            exact AOps.nil rfl
          · skip
            refine zM (.list false 5 (byteAVs l)) ?_
            refine zM (zI (i : Int)) ?_
            refine zr (zel i (.lit (.int .u8 ((l.getD i 0).toNat : Int))) Tryz.underlying22 sizeOf_5 (byteAVs_at (by first | omega | (simp; omega)))) ?_
            refine zr (zlE (.lit (.int .u8 ((l.getD i 0).toNat : Int))) Tryz.underlying5 sizeOf_5) ?_
            refine zr (zi (((l.getD i 0).toNat : Int) == 9)) ?_
            refine zr (zp false (zB (((l.getD i 0).toNat : Int) == 9))) ?_
            refine zM (zB (((l.getD i 0).toNat : Int) == 9)) ?_
            refine AOps.splitJ (t := 45) (b := ((l.getD i 0).toNat : Int) == 9) (x := true) (y := (bif (((l.getD i 0).toNat : Int) == 13) then true else (((l.getD i 0).toNat : Int) == 32))) rfl (fun h6 => ?_) (fun h6 => ?_)
            · skip
              have h6' : ((l.getD i 0).toNat) = 9 := (by have hh := eq_of_beq h6; omega)
              clear h6
              refine zs ?_
              refine zs ?_
              refine zs ?_
              refine zs ?_
              refine zs ?_
              refine zr (zp true (zB true)) ?_
              refine zM (zB true) ?_
              refine zs ?_
              refine zs ?_
              refine zs ?_
              refine zs ?_
              refine zs ?_
              refine zr (zp true (zB true)) ?_
              exact AOps.nil rfl
            · skip
              have h6' : ¬ (((l.getD i 0).toNat) = 9) := (by have hh := beq_eq_false_iff_ne.1 h6; omega)
              clear h6
              refine zM (.list false 5 (byteAVs l)) ?_
              refine zM (zI (i : Int)) ?_
              refine zr (zel i (.lit (.int .u8 ((l.getD i 0).toNat : Int))) Tryz.underlying22 sizeOf_5 (byteAVs_at (by first | omega | (simp; omega)))) ?_
              refine zr (zlE (.lit (.int .u8 ((l.getD i 0).toNat : Int))) Tryz.underlying5 sizeOf_5) ?_
              refine zr (zi (((l.getD i 0).toNat : Int) == 13)) ?_
              refine zr (zp false (zB (((l.getD i 0).toNat : Int) == 13))) ?_
              refine zM (zB (((l.getD i 0).toNat : Int) == 13)) ?_
              refine AOps.splitJ (t := 52) (b := ((l.getD i 0).toNat : Int) == 13) (x := true) (y := (((l.getD i 0).toNat : Int) == 32)) rfl (fun h7 => ?_) (fun h7 => ?_)
              · skip
                have h7' : ((l.getD i 0).toNat) = 13 := (by have hh := eq_of_beq h7; omega)
                clear h7
                refine zs ?_
                refine zs ?_
                refine zs ?_
                refine zs ?_
                refine zs ?_
                refine zr (zp true (zB true)) ?_
                exact AOps.nil rfl
              · skip
                have h7' : ¬ (((l.getD i 0).toNat) = 13) := (by have hh := beq_eq_false_iff_ne.1 h7; omega)
                clear h7
                refine zM (.list false 5 (byteAVs l)) ?_
                refine zM (zI (i : Int)) ?_
                refine zr (zel i (.lit (.int .u8 ((l.getD i 0).toNat : Int))) Tryz.underlying22 sizeOf_5 (byteAVs_at (by first | omega | (simp; omega)))) ?_
                refine zr (zlE (.lit (.int .u8 ((l.getD i 0).toNat : Int))) Tryz.underlying5 sizeOf_5) ?_
                refine zr (zi (((l.getD i 0).toNat : Int) == 32)) ?_
                refine zr (zp false (zB (((l.getD i 0).toNat : Int) == 32))) ?_
                exact AOps.nil rfl
        refine zC (b := bif rk then true else (bif (((l.getD i 0).toNat : Int) == 9) then true else (bif (((l.getD i 0).toNat : Int) == 13) then true else (((l.getD i 0).toNat : Int) == 32)))) rfl (fun h8 => ?_) (fun h8 => ?_)
        · skip
          have h8' : rk = true ∨ blankB ((l.getD i 0).toNat : Int) = true := (rblank_t h8)
          clear h8
          refine zg ?_
          refine zM (zI (i : Int)) ?_
          refine zr (zw ((i : Int) + 1) ((i + 1 : Nat) : Int)) ?_
          refine zM (zI ((i + 1 : Nat) : Int)) ?_
          refine zN ?_
          refine AWp.exit ?_
          first
            | exact ⟨_, by simp; omega, i + 1, n + 1, i + 1, false, [], out ++ [now], rfl, rfl, by omega, by omega, by simp, by simp; omega, hinv.nl (by omega) (by assumption) (emit_some (by assumption))⟩
            | exact ⟨_, by simp; omega, i + 1, n + 1, i + 1, false, [], out, rfl, rfl, by omega, by omega, by simp, by omega, hinv.nl (by omega) (by assumption) (emit_none (by assumption))⟩
            | exact ⟨_, by omega, i + 1, n, bg, rk, now, out, rfl, rfl, by omega, by omega, by omega, by omega, hinv.skip hbg (by omega) (by assumption) (by assumption)⟩
            | exact ⟨_, by rw [(by assumption : rk = false ∧ blankB ((l.getD i 0).toNat : Int) = false).1]; simp, i, n, bg, true, now, out, rfl, rfl, by omega, by omega, by omega, by omega, hinv.hash (by omega) (by assumption) (by assumption) (by assumption)⟩
            | (have hwd := hinv.word (j := j) hrd hbg (by omega) (by assumption) (by assumption) (by assumption) hij hj hw (by assumption); exact ⟨_, by omega, j, n, bg, rk, _, out, rfl, rfl, by omega, by omega, by simp; omega, by omega, hwd.1⟩)
        · skip
          have h8' : rk = false ∧ blankB ((l.getD i 0).toNat : Int) = false := (rblank_f h8)
          clear h8
          refine AWp.skip ?_
          refine AWp.seq ?_
          refine zg ?_
          refine zM (.list false 5 (byteAVs l)) ?_
          refine zM (zI (i : Int)) ?_
          refine zr (zel i (.lit (.int .u8 ((l.getD i 0).toNat : Int))) Tryz.underlying22 sizeOf_5 (byteAVs_at (by first | omega | (simp; omega)))) ?_
          refine zr (zlE (.lit (.int .u8 ((l.getD i 0).toNat : Int))) Tryz.underlying5 sizeOf_5) ?_
          refine zr (zi (((l.getD i 0).toNat : Int) == 35)) ?_
          refine zN ?_
          refine zC (b := ((l.getD i 0).toNat : Int) == 35) rfl (fun h9 => ?_) (fun h9 => ?_)
          · skip
            have h9' : ((l.getD i 0).toNat) = 35 := (by have hh := eq_of_beq h9; omega)
            clear h9
            refine zg ?_
            refine zM (zB true) ?_
            refine zN ?_
            refine AWp.exit ?_
            first
              | exact ⟨_, by simp; omega, i + 1, n + 1, i + 1, false, [], out ++ [now], rfl, rfl, by omega, by omega, by simp, by simp; omega, hinv.nl (by omega) (by assumption) (emit_some (by assumption))⟩
              | exact ⟨_, by simp; omega, i + 1, n + 1, i + 1, false, [], out, rfl, rfl, by omega, by omega, by simp, by omega, hinv.nl (by omega) (by assumption) (emit_none (by assumption))⟩
              | exact ⟨_, by omega, i + 1, n, bg, rk, now, out, rfl, rfl, by omega, by omega, by omega, by omega, hinv.skip hbg (by omega) (by assumption) (by assumption)⟩
              | exact ⟨_, by rw [(by assumption : rk = false ∧ blankB ((l.getD i 0).toNat : Int) = false).1]; simp, i, n, bg, true, now, out, rfl, rfl, by omega, by omega, by omega, by omega, hinv.hash (by omega) (by assumption) (by assumption) (by assumption)⟩
              | (have hwd := hinv.word (j := j) hrd hbg (by omega) (by assumption) (by assumption) (by assumption) hij hj hw (by assumption); exact ⟨_, by omega, j, n, bg, rk, _, out, rfl, rfl, by omega, by omega, by simp; omega, by omega, hwd.1⟩)
          · skip
            have h9' : ¬ (((l.getD i 0).toNat) = 35) := (by have hh := beq_eq_false_iff_ne.1 h9; omega)
            clear h9
            refine AWp.skip ?_
            refine zg ?_
            refine zM (zI (i : Int)) ?_
            refine zM (zI (i : Int)) ?_
            refine zN ?_
            refine AWp.seq ?_
            refine AWp.block ?_
            refine AWp.loopE [0, 3, 4, 5, 6, 7, 8, 9] [] (fun m s => ∃ (j : Nat), m = l.length - j ∧ s = ⟨[(0, .list false 5 (byteAVs l)), (3, .list true 46 (out.map encL)), (4, .list true 50 (now.map encF)), (5, zI (n : Int)), (6, zI (bg : Int)), (7, zB rk), (8, zI (i : Int)), (9, zI (j : Int))], [], M⟩ ∧ (i ≤ j) ∧ (j ≤ l.length) ∧ (∀ m, i ≤ m → m < j → decide (((l.getD m 0).toNat : Int) > 32) = true)) ?_ ?_
            · exact ⟨_, i, rfl, rfl, Nat.le_refl _, by omega, fun m h1 h2 => by omega⟩
            · rintro _ _ ⟨j, rfl, rfl, hij, hj, hw⟩
              refine AWp.seq ?_
              refine zj 77 [(0, .list false 5 (byteAVs l)), (3, .list true 46 (out.map encL)), (4, .list true 50 (now.map encF)), (5, zI (n : Int)), (6, zI (bg : Int)), (7, zB rk), (8, zI (i : Int)), (9, zI (j : Int))] [] M (bif (decide ((j : Int) < (l.length : Int))) then (decide (((l.getD j 0).toNat : Int) > 32)) else false) ?_ ?_
              · skip
                refine zM (zI (j : Int)) ?_
                refine zM (.list false 5 (byteAVs l)) ?_
                refine zr (zL (byteAVs l) l.length Tryz.underlying22 (byteAVs_len _)) ?_
                refine zr (zi (decide ((j : Int) < (l.length : Int)))) ?_
                refine zM (zB (decide ((j : Int) < (l.length : Int)))) ?_
                refine AOps.splitJ (t := 71) (b := decide ((j : Int) < (l.length : Int))) (x := (decide (((l.getD j 0).toNat : Int) > 32))) (y := false) rfl (fun h10 => ?_) (fun h10 => ?_)
                · skip
                  have h10' : j < l.length := (by have hh := of_decide_eq_true h10; omega)
                  clear h10
                  refine zM (.list false 5 (byteAVs l)) ?_
                  refine zM (zI (j : Int)) ?_
                  refine zr (zel j (.lit (.int .u8 ((l.getD j 0).toNat : Int))) Tryz.underlying22 sizeOf_5 (byteAVs_at (by first | omega | (simp; omega)))) ?_
                  refine zr (zlE (.lit (.int .u8 ((l.getD j 0).toNat : Int))) Tryz.underlying5 sizeOf_5) ?_
                  refine zr (zi (decide (((l.getD j 0).toNat : Int) > 32))) ?_
                  refine zr (zp true (zB (decide (((l.getD j 0).toNat : Int) > 32)))) ?_
                  exact AOps.nil rfl
                · skip
                  have h10' : ¬ (j < l.length) := (by have hh := of_decide_eq_false h10; omega)
                  clear h10
                  refine zs ?_
                  refine zs ?_
                  refine zs ?_
                  refine zs ?_
                  refine zs ?_
                  refine zr (zp false (zB false)) ?_
                  exact AOps.nil rfl
              refine zC (b := bif (decide ((j : Int) < (l.length : Int))) then (decide (((l.getD j 0).toNat : Int) > 32)) else false) rfl (fun h11 => ?_) (fun h11 => ?_)
              · skip
                have h11' : ((j : Int) < (l.length : Int)) ∧ (decide (((l.getD j 0).toNat : Int) > 32)) = true := (and_t h11)
                clear h11
                refine AWp.skip ?_
                refine AWp.block ?_
                refine AWp.region ?_
                refine zM (zI (j : Int)) ?_
                refine zr (zw ((j : Int) + 1) ((j + 1 : Nat) : Int)) ?_
                refine zM (zI ((j + 1 : Nat) : Int)) ?_
                refine zN ?_
                obtain ⟨hgo1, hgo2⟩ := (by assumption : ((j : Int) < (l.length : Int)) ∧ (decide (((l.getD j 0).toNat : Int) > 32)) = true)
                exact ⟨_, by omega, j + 1, rfl, rfl, by omega, by omega, ext_lt hw hgo2⟩
              · skip
                have h11' : (j : Int) < (l.length : Int) → (decide (((l.getD j 0).toNat : Int) > 32)) = false := (and_f h11)
                clear h11
                refine AWp.exit ?_
                refine zg ?_
                refine zT (v := .list true 50 (now.map encF)) rfl ?_
                refine zM (.list false 5 (byteAVs l)) ?_
                refine zM (zI (i : Int)) ?_
                refine zM (zI (j : Int)) ?_
                refine zr (Reader.piece (xs := (byteAVs l)) (i := i) (j := j) rfl Tryz.underlying22 sizeOf_5 rfl ⟨_, _, rfl, rfl⟩ ⟨_, _, rfl, rfl⟩ (by first | omega | (simp; omega)) (by rw [byteAVs_len]; omega) (ys := (byteAVs ((l.take j).drop i))) (by simp [byteAVs, List.map_take, List.map_drop])) ?_
                refine zr (Reader.ofBytes (l := (l.take j).drop i) rfl Tryz.underlying22 Tryz.underlying9 Tryz.underlying5 rfl) ?_
                refine zM (zI (n : Int)) ?_
                refine zM (zI (i : Int)) ?_
                refine zM (zI (bg : Int)) ?_
                refine zr (zu ((i : Int) - (bg : Int)) ((i - bg : Nat) : Int) (by rw [IntWalk.i64_in _ (by omega)]; omega)) ?_
                refine zr (zw (((i - bg : Nat) : Int) + 1) (((i - bg) + 1 : Nat) : Int)) ?_
                refine zr (Reader.build (xs := [(0, .str ((l.take j).drop i)), (1, zI (n : Int)), (2, zI (((i - bg) + 1 : Nat) : Int))]) (Es := []) (places := places_50) rfl Tryz.underlying50 (by refine ⟨rfl, fun j p x hp hx => ?_⟩; match j, hp, hx with | 0, hp, hx => cases hp; cases hx; exact ⟨rfl, .inl ⟨rfl, rfl⟩, rfl, rfl⟩ | 1, hp, hx => cases hp; cases hx; exact ⟨rfl, .inl ⟨rfl, rfl⟩, rfl, rfl⟩ | 2, hp, hx => cases hp; cases hx; exact ⟨rfl, .inl ⟨rfl, rfl⟩, rfl, rfl⟩ | _ + 3, hp, hx => cases hp) zero_50 rfl places_50_ok (cs := [.str ((l.take j).drop i), zI (n : Int), zI (((i - bg) + 1 : Nat) : Int)]) rfl) ?_
                refine zbS [] [.agg [.str ((l.take j).drop i), zI (n : Int), zI (((i - bg) + 1 : Nat) : Int)]] Tryz.underlying46 Tryz.i50 ?_
                refine zap (m1 := now.length) (m2 := 1) 32 (now.map encF) [.agg [.str ((l.take j).drop i), zI (n : Int), zI (((i - bg) + 1 : Nat) : Int)]] ((now ++ [Field.mk ((l.take j).drop i) n ((i - bg) + 1)]).map encF) Tryz.underlying46 Tryz.underlying46 Tryz.i50 (by simp) rfl (by rw [List.map_append]; rfl) ?_
                refine zT (v := .list true 50 ((now ++ [Field.mk ((l.take j).drop i) n ((i - bg) + 1)]).map encF)) rfl ?_
                refine zN ?_
                refine AWp.region ?_
                refine zM (zI (j : Int)) ?_
                refine zM (zI (j : Int)) ?_
                refine zN ?_
                first
                  | exact ⟨_, by simp; omega, i + 1, n + 1, i + 1, false, [], out ++ [now], rfl, rfl, by omega, by omega, by simp, by simp; omega, hinv.nl (by omega) (by assumption) (emit_some (by assumption))⟩
                  | exact ⟨_, by simp; omega, i + 1, n + 1, i + 1, false, [], out, rfl, rfl, by omega, by omega, by simp, by omega, hinv.nl (by omega) (by assumption) (emit_none (by assumption))⟩
                  | exact ⟨_, by omega, i + 1, n, bg, rk, now, out, rfl, rfl, by omega, by omega, by omega, by omega, hinv.skip hbg (by omega) (by assumption) (by assumption)⟩
                  | exact ⟨_, by rw [(by assumption : rk = false ∧ blankB ((l.getD i 0).toNat : Int) = false).1]; simp, i, n, bg, true, now, out, rfl, rfl, by omega, by omega, by omega, by omega, hinv.hash (by omega) (by assumption) (by assumption) (by assumption)⟩
                  | (have hwd := hinv.word (j := j) hrd hbg (by omega) (by assumption) (by assumption) (by assumption) hij hj hw (by assumption); exact ⟨_, by omega, j, n, bg, rk, _, out, rfl, rfl, by omega, by omega, by simp; omega, by omega, hwd.1⟩)
    · skip
      have h1' : ¬ (i ≤ l.length) := (by have hh := of_decide_eq_false h1; omega)
      clear h1
      refine AWp.exit ?_
      refine zg ?_
      refine zT (v := .list true 46 (out.map encL)) rfl ?_
      refine zT (v := .list true 46 (out.map encL)) rfl ?_
      refine zN ?_
      refine AWp.ret ?_
      exact ⟨.inl rfl, _, ResOf.one 2 (.list true 46 (out.map encL)) rfl rfl, ⟨by rw [RInv.done hinv (by assumption), rlex hrd], rfl⟩⟩
end
section
open Go.RowKit
end
section
open Go.RowKit

set_option maxRecDepth 20000 in
theorem join_any (x : List (List Field)) (hx : Small x) (hne : ∀ i k, i < x.length → k < (x.getD i []).length → ((x.getD i []).getD k f0).text ≠ []) (hb : (joinT x).length ≤ 140737488355328) (M : Nat → Option (List AV)) : ACall Tryz.prog 32 [.list false 46 (x.map encL)] M (fun r M' => r = .str (joinT x) ∧ M = M') := by
  have hx1 := hx.1
  refine ACall.of Tryz.func32 rfl (n := 31) rfl rfl rfl ?_
  refine zg ?_
  refine zM (.str []) ?_
  refine zN ?_
  refine zg ?_
  refine AOps.allocG (Es := [0]) trivial rfl (by decide) rfl (by decide) zero_88 rfl (cells := [.lit (.pointer none), .lit (.slice none 0 0)]) rfl (all_scalar rfl) (all_flat rfl) ?_
  intro id1 hid1n hid1t
  refine zN ?_
  refine AWp.seq ?_
  refine zg ?_
  refine zM (.list false 46 (x.map encL)) ?_
  refine zr (zL (x.map encL) x.length Tryz.underlying42 (by simp)) ?_
  refine zM (zI 0) ?_
  refine zN ?_
  refine AWp.block ?_
  refine AWp.loopE [0, 3, 8, 9, 10] [] (fun m s => ∃ (i : Nat) (p : AV), m = x.length - i ∧ s = ⟨[(0, .list false 46 (x.map encL)), (3, .gptr id1 0), (8, .list false 46 (x.map encL)), (9, zI (x.length : Int)), (10, zI (i : Int))], [], (setM M id1 [p, bufAV (joinT (x.take i))])⟩ ∧ (i ≤ x.length) ∧ (p = .lit (.pointer none) ∨ p = .gptr id1 0)) ?_ ?_
  · exact ⟨_, 0, _, rfl, rfl, Nat.zero_le _, .inl rfl⟩
  · rintro _ _ ⟨i, p, rfl, rfl, hi, hp⟩
    have hxi := hx.2 i
    refine zg ?_
    refine zr (zi (decide ((i : Int) < (x.length : Int)))) ?_
    refine zN ?_
    refine AWp.seq ?_
    refine zC (b := decide ((i : Int) < (x.length : Int))) rfl (fun h1 => ?_) (fun h1 => ?_)
    · skip
      have h1' : i < x.length := (by have hh := of_decide_eq_true h1; omega)
      clear h1
      refine AWp.skip ?_
      refine AWp.seq ?_
      refine AWp.block ?_
      refine zg ?_
      refine zr (zel i (.list false 50 ((x.getD i []).map encF)) Tryz.underlying42 sizeOf_46 (getD_map (l := x) (j := i) (by first | assumption | omega))) ?_
      refine zr (zlE (.list false 50 ((x.getD i []).map encF)) Tryz.underlying46 sizeOf_46) ?_
      refine zM (.list false 50 ((x.getD i []).map encF)) ?_
      refine zN ?_
      refine AWp.seq ?_
      refine zg ?_
      refine zM (.list false 50 ((x.getD i []).map encF)) ?_
      refine zr (zL ((x.getD i []).map encF) ((x.getD i []).length) Tryz.underlying46 (by simp)) ?_
      refine zM (zI 0) ?_
      refine zN ?_
      refine AWp.block ?_
      refine AWp.loopE [0, 3, 8, 9, 10, 5, 14, 15, 16] [] (fun m s => ∃ (k : Nat) (p : AV), m = (x.getD i []).length - k ∧ s = ⟨[(0, .list false 46 (x.map encL)), (3, .gptr id1 0), (8, .list false 46 (x.map encL)), (9, zI (x.length : Int)), (10, zI (i : Int)), (5, .list false 50 ((x.getD i []).map encF)), (14, .list false 50 ((x.getD i []).map encF)), (15, zI (((x.getD i []).length : Nat) : Int)), (16, zI (k : Int))], [], (setM M id1 [p, bufAV (joinAt x i k)])⟩ ∧ (k ≤ (x.getD i []).length) ∧ (i < x.length) ∧ (p = .lit (.pointer none) ∨ p = .gptr id1 0)) ?_ ?_
      · exact ⟨_, 0, _, rfl, (by rw [joinAt_0]; rfl), Nat.zero_le _, by assumption, hp⟩
      · rintro _ _ ⟨k, p, rfl, rfl, hk, hi2, hp⟩
        refine zg ?_
        refine zr (zi (decide ((k : Int) < (((x.getD i []).length : Nat) : Int)))) ?_
        refine zN ?_
        refine AWp.seq ?_
        refine zC (b := decide ((k : Int) < (((x.getD i []).length : Nat) : Int))) rfl (fun h2 => ?_) (fun h2 => ?_)
        · skip
          have h2' : k < ((x.getD i []).length) := (by have hh := of_decide_eq_true h2; omega)
          clear h2
          refine AWp.skip ?_
          refine AWp.seq ?_
          refine AWp.block ?_
          refine zg ?_
          refine zM (zI (k : Int)) ?_
          refine zr (zel k (encF ((x.getD i []).getD k f0)) Tryz.underlying46 sizeOf_50 (getD_map (l := (x.getD i [])) (j := k) (by first | assumption | omega))) ?_
          refine zr (zlE (encF ((x.getD i []).getD k f0)) Tryz.underlying50 sizeOf_50) ?_
          refine zal [] zero_50 [.str [], zI 0, zI 0] ?_
          refine zM (zI (k : Int)) ?_
          refine zst sizeOf_50 (encF ((x.getD i []).getD k f0)) ?_
          refine zN ?_
          refine AWp.seq ?_
          refine zg ?_
          refine zM (zI (k : Int)) ?_
          refine zr (zi (decide ((k : Int) > 0))) ?_
          refine zN ?_
          refine zC (b := decide ((k : Int) > 0)) rfl (fun h3 => ?_) (fun h3 => ?_)
          · skip
            have h3' : k > 0 := (by have hh := of_decide_eq_true h3; omega)
            clear h3
            refine AWp.region ?_
            refine zc [.gptr id1 0, .lit (.int .u8 32)] Tryz.call55 (WriteByte_to id1 (by assumption) (joinAt x i k) ((joinAt x i k) ++ [(32 : UInt8)]) (32 : UInt8) rfl (by have hj1 := joinAt_le (x := x) hi2 hk; omega) p (by assumption) (setM M id1 [p, bufAV (joinAt x i k)]) (setM M id1 [.gptr id1 0, bufAV ((joinAt x i k) ++ [(32 : UInt8)])]) setM_get setM_setM) ?_
            rintro _ _ ⟨rfl, rfl⟩
            refine zN ?_
            refine AWp.region ?_
            refine zr (zfL Tryz.underlying50 sizeOf_9) ?_
            refine zr (zlL (.str (((x.getD i []).getD k f0).text)) Tryz.underlying9 sizeOf_9) ?_
            refine zc [.gptr id1 0, .str (((x.getD i []).getD k f0).text)] Tryz.call56 (WriteString_to id1 (by assumption) ((joinAt x i k) ++ [(32 : UInt8)]) (((x.getD i []).getD k f0).text) (joinAt x i (k + 1)) (joinAt_pos (by assumption) (by assumption)) (fun e => hne i k hi2 (by assumption) (List.append_eq_nil_iff.1 e).2) (by have hj2 := joinAt_le2 (x := x) (i := i) (k := k) hi2 (by assumption); split at hj2 <;> (first | omega | (rw [List.length_append]; simp only [List.length_cons, List.length_nil]; omega))) (.gptr id1 0) (.inr rfl) (setM M id1 [.gptr id1 0, bufAV ((joinAt x i k) ++ [(32 : UInt8)])]) (setM M id1 [.gptr id1 0, bufAV (joinAt x i (k + 1))]) setM_get setM_setM) ?_
            rintro _ _ ⟨rfl, rfl⟩
            refine zN ?_
            refine AWp.region ?_
            refine zr (zw ((k : Int) + 1) ((k + 1 : Nat) : Int)) ?_
            refine zM (zI ((k + 1 : Nat) : Int)) ?_
            refine zN ?_
            exact ⟨_, by omega, k + 1, _, rfl, rfl, by omega, by omega, .inr rfl⟩
          · skip
            have h3' : ¬ (k > 0) := (by have hh := of_decide_eq_false h3; omega)
            clear h3
            refine AWp.skip ?_
            refine AWp.region ?_
            refine zr (zfL Tryz.underlying50 sizeOf_9) ?_
            refine zr (zlL (.str (((x.getD i []).getD k f0).text)) Tryz.underlying9 sizeOf_9) ?_
            refine zc [.gptr id1 0, .str (((x.getD i []).getD k f0).text)] Tryz.call56 (WriteString_to id1 (by assumption) (joinAt x i k) (((x.getD i []).getD k f0).text) (joinAt x i (k + 1)) (joinAt_neg (by assumption) (by assumption)) (fun e => hne i k hi2 (by assumption) (List.append_eq_nil_iff.1 e).2) (by have hj2 := joinAt_le2 (x := x) (i := i) (k := k) hi2 (by assumption); split at hj2 <;> (first | omega | (rw [List.length_append]; simp only [List.length_cons, List.length_nil]; omega))) p (by assumption) (setM M id1 [p, bufAV (joinAt x i k)]) (setM M id1 [.gptr id1 0, bufAV (joinAt x i (k + 1))]) setM_get setM_setM) ?_
            rintro _ _ ⟨rfl, rfl⟩
            refine zN ?_
            refine AWp.region ?_
            refine zr (zw ((k : Int) + 1) ((k + 1 : Nat) : Int)) ?_
            refine zM (zI ((k + 1 : Nat) : Int)) ?_
            refine zN ?_
            exact ⟨_, by omega, k + 1, _, rfl, rfl, by omega, by omega, .inr rfl⟩
        · skip
          have h2' : ¬ (k < ((x.getD i []).length)) := (by have hh := of_decide_eq_false h2; omega)
          clear h2
          refine AWp.exit ?_
          refine AWp.region ?_
          refine zc [.gptr id1 0, .lit (.int .u8 10)] Tryz.call55 (WriteByte_to id1 (by assumption) (joinAt x i k) (joinT (x.take (i + 1))) (10 : UInt8) (joinAt_end hi2 hk (by assumption)) (by have hj1 := joinAt_le (x := x) hi2 hk; omega) p (by assumption) (setM M id1 [p, bufAV (joinAt x i k)]) (setM M id1 [.gptr id1 0, bufAV (joinT (x.take (i + 1)))]) setM_get setM_setM) ?_
          rintro _ _ ⟨rfl, rfl⟩
          refine zN ?_
          refine AWp.region ?_
          refine zr (zw ((i : Int) + 1) ((i + 1 : Nat) : Int)) ?_
          refine zM (zI ((i + 1 : Nat) : Int)) ?_
          refine zN ?_
          exact ⟨_, by omega, i + 1, _, rfl, rfl, by omega, .inr rfl⟩
    · skip
      have h1' : ¬ (i < x.length) := (by have hh := of_decide_eq_false h1; omega)
      clear h1
      refine AWp.exit ?_
      refine zg ?_
      refine zc [.gptr id1 0] Tryz.call57 (String_any id1 (by assumption) (joinT (x.take i)) (by rw [join_done (by assumption) (by assumption)]; exact hb) p (setM M id1 [p, bufAV (joinT (x.take i))]) M setM_get (delM_set hid1n)) ?_
      rintro _ _ ⟨rfl, rfl⟩
      refine zM (.str (joinT (x.take i))) ?_
      refine zN ?_
      refine AWp.ret ?_
      exact ⟨.inl rfl, _, ResOf.one 2 (.str (joinT (x.take i))) rfl rfl, ⟨congrArg AV.str (join_done (by assumption) (by assumption)), rfl⟩⟩
end
end Go.Proofs.YtmmfkpbkacfegaaGreatDoor
