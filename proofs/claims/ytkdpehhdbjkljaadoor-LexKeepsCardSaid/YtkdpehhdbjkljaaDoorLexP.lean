/- The plain law of lex: texts in fields. No program in sight. -/
import Derived.Test.YtkdpehhdbjkljaaDoorAvAux
import Derived.Lib.Split
namespace Go.Proofs.YtkdpehhdbjkljaaDoor

def blankB (c : Int) : Bool := bif c == 32 then true else bif c == 9 then true else c == 13
def okB (c : Int) : Bool := blankB c || c == 10 || (decide (32 ≤ c) && decide (c ≤ 126))
def readableB (l : List UInt8) : Bool := (l.all fun b => okB b.toNat) && decide (l.length ≤ 65536)

structure Field where
  text : List UInt8
  line : Nat
  col : Nat
  deriving DecidableEq

/-- The fields of a line's rest: n the line's number, i the place of the rest in the line. -/
def scan (n i : Nat) (s : List UInt8) : List Field :=
  match s with
  | [] => []
  | c :: r =>
    if blankB c.toNat then scan n (i + 1) r
    else if c.toNat = 35 then []
    else ⟨c :: r.takeWhile (fun c => !blankB c.toNat), n, i + 1⟩ :: scan n (i + 1 + (r.takeWhile (fun c => !blankB c.toNat)).length) (r.dropWhile (fun c => !blankB c.toNat))
termination_by s.length
decreasing_by
  all_goals simp_wf
  · have := (List.dropWhile_sublist (l := r) (fun c => !blankB c.toNat)).length_le
    omega

theorem scan_nil (n i : Nat) : scan n i [] = [] := by unfold scan; rfl
theorem scan_blank {n i : Nat} {c : UInt8} {r : List UInt8} (h : blankB c.toNat = true) : scan n i (c :: r) = scan n (i + 1) r := by
  rw [scan]; simp [h]
theorem scan_hash {n i : Nat} {c : UInt8} {r : List UInt8} (h : blankB c.toNat = false) (h2 : c.toNat = 35) : scan n i (c :: r) = [] := by
  rw [scan, if_neg (by rw [h]; simp), if_pos h2]
theorem scan_word {n i : Nat} {c : UInt8} {r : List UInt8} (h : blankB c.toNat = false) (h2 : c.toNat ≠ 35) :
    scan n i (c :: r) = ⟨c :: r.takeWhile (fun c => !blankB c.toNat), n, i + 1⟩ :: scan n (i + 1 + (r.takeWhile (fun c => !blankB c.toNat)).length) (r.dropWhile (fun c => !blankB c.toNat)) := by
  rw [scan]; simp [h, h2]

theorem drop_at {l : List UInt8} {i : Nat} (h : i < l.length) : l.drop i = l.getD i 0 :: l.drop (i + 1) := by
  rw [List.drop_eq_getElem_cons h, List.getD_eq_getElem?_getD, List.getElem?_eq_getElem h]; rfl

theorem takeWhile_to (p : UInt8 → Bool) : ∀ (l : List UInt8) (m : Nat), m ≤ l.length → (∀ j, j < m → p (l.getD j 0) = true) → (m < l.length → p (l.getD m 0) = false) → l.takeWhile p = l.take m ∧ l.dropWhile p = l.drop m
  | [], m, hm, _, _ => by simp at hm; subst hm; simp
  | c :: r, 0, _, _, h => by
    have := h (by simp)
    simp at this
    simp [this]
  | c :: r, m + 1, hm, ha, h => by
    have h0 := ha 0 (by omega)
    simp at h0
    have ih := takeWhile_to p r m (by simpa using hm) (fun j hj => by simpa using ha (j + 1) (by omega)) (fun hlt => by simpa using h (by simpa using hlt))
    simp [List.takeWhile_cons, List.dropWhile_cons, h0, ih]

/-- A word from i to j. -/
theorem scan_step {l : List UInt8} {n i j : Nat} (hij : i < j) (hj : j ≤ l.length) (hw : ∀ m, i ≤ m → m < j → blankB ((l.getD m 0).toNat : Int) = false) (h35 : (l.getD i 0).toNat ≠ 35) (he : j < l.length → blankB ((l.getD j 0).toNat : Int) = true) :
    scan n i (l.drop i) = ⟨(l.take j).drop i, n, i + 1⟩ :: scan n j (l.drop j) := by
  have hg : ∀ (a b : Nat), (l.drop a).getD b 0 = l.getD (a + b) 0 := by
    intro a b; rw [List.getD_eq_getElem?_getD, List.getElem?_drop, ← List.getD_eq_getElem?_getD]
  rw [drop_at (by omega : i < l.length), scan_word (hw i (Nat.le_refl _) hij) h35]
  obtain ⟨h1, h2⟩ := takeWhile_to (fun c => !blankB c.toNat) (l.drop (i + 1)) (j - (i + 1)) (by simp; omega) (fun m hm => by
    show (!blankB (((l.drop (i + 1)).getD m 0).toNat : Int)) = true
    rw [hg, hw (i + 1 + m) (by omega) (by omega)]; rfl) (fun hm => by
    simp at hm
    show (!blankB (((l.drop (i + 1)).getD (j - (i + 1)) 0).toNat : Int)) = false
    rw [hg, show i + 1 + (j - (i + 1)) = j by omega, he (by omega)]; rfl)
  rw [h1, h2]
  have e1 : (l.drop (i + 1)).drop (j - (i + 1)) = l.drop j := by rw [List.drop_drop]; congr 1; omega
  have e2 : i + 1 + ((l.drop (i + 1)).take (j - (i + 1))).length = j := by simp; omega
  rw [e1, e2]
  congr 2
  rw [List.drop_take, drop_at (by omega : i < l.length), show j - i = (j - (i + 1)) + 1 by omega, List.take_succ_cons]

theorem scan_skip {l : List UInt8} {n i : Nat} (h : i < l.length → blankB ((l.getD i 0).toNat : Int) = true) : scan n i (l.drop i) = scan n (i + 1) (l.drop (i + 1)) := by
  rcases Nat.lt_or_ge i l.length with hi | hi
  · rw [drop_at hi, scan_blank (h hi)]
  · rw [List.drop_eq_nil_of_le hi, List.drop_eq_nil_of_le (by omega), scan_nil, scan_nil]

theorem scan_end {l : List UInt8} {n i : Nat} (h : l.length ≤ i) : scan n i (l.drop i) = [] := by rw [List.drop_eq_nil_of_le h, scan_nil]
theorem scan_remark {l : List UInt8} {n i : Nat} (hi : i < l.length) (h : blankB ((l.getD i 0).toNat : Int) = false) (h2 : (l.getD i 0).toNat = 35) : scan n i (l.drop i) = [] := by rw [drop_at hi, scan_hash h h2]

/-- The lines that have fields, from the n-th on. -/
def lexFrom (n : Nat) : List (List UInt8) → List (List Field)
  | [] => []
  | s :: r => if (scan n 0 s).length = 0 then lexFrom (n + 1) r else scan n 0 s :: lexFrom (n + 1) r

theorem lexFrom_at {ls : List (List UInt8)} {k n : Nat} {s : List UInt8} (h : ls[k]? = some s) : lexFrom n (ls.drop k) = (if (scan n 0 s).length = 0 then lexFrom (n + 1) (ls.drop (k + 1)) else scan n 0 s :: lexFrom (n + 1) (ls.drop (k + 1))) := by
  obtain ⟨hlt, he⟩ := List.getElem?_eq_some_iff.1 h
  rw [List.drop_eq_getElem_cons hlt, he]
  rfl

theorem and_t {p : Prop} [Decidable p] {b : Bool} (h : (bif decide p then b else false) = true) : p ∧ b = true := by
  by_cases hp : p <;> simp [hp] at h ⊢; exact h
theorem and_f {p : Prop} [Decidable p] {b : Bool} (h : (bif decide p then b else false) = false) (hp : p) : b = false := by simpa [hp] using h
theorem ext_lt {i j : Nat} {p : Nat → Prop} (h : ∀ m, i ≤ m → m < j → p m) (hj : p j) : ∀ m, i ≤ m → m < j + 1 → p m := by
  intro m h1 h2
  rcases Nat.lt_or_ge m j with h3 | h3
  · exact h m h1 h3
  · rw [show m = j by omega]; exact hj
theorem ext_0 {j : Nat} {p : Nat → Prop} (h : ∀ m, m < j → p m) (hj : p j) : ∀ m, m < j + 1 → p m := by
  intro m h2
  rcases Nat.lt_or_ge m j with h3 | h3
  · exact h m h3
  · rw [show m = j by omega]; exact hj

theorem lex_app {ls : List (List UInt8)} {k : Nat} {out R : List (List Field)} {fl : List Field} {s : List UInt8} (hs : ls[k]? = some s) (hf : fl = scan (k + 1) 0 s) (hp : fl.length > 0) (hout : out ++ lexFrom (k + 1) (ls.drop k) = R) :
    (out ++ [fl]) ++ lexFrom (k + 1 + 1) (ls.drop (k + 1)) = R := by
  rw [lexFrom_at hs, if_neg (by rw [← hf]; omega), ← hf] at hout
  simpa using hout
theorem lex_skip {ls : List (List UInt8)} {k : Nat} {out R : List (List Field)} {fl : List Field} {s : List UInt8} (hs : ls[k]? = some s) (hf : fl = scan (k + 1) 0 s) (hp : ¬ (fl.length > 0)) (hout : out ++ lexFrom (k + 1) (ls.drop k) = R) :
    out ++ lexFrom (k + 1 + 1) (ls.drop (k + 1)) = R := by
  rw [lexFrom_at hs, if_pos (by rw [← hf]; omega)] at hout
  exact hout
theorem lex_done {ls : List (List UInt8)} {k : Nat} {out R : List (List Field)} (hk : ¬ (k < ls.length)) (hout : out ++ lexFrom (k + 1) (ls.drop k) = R) : out = R := by
  rw [List.drop_eq_nil_of_le (by omega)] at hout
  simpa [lexFrom] using hout
theorem scan_at_end {n i : Nat} {s : List UInt8} {fl R : List Field} (hi : ¬ (i < s.length)) (h : fl ++ scan n i (s.drop i) = R) : fl = R := by
  rw [scan_end (by omega)] at h; simpa using h
theorem scan_at_hash {n i : Nat} {s : List UInt8} {fl R : List Field} (hi : i < s.length) (hb : blankB ((s.getD i 0).toNat : Int) = false) (h35 : (s.getD i 0).toNat = 35) (h : fl ++ scan n i (s.drop i) = R) : fl = R := by
  rw [scan_remark hi hb h35] at h; simpa using h
theorem scan_at_blank {n i : Nat} {s : List UInt8} {fl R : List Field} (hb : blankB ((s.getD i 0).toNat : Int) = true) (h : fl ++ scan n i (s.drop i) = R) : fl ++ scan n (i + 1) (s.drop (i + 1)) = R := by
  rw [scan_skip (fun _ => hb)] at h; exact h
theorem scan_at_word {n i j : Nat} {s : List UInt8} {fl R : List Field} (hlt : i < s.length) (hb : blankB ((s.getD i 0).toNat : Int) = false) (h35 : ¬ ((s.getD i 0).toNat = 35)) (hij : i ≤ j) (hj : j ≤ s.length) (hw : ∀ m, i ≤ m → m < j → blankB ((s.getD m 0).toNat : Int) = false)
    (he : (j : Int) < (s.length : Int) → (!(blankB ((s.getD j 0).toNat : Int))) = false) (h : fl ++ scan n i (s.drop i) = R) : (fl ++ [⟨(s.take j).drop i, n, i + 1⟩]) ++ scan n (j + 1) (s.drop (j + 1)) = R ∧ i < j := by
  have hne : i ≠ j := by
    intro e
    subst e
    have := he (by omega)
    rw [hb] at this; cases this
  have hlt' : i < j := by omega
  have he' : j < s.length → blankB ((s.getD j 0).toNat : Int) = true := fun hh => by
    have := he (by omega)
    cases hbb : blankB ((s.getD j 0).toNat : Int) with
    | true => rfl
    | false => rw [hbb] at this; cases this
  rw [scan_step hlt' hj hw h35 he', scan_skip (n := n) he'] at h
  exact ⟨by simpa using h, hlt'⟩

theorem okB_go {c : Int} (h : (bif !(blankB c) then (bif c != 10 then (bif decide (c < 32) then true else decide (c > 126)) else false) else false) = false) : okB c = true := by
  unfold okB
  cases hb : blankB c with
  | true => rfl
  | false =>
    rw [hb] at h
    simp only [Bool.not_false, cond_true] at h
    by_cases h10 : c = 10
    · subst h10; rfl
    · have : (c != 10) = true := by simpa using h10
      rw [this] at h
      by_cases h32 : c < 32
      · simp [h32] at h
      · simp [h32] at h
        simp; omega
theorem okB_no {c : Int} (h : (bif !(blankB c) then (bif c != 10 then (bif decide (c < 32) then true else decide (c > 126)) else false) else false) = true) : okB c = false := by
  unfold okB
  cases hb : blankB c with
  | true => simp [hb] at h
  | false =>
    rw [hb] at h
    simp only [Bool.not_false, cond_true] at h
    by_cases h10 : c = 10
    · subst h10; simp at h
    · have : (c != 10) = true := by simpa using h10
      rw [this] at h
      by_cases h32 : c < 32
      · simp [h10]; omega
      · simp [h32] at h
        simp [h10]; omega
theorem readable_no {l : List UInt8} {k : Nat} (hk : k < l.length) (h : okB ((l.getD k 0).toNat : Int) = false) : false = readableB l := by
  have : (l.all fun b => okB b.toNat) = false := by
    cases hh : (l.all fun b => okB b.toNat) with
    | false => rfl
    | true =>
      have := List.all_eq_true.1 hh (l.getD k 0) (by rw [List.getD_eq_getElem?_getD, List.getElem?_eq_getElem hk]; exact List.getElem_mem _)
      rw [h] at this; cases this
  simp [readableB, this]
theorem readable_yes {l : List UInt8} (h : ∀ j, j < l.length → okB ((l.getD j 0).toNat : Int) = true) : decide ((l.length : Int) ≤ 65536) = readableB l := by
  have : (l.all fun b => okB b.toNat) = true := by
    refine List.all_eq_true.2 (fun b hb => ?_)
    obtain ⟨j, hj, rfl⟩ := List.mem_iff_getElem.1 hb
    have := h j hj
    rw [List.getD_eq_getElem?_getD, List.getElem?_eq_getElem hj] at this
    exact this
  rw [readableB, this, Bool.true_and]
  by_cases h : l.length ≤ 65536
  · rw [decide_eq_true h, decide_eq_true (by omega)]
  · rw [decide_eq_false h, decide_eq_false (by omega)]
theorem readable_len {l : List UInt8} (h : readableB l = true) : l.length ≤ 65536 := by
  simp [readableB] at h; exact h.2

def encF (f : Field) : AV := .agg [.str f.text, .lit (.int .i64 f.line), .lit (.int .i64 f.col)]
def encL (l : List Field) : AV := .list false 33 (l.map encF)
end Go.Proofs.YtkdpehhdbjkljaaDoor
