/- Events' lines, plainly: no program in sight. -/
import Derived.Test.YtlpihekflkjkfaaDoorThP
import Derived.Test.YtlpihekflkjkfaaDoorSplS
import Derived.Lib.Join
namespace Go.Proofs.YtlpihekflkjkfaaDoor
open Go.RowKit

structure Ev where
  kind : Int
  id : List UInt8
  sig : Int
  n : Int
  deriving DecidableEq
def encE (e : Ev) : AV := .agg [.lit (.int .i64 e.kind), .str e.id, .lit (.int .i64 e.sig), .lit (.int .i64 e.n)]
def e0 : Ev := ⟨0, [], 0, 0⟩
/-- The kinds' words. -/
def kwL : List (List UInt8) := [[], [97, 100, 109, 105, 116], [112, 114, 101, 101, 109, 112, 116], [114, 101, 106, 101, 99, 116], [100, 101, 108, 101, 116, 101], [101, 118, 105, 99, 116], [111, 110], [111, 102, 102], [98, 101, 103, 105, 110], [112, 117, 108, 108], [117, 112], [102, 97, 105, 108], [103, 111, 110, 101], [100, 101, 97, 100], [105, 109, 97, 103, 101], [115, 116, 111, 112], [114, 101, 99, 111, 118, 101, 114]]
def kwOf (k : Int) : List UInt8 := kwL.getD k.toNat []
def roomL : List UInt8 := [114, 111, 111, 109]
def presL : List UInt8 := [112, 114, 101, 115, 115, 117, 114, 101]
def visB (c : UInt8) : Bool := decide (33 ≤ c.toNat) && decide (c.toNat ≤ 126)
def wordB (s : List UInt8) : Bool := s.all visB && (decide (1 ≤ s.length) && (decide (s.length ≤ 60) && decide ((s.getD 0 0).toNat ≠ 35)))
def inS (n : Int) : Bool := decide (0 ≤ n) && decide (n ≤ 2)
def sgw (n : Int) : List UInt8 := if inS n then wordOf n else []
def Named (k : Int) : Prop := k ≠ 6 ∧ k ≠ 7 ∧ k ≠ 16
instance (k : Int) : Decidable (Named k) := by unfold Named; infer_instance
/-- The fields behind the kind's word. -/
def flE (e : Ev) : List (List UInt8) :=
  if e.kind = 3 then (if e.n = 3 then [e.id, presL, sgw e.sig] else [e.id, roomL])
  else if e.kind = 5 then [e.id, sgw e.sig]
  else if e.kind = 6 ∨ e.kind = 7 then [sgw e.sig]
  else if e.kind = 9 ∨ e.kind = 14 then [e.id, Lib.itoa e.n]
  else if e.kind = 16 then [Lib.itoa e.n]
  else [e.id]
/-- What is left of the event then. -/
def restE (e : Ev) : Ev := ⟨e.kind, if Named e.kind then [] else e.id, if (e.kind = 3 ∧ e.n = 3) ∨ e.kind = 5 ∨ e.kind = 6 ∨ e.kind = 7 then 0 else e.sig, if e.kind = 3 ∨ e.kind = 9 ∨ e.kind = 14 ∨ e.kind = 16 then 0 else e.n⟩
def ok1E (e : Ev) : Bool := if e.kind = 3 then (if e.n = 3 then inS e.sig else decide (e.n = 4)) else if e.kind = 5 ∨ e.kind = 6 ∨ e.kind = 7 then inS e.sig else if e.kind = 9 ∨ e.kind = 14 ∨ e.kind = 16 then decide (0 ≤ e.n) else true
def okE (e : Ev) : Bool := if Named e.kind then ok1E e && wordB e.id else ok1E e
def RightE (e : Ev) : Prop := 1 ≤ e.kind ∧ e.kind ≤ 16 ∧ okE e = true ∧ restE e = ⟨e.kind, [], 0, 0⟩
instance (e : Ev) : Decidable (RightE e) := by unfold RightE; infer_instance
/-- A right event, of one of seven shapes. -/
theorem right_shapes {e : Ev} : RightE e ↔
    (e.kind = 3 ∧ e.n = 3 ∧ inS e.sig = true ∧ wordB e.id = true) ∨ (e.kind = 3 ∧ e.n = 4 ∧ e.sig = 0 ∧ wordB e.id = true) ∨ (e.kind = 5 ∧ inS e.sig = true ∧ wordB e.id = true ∧ e.n = 0) ∨
    ((e.kind = 6 ∨ e.kind = 7) ∧ inS e.sig = true ∧ e.id = [] ∧ e.n = 0) ∨ ((e.kind = 9 ∨ e.kind = 14) ∧ 0 ≤ e.n ∧ wordB e.id = true ∧ e.sig = 0) ∨ (e.kind = 16 ∧ 0 ≤ e.n ∧ e.id = [] ∧ e.sig = 0) ∨
    ((e.kind = 1 ∨ e.kind = 2 ∨ e.kind = 4 ∨ e.kind = 8 ∨ e.kind = 10 ∨ e.kind = 11 ∨ e.kind = 12 ∨ e.kind = 13 ∨ e.kind = 15) ∧ wordB e.id = true ∧ e.sig = 0 ∧ e.n = 0) := by
  obtain ⟨k, id, sg, n⟩ := e
  unfold RightE
  constructor
  · rintro ⟨h1, h2, h3, h4⟩
    simp only at h1 h2 h3 h4 ⊢
    have hk : k = 1 ∨ k = 2 ∨ k = 3 ∨ k = 4 ∨ k = 5 ∨ k = 6 ∨ k = 7 ∨ k = 8 ∨ k = 9 ∨ k = 10 ∨ k = 11 ∨ k = 12 ∨ k = 13 ∨ k = 14 ∨ k = 15 ∨ k = 16 := by omega
    rcases hk with rfl | rfl | rfl | rfl | rfl | rfl | rfl | rfl | rfl | rfl | rfl | rfl | rfl | rfl | rfl | rfl <;> simp [okE, ok1E, restE, Named] at h3 h4 ⊢ <;>
      first
      | (by_cases h : n = 3 <;> simp [h] at h3 h4 ⊢ <;> simp_all; done)
      | (simp_all; done)
  · intro h
    rcases h with ⟨a, b, c, d⟩ | ⟨a, b, c, d⟩ | ⟨a, b, c, d⟩ | ⟨a, b, c, d⟩ | ⟨a, b, c, d⟩ | ⟨a, b, c, d⟩ | ⟨a, b, c, d⟩
    all_goals simp only at a b c d
    · subst a; subst b; simp [okE, ok1E, restE, Named, c, d]
    · subst a; subst b; subst c; simp [okE, ok1E, restE, Named, d]
    · subst a; subst d; simp [okE, ok1E, restE, Named, b, c]
    · subst c; subst d; rcases a with rfl | rfl <;> simp [okE, ok1E, restE, Named, b]
    · subst d; rcases a with rfl | rfl <;> simp [okE, ok1E, restE, Named, b, c]
    · subst a; subst c; subst d; simp [okE, ok1E, restE, Named, b]
    · subst c; subst d; rcases a with rfl | rfl | rfl | rfl | rfl | rfl | rfl | rfl | rfl <;> simp [okE, ok1E, restE, Named, b]

/-- A line. -/
def lineE (r : Int) (e : Ev) : List UInt8 := (digs r.toNat ++ [32]) ++ Lib.join (kwOf e.kind :: flE e) [32]
def HasLine (r : Int) (e : Ev) : Prop := RightE e ∧ 0 ≤ r ∧ r ≤ 1099511627776
instance (r : Int) (e : Ev) : Decidable (HasLine r e) := by unfold HasLine; infer_instance
def textE (r : Int) (e : Ev) : List UInt8 := if HasLine r e then lineE r e else []
def errE (r : Int) (e : Ev) : Int := if HasLine r e then 0 else 1

/-- None of a line's fields has a blank. -/
theorem word_clean {s : List UInt8} (h : wordB s = true) : ∀ c ∈ s, c ≠ 32 := by
  intro c hc
  unfold wordB at h
  simp only [Bool.and_eq_true] at h
  have := List.all_eq_true.1 h.1 c hc
  rintro rfl
  revert this; decide
theorem digs_clean (n : Nat) : ∀ c ∈ digs n, c ≠ 32 := by
  intro c hc
  have := digs_isD n c hc
  rintro rfl
  revert this; decide
theorem itoa_pos {n : Int} (h : 0 ≤ n) : Lib.itoa n = digs n.toNat := by
  have := itoa_digs n.toNat
  rwa [show ((n.toNat : Nat) : Int) = n by omega] at this
theorem sgw_clean (n : Int) : ∀ c ∈ sgw n, c ≠ 32 := by
  unfold sgw wordOf
  split
  · split
    · decide
    · split <;> decide
  · intro c hc; cases hc
theorem kw_clean (k : Int) : ∀ c ∈ kwOf k, c ≠ 32 := by
  unfold kwOf
  have : ∀ j, ∀ c ∈ kwL.getD j [], c ≠ 32 := by
    intro j
    match j with
    | 0 | 1 | 2 | 3 | 4 | 5 | 6 | 7 | 8 | 9 | 10 | 11 | 12 | 13 | 14 | 15 | 16 => decide
    | j + 17 => intro c hc; cases hc
  exact this _
theorem fl_clean {e : Ev} (h : RightE e) : ∀ x ∈ flE e, ∀ c ∈ x, c ≠ 32 := by
  obtain ⟨k, id, sg, n⟩ := e
  rcases right_shapes.1 h with ⟨a, b, c, d⟩ | ⟨a, b, c, d⟩ | ⟨a, b, c, d⟩ | ⟨a, b, c, d⟩ | ⟨a, b, c, d⟩ | ⟨a, b, c, d⟩ | ⟨a, b, c, d⟩
  all_goals simp only at a b c d
  · subst a; subst b
    intro x hx
    simp [flE] at hx
    rcases hx with rfl | rfl | rfl
    · exact word_clean d
    · decide
    · exact sgw_clean sg
  · subst a; subst b
    intro x hx
    simp [flE] at hx
    rcases hx with rfl | rfl
    · exact word_clean d
    · decide
  · subst a
    intro x hx
    simp [flE] at hx
    rcases hx with rfl | rfl
    · exact word_clean c
    · exact sgw_clean sg
  · intro x hx
    rcases a with rfl | rfl <;> simp [flE] at hx <;> subst hx <;> exact sgw_clean sg
  · intro x hx
    rcases a with rfl | rfl <;> simp [flE] at hx <;> rcases hx with rfl | rfl <;> first | exact word_clean c | (rw [itoa_pos b]; exact digs_clean _)
  · subst a
    intro x hx
    simp [flE] at hx
    subst hx
    rw [itoa_pos b]; exact digs_clean _
  · intro x hx
    rcases a with rfl | rfl | rfl | rfl | rfl | rfl | rfl | rfl | rfl <;> simp [flE] at hx <;> subst hx <;> exact word_clean b

theorem split_field {x : List UInt8} (h : ∀ c ∈ x, c ≠ 32) : splitC 32 x = [x] := by
  induction x with
  | nil => rfl
  | cons c r ih =>
    obtain ⟨hd, tl, e1, e2⟩ := splitC_ne (h c (List.mem_cons_self ..)) r
    rw [ih (fun c hc => h c (List.mem_cons_of_mem _ hc))] at e1
    injection e1 with e3 e4
    rw [e2, ← e3, ← e4]
theorem split_more {x : List UInt8} (h : ∀ c ∈ x, c ≠ 32) (r : List UInt8) : splitC 32 (x ++ 32 :: r) = x :: splitC 32 r := by
  induction x with
  | nil => exact splitC_hit 32 r
  | cons c t ih =>
    obtain ⟨hd, tl, e1, e2⟩ := splitC_ne (h c (List.mem_cons_self ..)) (t ++ 32 :: r)
    rw [ih (fun c hc => h c (List.mem_cons_of_mem _ hc))] at e1
    injection e1 with e3 e4
    rw [List.cons_append, e2, ← e3, ← e4]
theorem join_two (x y : List UInt8) (r : List (List UInt8)) : Lib.join (x :: y :: r) [32] = x ++ 32 :: Lib.join (y :: r) [32] := by
  rw [Lib.join_cons, Lib.join_cons]; simp [Lib.joinTail]
theorem split_join : ∀ (l : List (List UInt8)), l ≠ [] → (∀ x ∈ l, ∀ c ∈ x, c ≠ 32) → splitC 32 (Lib.join l [32]) = l
  | [], h, _ => absurd rfl h
  | [x], _, h => by rw [Lib.join_one]; exact split_field (h x (List.mem_cons_self ..))
  | x :: y :: r, _, h => by
    rw [join_two, split_more (h x (List.mem_cons_self ..)), split_join (y :: r) (by simp) (fun z hz => h z (List.mem_cons_of_mem _ hz))]
theorem split_line {r : Int} {e : Ev} (h : HasLine r e) : splitC 32 (lineE r e) = digs r.toNat :: kwOf e.kind :: flE e := by
  unfold lineE
  rw [List.append_assoc, List.singleton_append, split_more (digs_clean _), split_join _ (by simp)]
  intro x hx
  rcases List.mem_cons.1 hx with rfl | hx
  · exact kw_clean _
  · exact fl_clean h.1 x hx

/-- What a line tells: a guess. -/
def numL (s : List UInt8) : Int := match Lib.atoiAll s with | .ok n => n | _ => -1
theorem numL_digs (n : Nat) (hn : n ≤ 9223372036854775807) : numL (digs n) = n := by unfold numL; rw [atoi_digs n hn]
/-- A word's place; below 0: it is none. -/
def idxL (l : List (List UInt8)) (s : List UInt8) : Int := match l.findIdx? (· == s) with | some i => (i : Int) | none => -1
def kwIdx (s : List UInt8) : Int := idxL kwL s
theorem kwIdx_kw {k : Int} (h0 : 0 ≤ k) (h : k ≤ 16) : kwIdx (kwOf k) = k := by
  have hk : k = 0 ∨ k = 1 ∨ k = 2 ∨ k = 3 ∨ k = 4 ∨ k = 5 ∨ k = 6 ∨ k = 7 ∨ k = 8 ∨ k = 9 ∨ k = 10 ∨ k = 11 ∨ k = 12 ∨ k = 13 ∨ k = 14 ∨ k = 15 ∨ k = 16 := by omega
  rcases hk with rfl | rfl | rfl | rfl | rfl | rfl | rfl | rfl | rfl | rfl | rfl | rfl | rfl | rfl | rfl | rfl | rfl <;> decide
def lastL (l : List (List UInt8)) : List UInt8 := if 0 < l.length then l.getD (l.length - 1) [] else []
def mx0 (x : Int) : Int := if 0 ≤ x then x else 0
def guessE (k : Int) (l : List (List UInt8)) : Ev :=
  ⟨k, if Named k ∧ 0 < l.length then l.getD 0 [] else [],
   if k = 3 then (if 1 < l.length ∧ l.getD 1 [] = presL then mx0 (sigOf (lastL l)) else 0) else if k = 5 ∨ k = 6 ∨ k = 7 then mx0 (sigOf (lastL l)) else 0,
   if k = 3 then (if 1 < l.length ∧ l.getD 1 [] = presL then 3 else 4) else if k = 9 ∨ k = 14 ∨ k = 16 then numL (lastL l) else 0⟩
theorem sig_sgw {n : Int} (h : inS n = true) : sigOf (sgw n) = n ∧ mx0 (sigOf (sgw n)) = n := by
  have e : sigOf (sgw n) = n := by
    unfold sgw; rw [if_pos h]
    unfold inS at h
    simp only [Bool.and_eq_true, decide_eq_true_eq] at h
    exact sig_word h.1 h.2
  rw [e]
  unfold inS at h
  simp only [Bool.and_eq_true, decide_eq_true_eq] at h
  exact ⟨rfl, by unfold mx0; rw [if_pos h.1]⟩
theorem guess_fl {e : Ev} (h : RightE e) (hn : e.n ≤ 9223372036854775807) : guessE e.kind (flE e) = e := by
  obtain ⟨k, id, sg, n⟩ := e
  have hroom : ¬ roomL = presL := by decide
  rcases right_shapes.1 h with ⟨a, b, c, d⟩ | ⟨a, b, c, d⟩ | ⟨a, b, c, d⟩ | ⟨a, b, c, d⟩ | ⟨a, b, c, d⟩ | ⟨a, b, c, d⟩ | ⟨a, b, c, d⟩
  all_goals simp only at a b c d hn
  · subst a; subst b; simp [guessE, flE, Named, lastL, (sig_sgw c).2]
  · subst a; subst b; subst c; simp [guessE, flE, Named, lastL, hroom]
  · subst a; subst d; simp [guessE, flE, Named, lastL, (sig_sgw b).2]
  · subst c; subst d; rcases a with rfl | rfl <;> simp [guessE, flE, Named, lastL, (sig_sgw b).2]
  · have := numL_digs n.toNat (by omega)
    subst d; rcases a with rfl | rfl <;> simp [guessE, flE, Named, lastL, itoa_pos b, this] <;> omega
  · have := numL_digs n.toNat (by omega)
    subst a; subst c; subst d; simp [guessE, flE, Named, lastL, itoa_pos b, this]; omega
  · subst c; subst d; rcases a with rfl | rfl | rfl | rfl | rfl | rfl | rfl | rfl | rfl <;> simp [guessE, flE, Named, lastL]

def spL (s : List UInt8) : List (List UInt8) := splitC 32 s
def gN (s : List UInt8) : Int := numL ((spL s).getD 0 [])
def gE (s : List UInt8) : Ev := guessE (kwIdx ((spL s).getD 1 [])) ((spL s).drop 2)
/-- A text is a line's: then the guess's own. -/
def OkL (s : List UInt8) : Prop := 2 ≤ (spL s).length ∧ HasLine (gN s) (gE s) ∧ lineE (gN s) (gE s) = s
instance (s : List UInt8) : Decidable (OkL s) := by unfold OkL; infer_instance
def rdN (s : List UInt8) : Int := if OkL s then gN s else 0
def rdE (s : List UInt8) : Ev := if OkL s then gE s else e0
def rdX (s : List UInt8) : Int := if OkL s then 0 else 2
/-- Whatever has the line is what is guessed. -/
theorem line_read {r : Int} {e : Ev} {s : List UInt8} (h : HasLine r e) (hn : e.n ≤ 9223372036854775807) (hs : lineE r e = s) : OkL s ∧ rdN s = r ∧ rdE s = e ∧ spL s = digs r.toNat :: kwOf e.kind :: flE e := by
  subst hs
  have hsp : spL (lineE r e) = _ := split_line h
  obtain ⟨h1, h2, h3⟩ := h
  have e1 : gN (lineE r e) = r := by
    unfold gN; rw [hsp]
    show numL (digs r.toNat) = r
    rw [numL_digs _ (by omega)]; omega
  have e2 : gE (lineE r e) = e := by
    unfold gE; rw [hsp]
    show guessE (kwIdx (kwOf e.kind)) (flE e) = e
    rw [kwIdx_kw (by have := h1.1; omega) h1.2.1]
    exact guess_fl h1 hn
  have hok : OkL (lineE r e) := ⟨by rw [hsp]; simp, by rw [e1, e2]; exact ⟨h1, h2, h3⟩, by rw [e1, e2]⟩
  exact ⟨hok, by unfold rdN; rw [if_pos hok, e1], by unfold rdE; rw [if_pos hok, e2], hsp⟩
theorem ok_line {s : List UInt8} (h : OkL s) : HasLine (rdN s) (rdE s) ∧ lineE (rdN s) (rdE s) = s := by
  unfold rdN rdE; rw [if_pos h, if_pos h]; exact h.2
theorem atoi_le {s : List UInt8} {n : Int} (h : Lib.atoiAll s = .ok n) : n ≤ 9223372036854775807 := (Lib.atoiAll_bounds h).2
theorem gE_n (s : List UInt8) : (gE s).n ≤ 9223372036854775807 := by
  unfold gE guessE
  simp only
  split
  · split <;> omega
  · split
    · unfold numL; split
      · rename_i h; exact atoi_le h
      · omega
    · omega
theorem rdE_n (s : List UInt8) : (rdE s).n ≤ 9223372036854775807 := by
  unfold rdE; split
  · exact gE_n s
  · show (0 : Int) ≤ _; omega
end Go.Proofs.YtlpihekflkjkfaaDoor
