/- Thresholds, plainly: no program in sight. -/
import Derived.Test.YtlpihekflkjkfaaDoorNumP
namespace Go.Proofs.YtlpihekflkjkfaaDoor
open Go.RowKit

structure Thr where
  sig : Int
  pct : Int
  amt : Int
  soft : Bool
  gr : Int
  deriving DecidableEq
def encT (t : Thr) : AV := .agg [.lit (.int .i64 t.sig), .lit (.int .i64 t.pct), .lit (.int .i64 t.amt), .lit (.bool t.soft), .lit (.int .i64 t.gr)]
def t0 : Thr := ⟨0, 0, 0, false, 0⟩
/-- What a right threshold is. -/
def RightT (t : Thr) : Prop := 0 ≤ t.sig ∧ t.sig ≤ 2 ∧ ((1 ≤ t.pct ∧ t.pct ≤ 100 ∧ t.amt = 0) ∨ (t.pct = 0 ∧ 0 < t.amt)) ∧ ((t.soft = true ∧ 1 ≤ t.gr ∧ t.gr ≤ 1000) ∨ (t.soft = false ∧ t.gr = 0))
instance (t : Thr) : Decidable (RightT t) := by unfold RightT; infer_instance
/-- The signals' words. -/
def w0L : List UInt8 := [109, 101, 109, 111, 114, 121]
def w1L : List UInt8 := [100, 105, 115, 107]
def w2L : List UInt8 := [112, 105, 100]
def wordOf (i : Int) : List UInt8 := if i = 0 then w0L else if i = 1 then w1L else w2L
def sigOf (s : List UInt8) : Int := if s = w0L then 0 else if s = w1L then 1 else if s = w2L then 2 else -1
theorem sig_word {i : Int} (h0 : 0 ≤ i) (h2 : i ≤ 2) : sigOf (wordOf i) = i := by
  have : i = 0 ∨ i = 1 ∨ i = 2 := by omega
  rcases this with rfl | rfl | rfl <;> rfl
theorem sig_cases (s : List UInt8) : (sigOf s = -1 ∧ s ≠ w0L ∧ s ≠ w1L ∧ s ≠ w2L) ∨ (sigOf s = 0 ∧ s = w0L) ∨ (sigOf s = 1 ∧ s = w1L) ∨ (sigOf s = 2 ∧ s = w2L) := by
  unfold sigOf
  by_cases h0 : s = w0L
  · exact .inr (.inl ⟨if_pos h0, h0⟩)
  · by_cases h1 : s = w1L
    · exact .inr (.inr (.inl ⟨by rw [if_neg h0, if_pos h1], h1⟩))
    · by_cases h2 : s = w2L
      · exact .inr (.inr (.inr ⟨by rw [if_neg h0, if_neg h1, if_pos h2], h2⟩))
      · exact .inl ⟨by rw [if_neg h0, if_neg h1, if_neg h2], h0, h1, h2⟩
theorem sig_range (s : List UInt8) : -1 ≤ sigOf s ∧ sigOf s ≤ 2 := by
  rcases sig_cases s with h | h | h | h <;> omega
theorem word_len (i : Int) : (wordOf i).length ≤ 6 := by unfold wordOf; split; decide; split <;> decide
theorem word_no (i : Int) : ∀ c ∈ wordOf i, c ≠ 60 := by unfold wordOf; split; decide; split <;> decide

def pctOf (num : List UInt8 → Int) (v : List UInt8) : Int := if Lib.hasSuffix v [37] then num (v.take (v.length - 1)) else 0
def amtOf (v : List UInt8) : Int := if Lib.hasSuffix v [37] then 0 else (qv v : Int)
def wdOf (s : List UInt8) : List UInt8 := (cutA 60 s).1
def vlOf (s : List UInt8) : List UInt8 := (cutA 58 (cutA 60 s).2.1).1
def grOf (s : List UInt8) : List UInt8 := (cutA 58 (cutA 60 s).2.1).2.1
def sfOf (s : List UInt8) : Bool := (cutA 58 (cutA 60 s).2.1).2.2
/-- What a text tells of a threshold. -/
def thrOf (num : List UInt8 → Int) (s : List UInt8) : Thr := ⟨sigOf (wdOf s), pctOf num (vlOf s), amtOf (vlOf s), sfOf s, if sfOf s then num (grOf s) else 0⟩
/-- Whether a text is a threshold's; and which one's. -/
def OkT (s : List UInt8) : Prop := s.contains 60 = true ∧ RightT (thrOf numT s)
instance (s : List UInt8) : Decidable (OkT s) := by unfold OkT; infer_instance
def readT (s : List UInt8) : Thr := if OkT s then thrOf numT s else t0
def errT (s : List UInt8) : Int := if OkT s then 0 else 2
theorem err_ok {s : List UInt8} : (errT s == 0) = decide (OkT s) := by unfold errT; split <;> rename_i h <;> simp [h]
theorem err_no {s : List UInt8} : (errT s == 2) = !decide (OkT s) := by unfold errT; split <;> rename_i h <;> simp [h]

/-- With the document's numbers it is the same. -/
theorem right_same {sg am : Int} {so : Bool} {p g p' g' : Int} (hp : p' = p ∨ ((p' < 1 ∨ 1000 < p') ∧ (p < 1 ∨ 1000 < p))) (hg : g' = g ∨ ((g' < 1 ∨ 1000 < g') ∧ (g < 1 ∨ 1000 < g))) (ham : am = 0 ∨ p' = p) (hgs : so = true ∨ g' = g) :
    RightT ⟨sg, p', am, so, g'⟩ ↔ RightT ⟨sg, p, am, so, g⟩ ∧ p' = p ∧ g' = g := by
  unfold RightT
  cases so <;> simp only [Bool.false_eq_true, false_and, or_false, false_or, true_and, reduceCtorEq] at hgs ⊢ <;> constructor <;> intro h <;> omega
theorem ref_same (s : List UInt8) : RightT (thrOf numR s) ↔ RightT (thrOf numT s) ∧ thrOf numR s = thrOf numT s := by
  have h := right_same (sg := sigOf (wdOf s)) (am := amtOf (vlOf s)) (so := sfOf s) (p := pctOf numT (vlOf s)) (g := if sfOf s then numT (grOf s) else 0) (p' := pctOf numR (vlOf s)) (g' := if sfOf s then numR (grOf s) else 0)
    (by unfold pctOf; split
        · exact num_same _
        · exact .inl rfl)
    (by split
        · exact num_same _
        · exact .inl rfl)
    (by unfold pctOf amtOf; split
        · exact .inl rfl
        · exact .inr rfl)
    (by cases sfOf s
        · exact .inr rfl
        · exact .inl rfl)
  constructor
  · intro hr
    obtain ⟨h1, h2, h3⟩ := h.1 hr
    refine ⟨h1, ?_⟩
    unfold thrOf
    rw [h2, h3]
  · rintro ⟨h1, h2⟩
    rw [h2]; exact h1
/-- What the document answers. -/
theorem ref_ok {s : List UInt8} (hc : s.contains 60 = true) (hr : RightT (thrOf numR s)) : OkT s ∧ thrOf numR s = readT s := by
  obtain ⟨h1, h2⟩ := (ref_same s).1 hr
  have : OkT s := ⟨hc, h1⟩
  exact ⟨this, by unfold readT; rw [if_pos this, h2]⟩
theorem ref_no {s : List UInt8} (h : s.contains 60 = false ∨ ¬ RightT (thrOf numR s)) : ¬ OkT s ∧ readT s = t0 := by
  have : ¬ OkT s := by
    rintro ⟨h1, h2⟩
    rcases h with h | h
    · rw [h] at h1; cases h1
    · have hr := (ref_same s)
      have hp := right_same (sg := sigOf (wdOf s)) (am := amtOf (vlOf s)) (so := sfOf s) (p := pctOf numR (vlOf s)) (g := if sfOf s then numR (grOf s) else 0) (p' := pctOf numT (vlOf s)) (g' := if sfOf s then numT (grOf s) else 0)
        (by unfold pctOf; split
            · rcases num_same (List.take ((vlOf s).length - 1) (vlOf s)) with e | e
              · exact .inl e.symm
              · exact .inr e.symm
            · exact .inl rfl)
        (by split
            · rcases num_same (grOf s) with e | e
              · exact .inl e.symm
              · exact .inr e.symm
            · exact .inl rfl)
        (by unfold pctOf amtOf; split
            · exact .inl rfl
            · exact .inr rfl)
        (by cases sfOf s
            · exact .inr rfl
            · exact .inl rfl)
      exact h (hp.1 h2).1
  exact ⟨this, by unfold readT; rw [if_neg this]⟩
theorem no_amt {s : List UInt8} (h1 : Lib.hasSuffix (vlOf s) [37] = false) (h2 : quantV (vlOf s) = none) : ¬ RightT (thrOf numR s) := by
  rintro ⟨_, _, h, _⟩
  have e1 : (thrOf numR s).pct = 0 := by show pctOf numR (vlOf s) = 0; unfold pctOf; rw [h1]; rfl
  have e2 : (thrOf numR s).amt = 0 := by show amtOf (vlOf s) = 0; unfold amtOf; rw [h1, (q_none h2).1]; rfl
  omega

/-- A threshold's text. -/
def valT (t : Thr) : List UInt8 := if 0 < t.pct then digs t.pct.toNat ++ [37] else printV t.amt.toNat
def printT (t : Thr) : List UInt8 := (wordOf t.sig ++ [60]) ++ valT t ++ (if t.soft then [58] ++ digs t.gr.toNat else [])
theorem suf_snoc (l : List UInt8) (c : UInt8) : Lib.hasSuffix (l ++ [c]) [37] = (c == 37) := by
  unfold Lib.hasSuffix List.isSuffixOf
  simp [List.isPrefixOf, Bool.beq_comm]
theorem suf_no {l : List UInt8} (h : ∀ c ∈ l, c ≠ 37) : Lib.hasSuffix l [37] = false := by
  rcases List.eq_nil_or_concat l with rfl | ⟨t, c, rfl⟩
  · rfl
  · rw [List.concat_eq_append, suf_snoc]
    exact beq_eq_false_iff_ne.2 (h c (by simp))
theorem dig_no (n : Nat) : ∀ c ∈ digs n, c ≠ 37 ∧ c ≠ 58 ∧ c ≠ 60 := by
  intro c hc
  have := digs_isD n c hc
  refine ⟨?_, ?_, ?_⟩ <;> rintro rfl <;> revert this <;> decide
theorem print_no (n : Nat) : ∀ c ∈ printV n, c ≠ 37 ∧ c ≠ 58 ∧ c ≠ 60 := by
  intro c hc
  unfold printV at hc
  split at hc
  · simp only [List.mem_cons, List.mem_nil_iff, or_false] at hc
    subst hc; decide
  · split at hc
    · rename_i u hu
      have hm := List.mem_of_find?_eq_some hu
      rcases List.mem_append.1 hc with h | h
      · exact dig_no _ c h
      · have hall : ∀ u ∈ unitL, ∀ c ∈ u.1, c ≠ 37 ∧ c ≠ 58 ∧ c ≠ 60 := by decide
        exact hall u hm c h
    · exact dig_no _ c hc
theorem val_no {v : List UInt8} {p : Nat} (h : v = digs p ++ [37] ∨ v = printV p) : ∀ c ∈ v, c ≠ 58 ∧ c ≠ 60 := by
  intro c hc
  rcases h with rfl | rfl
  · rcases List.mem_append.1 hc with h | h
    · exact (dig_no _ c h).2
    · simp only [List.mem_cons, List.mem_nil_iff, or_false] at h
      subst h; decide
  · exact (print_no _ c hc).2
/-- What a text of these parts tells. -/
theorem parts {w v g : List UInt8} {so : Bool} (hw : ∀ c ∈ w, c ≠ 60) (hv : ∀ c ∈ v, c ≠ 58) : let s := (w ++ [60]) ++ v ++ (if so then [58] ++ g else [])
    s.contains 60 = true ∧ wdOf s = w ∧ vlOf s = v ∧ sfOf s = so ∧ (so = true → grOf s = g) := by
  intro s
  have hs : s = w ++ 60 :: (v ++ (if so then [58] ++ g else [])) := by simp [s]
  have hc := cutA_app (v ++ (if so then [58] ++ g else [])) hw
  have h2 : cutA 58 (v ++ (if so then [58] ++ g else [])) = (v, if so then g else [], so) := by
    cases so
    · simp only [Bool.false_eq_true, if_false, List.append_nil]; exact cutA_none hv
    · simp only [if_true]; exact cutA_app g hv
  have e : cutA 60 s = (w, v ++ (if so then [58] ++ g else []), true) := by rw [hs]; exact hc
  refine ⟨by rw [hs]; simp, by unfold wdOf; rw [e], by unfold vlOf; rw [e, h2], by unfold sfOf; rw [e, h2], fun h => by unfold grOf; rw [e, h2, h]; rfl⟩
theorem pct_share (num : List UInt8 → Int) (l : List UInt8) : pctOf num (l ++ [37]) = num l ∧ amtOf (l ++ [37]) = 0 := by
  unfold pctOf amtOf
  rw [suf_snoc]
  simp
theorem pct_amount (num : List UInt8 → Int) (n : Nat) (hn : n ≤ 9223372036854775807) : pctOf num (printV n) = 0 ∧ amtOf (printV n) = (n : Int) := by
  unfold pctOf amtOf
  rw [suf_no fun c hc => (print_no n c hc).1]
  have := printV_read n 0 hn
  rw [List.replicate_zero, List.nil_append] at this
  exact ⟨rfl, by simp [(q_some this).1]⟩
/-- A right threshold's text is read as it was. -/
theorem back_T {t : Thr} (h : RightT t) (ha : t.amt ≤ 9223372036854775807) : OkT (printT t) ∧ readT (printT t) = t := by
  obtain ⟨h0, h2, hpa, hg⟩ := h
  have hvn : ∀ c ∈ valT t, c ≠ 58 := by
    unfold valT; split
    · exact fun c hc => (val_no (.inl rfl) c hc).1
    · exact fun c hc => (val_no (.inr rfl) c hc).1
  have hp := parts (g := digs t.gr.toNat) (so := t.soft) (word_no t.sig) hvn
  change (printT t).contains 60 = true ∧ wdOf (printT t) = wordOf t.sig ∧ vlOf (printT t) = valT t ∧ sfOf (printT t) = t.soft ∧ (t.soft = true → grOf (printT t) = digs t.gr.toNat) at hp
  obtain ⟨p1, p2, p3, p4, p5⟩ := hp
  have e : thrOf numT (printT t) = t := by
    unfold thrOf
    rw [p2, p3, p4, sig_word h0 h2]
    have e1 : pctOf numT (valT t) = t.pct ∧ amtOf (valT t) = t.amt := by
      unfold valT
      rcases hpa with ⟨a, b, c⟩ | ⟨a, b⟩
      · rw [if_pos (by omega), (pct_share _ _).1, (pct_share numT _).2, numT_digs _ (by omega)]
        exact ⟨by omega, c.symm⟩
      · rw [if_neg (by omega)]
        have := pct_amount numT t.amt.toNat (by omega)
        exact ⟨by rw [this.1, a], by rw [this.2]; omega⟩
    rw [e1.1, e1.2]
    have e2 : (if t.soft then numT (grOf (printT t)) else 0) = t.gr := by
      rcases hg with ⟨a, b, c⟩ | ⟨a, b⟩
      · rw [a, if_pos rfl, p5 a, numT_digs _ (by omega)]; omega
      · rw [a, b]; rfl
    rw [e2]
  have hok : OkT (printT t) := ⟨p1, by rw [e]; exact ⟨h0, h2, hpa, hg⟩⟩
  exact ⟨hok, by unfold readT; rw [if_pos hok, e]⟩
theorem read_right {s : List UInt8} (h : OkT s) : RightT (readT s) := by unfold readT; rw [if_pos h]; exact h.2
/-- The texts of shares. -/
theorem text_T {k : Int} (h0 : 0 ≤ k) (h2 : k ≤ 2) (p g : Nat) (z1 z2 so : Bool) (hp : p ≤ 1000000) (hg : g ≤ 1000000) :
    let s := (wordOf k ++ [60]) ++ ((if z1 then [48] else []) ++ digs p ++ [37]) ++ (if so then [58] ++ ((if z2 then [48] else []) ++ digs g) else [])
    (OkT s ↔ z1 = false ∧ 1 ≤ p ∧ p ≤ 100 ∧ (so = true → z2 = false ∧ 1 ≤ g ∧ g ≤ 1000)) ∧ (OkT s → readT s = ⟨k, p, 0, so, if so then (g : Int) else 0⟩) := by
  intro s
  have hvn : ∀ c ∈ (if z1 then [48] else []) ++ digs p ++ [37], c ≠ 58 := by
    intro c hc
    rcases List.mem_append.1 hc with hc | hc
    · rcases List.mem_append.1 hc with hc | hc
      · cases z1
        · cases hc
        · simp only [if_true, List.mem_cons, List.mem_nil_iff, or_false] at hc
          subst hc; decide
      · exact (dig_no _ c hc).2.1
    · simp only [List.mem_cons, List.mem_nil_iff, or_false] at hc
      subst hc; decide
  obtain ⟨p1, p2, p3, p4, p5⟩ := parts (g := (if z2 then [48] else []) ++ digs g) (so := so) (word_no k) hvn
  have hz : ∀ (z : Bool) (n : Nat), n ≤ 1000000 → numT ((if z then [48] else []) ++ digs n) = if z then 0 else (n : Int) := by
    intro z n hn
    cases z
    · exact numT_digs n (by omega)
    · exact numT_zero n
  have e : thrOf numT s = ⟨k, if z1 then 0 else (p : Int), 0, so, if so then (if z2 then 0 else (g : Int)) else 0⟩ := by
    unfold thrOf
    show (⟨sigOf (wdOf s), pctOf numT (vlOf s), amtOf (vlOf s), sfOf s, if sfOf s then numT (grOf s) else 0⟩ : Thr) = _
    have q2 : wdOf s = wordOf k := p2
    have q3 : vlOf s = (if z1 then [48] else []) ++ digs p ++ [37] := p3
    have q4 : sfOf s = so := p4
    rw [q2, q3, q4, sig_word h0 h2, (pct_share _ _).1, (pct_share numT _).2, hz z1 p hp]
    cases so
    · rfl
    · have q5 : grOf s = _ := p5 rfl
      simp only [if_true]
      rw [q5, hz z2 g hg]
  have hr : RightT (thrOf numT s) ↔ z1 = false ∧ 1 ≤ p ∧ p ≤ 100 ∧ (so = true → z2 = false ∧ 1 ≤ g ∧ g ≤ 1000) := by
    rw [e]
    unfold RightT
    cases z1 <;> cases z2 <;> cases so <;> simp <;> omega
  have p1' : s.contains 60 = true := p1
  have hok : OkT s ↔ z1 = false ∧ 1 ≤ p ∧ p ≤ 100 ∧ (so = true → z2 = false ∧ 1 ≤ g ∧ g ≤ 1000) := by
    unfold OkT
    rw [p1', hr]; simp
  refine ⟨hok, fun h => ?_⟩
  have h' := hok.1 h
  unfold readT
  rw [if_pos h, e, h'.1]
  cases so
  · rfl
  · rw [(h'.2.2.2 rfl).1]; rfl
end Go.Proofs.YtlpihekflkjkfaaDoor
