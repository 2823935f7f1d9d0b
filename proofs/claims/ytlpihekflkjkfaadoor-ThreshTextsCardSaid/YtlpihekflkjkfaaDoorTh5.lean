/- Walks over abstract values, printed by my program av.py. -/
import Derived.Test.YtlpihekflkjkfaaDoorTh4
import Derived.Test.YtlpihekflkjkfaaDoorAvAny
namespace Go.Proofs.YtlpihekflkjkfaaDoor
open Go.RowKit

theorem sigw_len (k : Nat) : (sigL.getD k []).length ≤ 6 := by
  match k with
  | 0 | 1 | 2 => decide
  | k + 3 => exact Nat.zero_le _
theorem sigw_word {i : Int} (h0 : 0 ≤ i) (h2 : i ≤ 2) : sigL.getD i.toNat [] = wordOf i := by
  have : i = 0 ∨ i = 1 ∨ i = 2 := by omega
  rcases this with rfl | rfl | rfl <;> rfl
theorem itoa_len (n : Int) (h0 : 0 ≤ n) (h1 : n ≤ 9223372036854775807) : (Lib.itoa n).length ≤ 19 := by
  rw [itoa_pos h0]; exact digs_len20 n.toNat (by omega)
theorem Digits_int (n : Int) (h0 : 0 ≤ n) (hn : n ≤ 9223372036854775807) (M : Nat → Option (List AV)) : ACall Tryd.prog 19 [.lit (.int .i64 n)] M (fun r M' => r = .str (digs n.toNat) ∧ M = M') := by
  obtain ⟨m, rfl⟩ := Int.eq_ofNat_of_zero_le h0
  exact Digits_any m (by omega) M
theorem rPrint_int (n : Int) (h0 : 0 ≤ n) (hn : n ≤ 9223372036854775807) (M : Nat → Option (List AV)) : ACall Tryd.prog 69 [.lit (.int .i64 n)] M (fun r M' => r = .str (printV n.toNat) ∧ M = M') := by
  obtain ⟨m, rfl⟩ := Int.eq_ofNat_of_zero_le h0
  exact rPrint_any m (by omega) M
section
variable {u : Thr}
theorem pr_tt (h0 : 0 ≤ u.sig) (h2 : u.sig ≤ 2) (hp : 0 ≤ u.pct ∧ u.pct ≤ 100 ∧ 0 ≤ u.amt ∧ 0 ≤ u.gr ∧ u.gr ≤ 1000) (h1 : u.pct > 0) (hs : u.soft = true) : ((sigL.getD u.sig.toNat [] ++ [60]) ++ (Lib.itoa u.pct ++ [37])) ++ ([58] ++ Lib.itoa u.gr) = printT u := by
  unfold printT valT; rw [sigw_word h0 h2, itoa_pos (by omega), itoa_pos (by omega), if_pos h1, hs, if_pos rfl]
theorem pr_tf (h0 : 0 ≤ u.sig) (h2 : u.sig ≤ 2) (hp : 0 ≤ u.pct ∧ u.pct ≤ 100 ∧ 0 ≤ u.amt ∧ 0 ≤ u.gr ∧ u.gr ≤ 1000) (h1 : u.pct > 0) (hs : u.soft = false) : (sigL.getD u.sig.toNat [] ++ [60]) ++ (Lib.itoa u.pct ++ [37]) = printT u := by
  unfold printT valT; rw [sigw_word h0 h2, itoa_pos (by omega), if_pos h1, hs, if_neg (by decide), List.append_nil]
theorem pr_ft (h0 : 0 ≤ u.sig) (h2 : u.sig ≤ 2) (hp : 0 ≤ u.pct ∧ u.pct ≤ 100 ∧ 0 ≤ u.amt ∧ 0 ≤ u.gr ∧ u.gr ≤ 1000) (h1 : ¬ u.pct > 0) (hs : u.soft = true) : ((sigL.getD u.sig.toNat [] ++ [60]) ++ printV u.amt.toNat) ++ ([58] ++ Lib.itoa u.gr) = printT u := by
  unfold printT valT; rw [sigw_word h0 h2, itoa_pos (by omega), if_neg h1, hs, if_pos rfl]
theorem pr_ff (h0 : 0 ≤ u.sig) (h2 : u.sig ≤ 2) (_ : 0 ≤ u.pct ∧ u.pct ≤ 100 ∧ 0 ≤ u.amt ∧ 0 ≤ u.gr ∧ u.gr ≤ 1000) (h1 : ¬ u.pct > 0) (hs : u.soft = false) : (sigL.getD u.sig.toNat [] ++ [60]) ++ printV u.amt.toNat = printT u := by
  unfold printT valT; rw [sigw_word h0 h2, if_neg h1, hs, if_neg (by decide), List.append_nil]
theorem rpr_tt (_ : 0 ≤ u.sig) (_ : u.sig ≤ 2) (_ : 0 ≤ u.pct ∧ u.pct ≤ 100 ∧ 0 ≤ u.amt ∧ 0 ≤ u.gr ∧ u.gr ≤ 1000) (h1 : u.pct > 0) (hs : u.soft = true) : ((((wordOf u.sig ++ [60]) ++ digs u.pct.toNat) ++ [37]) ++ [58]) ++ digs u.gr.toNat = printT u := by
  unfold printT valT; rw [if_pos h1, hs, if_pos rfl]; simp only [List.append_assoc]
theorem rpr_tf (_ : 0 ≤ u.sig) (_ : u.sig ≤ 2) (_ : 0 ≤ u.pct ∧ u.pct ≤ 100 ∧ 0 ≤ u.amt ∧ 0 ≤ u.gr ∧ u.gr ≤ 1000) (h1 : u.pct > 0) (hs : u.soft = false) : ((wordOf u.sig ++ [60]) ++ digs u.pct.toNat) ++ [37] = printT u := by
  unfold printT valT; rw [if_pos h1, hs, if_neg (by decide), List.append_nil]; simp only [List.append_assoc]
theorem rpr_ft (_ : 0 ≤ u.sig) (_ : u.sig ≤ 2) (_ : 0 ≤ u.pct ∧ u.pct ≤ 100 ∧ 0 ≤ u.amt ∧ 0 ≤ u.gr ∧ u.gr ≤ 1000) (h1 : ¬ u.pct > 0) (hs : u.soft = true) : (((wordOf u.sig ++ [60]) ++ printV u.amt.toNat) ++ [58]) ++ digs u.gr.toNat = printT u := by
  unfold printT valT; rw [if_neg h1, hs, if_pos rfl]; simp only [List.append_assoc]
theorem rpr_ff (_ : 0 ≤ u.sig) (_ : u.sig ≤ 2) (_ : 0 ≤ u.pct ∧ u.pct ≤ 100 ∧ 0 ≤ u.amt ∧ 0 ≤ u.gr ∧ u.gr ≤ 1000) (h1 : ¬ u.pct > 0) (hs : u.soft = false) : (wordOf u.sig ++ [60]) ++ printV u.amt.toNat = printT u := by
  unfold printT valT; rw [if_neg h1, hs, if_neg (by decide), List.append_nil]
end
/-- How numbers stand to each other. -/
def ordU (x y : Nat) : Int := if x < y then -1 else if y < x then 1 else 0
def orL (zs : List Int) : Int := (zs.find? (· != 0)).getD 0
theorem ints_at {zs : List Int} {i : Nat} (h : i < zs.length) : (zs.map (fun x => AV.lit (.int .i64 x)))[i]? = some (.lit (.int .i64 (zs.getD i 0))) := by
  rw [List.getElem?_map, List.getD_eq_getElem?_getD, List.getElem?_eq_getElem h]; rfl
theorem or_none {zs : List Int} {i : Nat} (hno : ∀ j, j < i → zs.getD j 0 = 0) (hi : zs.length ≤ i) : orL zs = 0 := by
  unfold orL
  have : zs.find? (· != 0) = none := by
    rw [List.find?_eq_none]
    intro x hx
    obtain ⟨j, hj, rfl⟩ := List.mem_iff_getElem.1 hx
    have := hno j (by omega)
    rw [List.getD_eq_getElem?_getD, List.getElem?_eq_getElem hj] at this
    simpa using this
  rw [this]; rfl
theorem or_some {zs : List Int} : ∀ {i : Nat}, i < zs.length → (∀ j, j < i → zs.getD j 0 = 0) → ¬ zs.getD i 0 = 0 → orL zs = zs.getD i 0 := by
  induction zs with
  | nil => intro i h; simp at h
  | cons a r ih =>
    intro i hi hno hne
    cases i with
    | zero =>
      have : (a != 0) = true := by simpa using hne
      unfold orL
      rw [List.find?_cons, this]; rfl
    | succ i =>
      have h0 := hno 0 (by omega)
      have : (a != 0) = false := by simpa using h0
      have h := ih (i := i) (by simpa using hi) (fun j hj => by simpa using hno (j + 1) (by omega)) (by simpa using hne)
      unfold orL at h ⊢
      rw [List.find?_cons, this]
      simpa using h
theorem or_words (x y : Nat) : orL [ordU (x / 18446744073709551616) (y / 18446744073709551616), ordU (x % 18446744073709551616) (y % 18446744073709551616)] = ordU x y := by
  unfold orL ordU
  have hx := Nat.div_add_mod x 18446744073709551616
  have hy := Nat.div_add_mod y 18446744073709551616
  have lx := Nat.mod_lt x (show 0 < 18446744073709551616 by decide)
  have ly := Nat.mod_lt y (show 0 < 18446744073709551616 by decide)
  generalize x / 18446744073709551616 = a at *
  generalize x % 18446744073709551616 = b at *
  generalize y / 18446744073709551616 = c at *
  generalize y % 18446744073709551616 = d at *
  by_cases h1 : a < c
  · rw [if_pos h1, if_pos (show x < y by omega)]; rfl
  · by_cases h2 : c < a
    · rw [if_neg h1, if_pos h2, if_neg (show ¬ x < y by omega), if_pos (show y < x by omega)]; rfl
    · rw [if_neg h1, if_neg h2]
      by_cases h3 : b < d
      · rw [if_pos h3, if_pos (show x < y by omega)]; rfl
      · by_cases h4 : d < b
        · rw [if_neg h3, if_pos h4, if_neg (show ¬ x < y by omega), if_pos (show y < x by omega)]; rfl
        · rw [if_neg h3, if_neg h4, if_neg (show ¬ x < y by omega), if_neg (show ¬ y < x by omega)]; rfl
/-- Whether a threshold is met. -/
def metB (u : Thr) (c a : Int) : Bool := if u.pct > 0 then decide (ordU (a.toNat * 100) (c.toNat * u.pct.toNat) < 0) else decide (a < u.amt)

set_option maxRecDepth 20000 in
theorem TPrint_any (u : Thr) (h : RightT u) (ha : u.amt ≤ 9223372036854775807) (M : Nat → Option (List AV)) : ACall Tryd.prog 38 [encT u] M (fun r M' => r = .str (printT u) ∧ M = M') := by
  obtain ⟨hs0, hs2, hpa, hgr⟩ := h
  have hp0 : 0 ≤ u.pct ∧ u.pct ≤ 100 ∧ 0 ≤ u.amt ∧ 0 ≤ u.gr ∧ u.gr ≤ 1000 := by omega
  have hq1 := sigw_len u.sig.toNat
  have hq2 := itoa_len u.pct (by omega) (by omega)
  have hq3 := printV_len u.amt.toNat (by omega)
  have hq4 := itoa_len u.gr (by omega) (by omega)
  have hq5 := word_len u.sig
  have hq6 := digs_len20 u.pct.toNat (by omega)
  have hq7 := digs_len20 u.gr.toNat (by omega)
  refine ACall.of Tryd.func38 rfl (n := 33) rfl rfl rfl ?_
  refine AWp.seq (AWp.region ?_)
  refine AOps.box trivial rfl (by decide) rfl (noL rfl) rfl (v := encT u) (.inl ⟨rfl, rfl⟩) rfl rfl (all_flat rfl) ?_
  refine AOps.read trivial rfl (by decide) (Reader.move (.inr rfl) (ok_const rfl) (v := .str []) rfl) ?_
  refine AOps.nil ?_
  refine AWp.anyK [0, 1, 2, 3] [1] (⟨[(0, encT u), (1, .lptr 1 0), (2, .str []), (3, .str ((sigL.getD u.sig.toNat []) ++ [60]))], [(1, [.lit (.int .i64 u.sig), .lit (.int .i64 u.pct), .lit (.int .i64 u.amt), .lit (.bool u.soft), .lit (.int .i64 u.gr)])], M⟩) (by kernel_rfl) ?_ ?_
  · skip
    refine AAny.step [0, 1] (by kernel_rfl) (by decide) ?_
    intro iq hq; simp only [List.mem_cons, List.mem_nil_iff, or_false] at hq
    rcases hq with rfl | rfl
    · refine ⟨_, rfl, ?_⟩
      refine AOps.call (args := []) trivial rfl (by decide) rfl rfl Tryd.call68 (args_ok rfl) rfl (by intro j x v hx hv; match j, hx, hv with  | _ + 0, hx, hv => cases hx) (twords_any M) ?_
      rintro _ _ ⟨rfl, rfl⟩
      refine AOps.nil ?_
      refine AAny.step [1] (by kernel_rfl) (by decide) ?_
      intro iq hq; simp only [List.mem_cons, List.mem_nil_iff, or_false] at hq
      rcases hq with rfl
      · refine ⟨_, rfl, ?_⟩
        refine AOps.read trivial rfl (by decide) (Reader.fieldL rfl ⟨_, _, Tryd.underlying65, rfl, rfl, rfl, sizeOf_3⟩ (by decide) rfl) ?_
        refine AOps.nil ?_
        refine AAny.step [2] (by kernel_rfl) (by decide) ?_
        intro iq hq; simp only [List.mem_cons, List.mem_nil_iff, or_false] at hq
        rcases hq with rfl
        · refine ⟨_, rfl, ?_⟩
          refine AOps.read trivial rfl (by decide) (Reader.loadL rfl Tryd.underlying3 sizeOf_3 rfl rfl (v := .lit (.int .i64 u.sig)) rfl rfl) ?_
          refine AOps.nil ?_
          refine AAny.step [3] (by kernel_rfl) (by decide) ?_
          intro iq hq; simp only [List.mem_cons, List.mem_nil_iff, or_false] at hq
          rcases hq with rfl
          · refine ⟨_, rfl, ?_⟩
            refine AOps.read trivial rfl (by decide) (Reader.elemAddr (m := u.sig.toNat) rfl Tryd.underlying23 sizeOf_9 rfl rfl (by omega) (e := .str (sigL.getD u.sig.toNat [])) (strs_at (by first | omega | (show _ < 3; omega)))) ?_
            refine AOps.nil ?_
            refine AAny.step [4] (by kernel_rfl) (by decide) ?_
            intro iq hq; simp only [List.mem_cons, List.mem_nil_iff, or_false] at hq
            rcases hq with rfl
            · refine ⟨_, rfl, ?_⟩
              refine AOps.read trivial rfl (by decide) (Reader.loadE rfl Tryd.underlying9 sizeOf_9 rfl (v := .str (sigL.getD u.sig.toNat [])) rfl rfl) ?_
              refine AOps.nil ?_
              refine AAny.step [5] (by kernel_rfl) (by decide) ?_
              intro iq hq; simp only [List.mem_cons, List.mem_nil_iff, or_false] at hq
              rcases hq with rfl
              · refine ⟨_, rfl, ?_⟩
                refine AOps.read trivial rfl (by decide) (Reader.cat rfl rfl rfl (by first | omega | (simp only [List.length_append, List.length_cons, List.length_nil]; omega) | (simp; omega)) (c := (sigL.getD u.sig.toNat []) ++ [60]) rfl) ?_
                refine AOps.nil ?_
                refine AAny.step [6] (by kernel_rfl) (by decide) ?_
                intro iq hq; simp only [List.mem_cons, List.mem_nil_iff, or_false] at hq
                rcases hq with rfl
                · refine ⟨_, rfl, ?_⟩
                  refine AOps.read trivial rfl (by decide) (Reader.move (.inr rfl) (ok_const rfl) (v := .str ((sigL.getD u.sig.toNat []) ++ [60])) rfl) ?_
                  refine AOps.nil ?_
                  exact AAny.done (by kernel_rfl) rfl
    · refine ⟨_, rfl, ?_⟩
      refine AOps.read trivial rfl (by decide) (Reader.fieldL rfl ⟨_, _, Tryd.underlying65, rfl, rfl, rfl, sizeOf_3⟩ (by decide) rfl) ?_
      refine AOps.nil ?_
      refine AAny.step [0, 2] (by kernel_rfl) (by decide) ?_
      intro iq hq; simp only [List.mem_cons, List.mem_nil_iff, or_false] at hq
      rcases hq with rfl | rfl
      · refine ⟨_, rfl, ?_⟩
        refine AOps.call (args := []) trivial rfl (by decide) rfl rfl Tryd.call68 (args_ok rfl) rfl (by intro j x v hx hv; match j, hx, hv with  | _ + 0, hx, hv => cases hx) (twords_any M) ?_
        rintro _ _ ⟨rfl, rfl⟩
        refine AOps.nil ?_
        refine AAny.step [2] (by kernel_rfl) (by decide) ?_
        intro iq hq; simp only [List.mem_cons, List.mem_nil_iff, or_false] at hq
        rcases hq with rfl
        · refine ⟨_, rfl, ?_⟩
          refine AOps.read trivial rfl (by decide) (Reader.loadL rfl Tryd.underlying3 sizeOf_3 rfl rfl (v := .lit (.int .i64 u.sig)) rfl rfl) ?_
          refine AOps.nil ?_
          refine AAny.step [3] (by kernel_rfl) (by decide) ?_
          intro iq hq; simp only [List.mem_cons, List.mem_nil_iff, or_false] at hq
          rcases hq with rfl
          · refine ⟨_, rfl, ?_⟩
            refine AOps.read trivial rfl (by decide) (Reader.elemAddr (m := u.sig.toNat) rfl Tryd.underlying23 sizeOf_9 rfl rfl (by omega) (e := .str (sigL.getD u.sig.toNat [])) (strs_at (by first | omega | (show _ < 3; omega)))) ?_
            refine AOps.nil ?_
            refine AAny.step [4] (by kernel_rfl) (by decide) ?_
            intro iq hq; simp only [List.mem_cons, List.mem_nil_iff, or_false] at hq
            rcases hq with rfl
            · refine ⟨_, rfl, ?_⟩
              refine AOps.read trivial rfl (by decide) (Reader.loadE rfl Tryd.underlying9 sizeOf_9 rfl (v := .str (sigL.getD u.sig.toNat [])) rfl rfl) ?_
              refine AOps.nil ?_
              refine AAny.step [5] (by kernel_rfl) (by decide) ?_
              intro iq hq; simp only [List.mem_cons, List.mem_nil_iff, or_false] at hq
              rcases hq with rfl
              · refine ⟨_, rfl, ?_⟩
                refine AOps.read trivial rfl (by decide) (Reader.cat rfl rfl rfl (by first | omega | (simp only [List.length_append, List.length_cons, List.length_nil]; omega) | (simp; omega)) (c := (sigL.getD u.sig.toNat []) ++ [60]) rfl) ?_
                refine AOps.nil ?_
                refine AAny.step [6] (by kernel_rfl) (by decide) ?_
                intro iq hq; simp only [List.mem_cons, List.mem_nil_iff, or_false] at hq
                rcases hq with rfl
                · refine ⟨_, rfl, ?_⟩
                  refine AOps.read trivial rfl (by decide) (Reader.move (.inr rfl) (ok_const rfl) (v := .str ((sigL.getD u.sig.toNat []) ++ [60])) rfl) ?_
                  refine AOps.nil ?_
                  exact AAny.done (by kernel_rfl) rfl
      · refine ⟨_, rfl, ?_⟩
        refine AOps.read trivial rfl (by decide) (Reader.loadL rfl Tryd.underlying3 sizeOf_3 rfl rfl (v := .lit (.int .i64 u.sig)) rfl rfl) ?_
        refine AOps.nil ?_
        refine AAny.step [0] (by kernel_rfl) (by decide) ?_
        intro iq hq; simp only [List.mem_cons, List.mem_nil_iff, or_false] at hq
        rcases hq with rfl
        · refine ⟨_, rfl, ?_⟩
          refine AOps.call (args := []) trivial rfl (by decide) rfl rfl Tryd.call68 (args_ok rfl) rfl (by intro j x v hx hv; match j, hx, hv with  | _ + 0, hx, hv => cases hx) (twords_any M) ?_
          rintro _ _ ⟨rfl, rfl⟩
          refine AOps.nil ?_
          refine AAny.step [3] (by kernel_rfl) (by decide) ?_
          intro iq hq; simp only [List.mem_cons, List.mem_nil_iff, or_false] at hq
          rcases hq with rfl
          · refine ⟨_, rfl, ?_⟩
            refine AOps.read trivial rfl (by decide) (Reader.elemAddr (m := u.sig.toNat) rfl Tryd.underlying23 sizeOf_9 rfl rfl (by omega) (e := .str (sigL.getD u.sig.toNat [])) (strs_at (by first | omega | (show _ < 3; omega)))) ?_
            refine AOps.nil ?_
            refine AAny.step [4] (by kernel_rfl) (by decide) ?_
            intro iq hq; simp only [List.mem_cons, List.mem_nil_iff, or_false] at hq
            rcases hq with rfl
            · refine ⟨_, rfl, ?_⟩
              refine AOps.read trivial rfl (by decide) (Reader.loadE rfl Tryd.underlying9 sizeOf_9 rfl (v := .str (sigL.getD u.sig.toNat [])) rfl rfl) ?_
              refine AOps.nil ?_
              refine AAny.step [5] (by kernel_rfl) (by decide) ?_
              intro iq hq; simp only [List.mem_cons, List.mem_nil_iff, or_false] at hq
              rcases hq with rfl
              · refine ⟨_, rfl, ?_⟩
                refine AOps.read trivial rfl (by decide) (Reader.cat rfl rfl rfl (by first | omega | (simp only [List.length_append, List.length_cons, List.length_nil]; omega) | (simp; omega)) (c := (sigL.getD u.sig.toNat []) ++ [60]) rfl) ?_
                refine AOps.nil ?_
                refine AAny.step [6] (by kernel_rfl) (by decide) ?_
                intro iq hq; simp only [List.mem_cons, List.mem_nil_iff, or_false] at hq
                rcases hq with rfl
                · refine ⟨_, rfl, ?_⟩
                  refine AOps.read trivial rfl (by decide) (Reader.move (.inr rfl) (ok_const rfl) (v := .str ((sigL.getD u.sig.toNat []) ++ [60])) rfl) ?_
                  refine AOps.nil ?_
                  exact AAny.done (by kernel_rfl) rfl
  refine AWp.seq ?_
  refine AWp.seq (AWp.region ?_)
  refine AOps.read trivial rfl (by decide) (Reader.fieldL rfl ⟨_, _, Tryd.underlying65, rfl, rfl, rfl, sizeOf_3⟩ (by decide) rfl) ?_
  refine AOps.read trivial rfl (by decide) (Reader.loadL rfl Tryd.underlying3 sizeOf_3 rfl rfl (v := .lit (.int .i64 u.pct)) rfl rfl) ?_
  refine AOps.read trivial rfl (by decide) (Reader.int rfl rfl rfl (r := .bool (decide (u.pct > 0))) rfl) ?_
  refine AOps.nil ?_
  refine AWp.cond (b := decide (u.pct > 0)) rfl (fun h1 => ?_) (fun h1 => ?_)
  · skip
    have h1' : u.pct > 0 := (by have hh := of_decide_eq_true h1; omega)
    clear h1
    refine AWp.region ?_
    refine AOps.read trivial rfl (by decide) (Reader.move (.inl rfl) (ok_const rfl) (v := .str ((sigL.getD u.sig.toNat []) ++ [60])) rfl) ?_
    refine AOps.read trivial rfl (by decide) (Reader.fieldL rfl ⟨_, _, Tryd.underlying65, rfl, rfl, rfl, sizeOf_3⟩ (by decide) rfl) ?_
    refine AOps.read trivial rfl (by decide) (Reader.loadL rfl Tryd.underlying3 sizeOf_3 rfl rfl (v := .lit (.int .i64 u.pct)) rfl rfl) ?_
    refine AOps.call (args := [.lit (.int .i64 u.pct)]) trivial rfl (by decide) rfl rfl Tryd.call44 (args_ok rfl) rfl (by intro j x v hx hv; match j, hx, hv with | 0, hx, hv => cases hx; cases hv; exact .inl ⟨rfl, rfl⟩ | _ + 1, hx, hv => cases hx) (itoa_int u.pct (by omega) (by omega) M) ?_
    rintro _ _ ⟨rfl, rfl⟩
    refine AOps.read trivial rfl (by decide) (Reader.cat rfl rfl rfl (by first | omega | (simp only [List.length_append, List.length_cons, List.length_nil]; omega) | (simp; omega)) (c := (Lib.itoa u.pct) ++ [37]) rfl) ?_
    refine AOps.read trivial rfl (by decide) (Reader.cat rfl rfl rfl (by first | omega | (simp only [List.length_append, List.length_cons, List.length_nil]; omega) | (simp; omega)) (c := ((sigL.getD u.sig.toNat []) ++ [60]) ++ ((Lib.itoa u.pct) ++ [37])) rfl) ?_
    refine AOps.read trivial rfl (by decide) (Reader.move (.inr rfl) (ok_const rfl) (v := .str (((sigL.getD u.sig.toNat []) ++ [60]) ++ ((Lib.itoa u.pct) ++ [37]))) rfl) ?_
    refine AOps.nil ?_
    refine AWp.seq ?_
    refine AWp.seq (AWp.region ?_)
    refine AOps.read trivial rfl (by decide) (Reader.fieldL rfl ⟨_, _, Tryd.underlying65, rfl, rfl, rfl, sizeOf_4⟩ (by decide) rfl) ?_
    refine AOps.read trivial rfl (by decide) (Reader.loadL rfl Tryd.underlying4 sizeOf_4 rfl rfl (v := .lit (.bool u.soft)) rfl rfl) ?_
    refine AOps.nil ?_
    refine AWp.cond (b := u.soft) rfl (fun h2 => ?_) (fun h2 => ?_)
    · skip
      refine AWp.region ?_
      refine AOps.read trivial rfl (by decide) (Reader.move (.inl rfl) (ok_const rfl) (v := .str (((sigL.getD u.sig.toNat []) ++ [60]) ++ ((Lib.itoa u.pct) ++ [37]))) rfl) ?_
      refine AOps.read trivial rfl (by decide) (Reader.fieldL rfl ⟨_, _, Tryd.underlying65, rfl, rfl, rfl, sizeOf_3⟩ (by decide) rfl) ?_
      refine AOps.read trivial rfl (by decide) (Reader.loadL rfl Tryd.underlying3 sizeOf_3 rfl rfl (v := .lit (.int .i64 u.gr)) rfl rfl) ?_
      refine AOps.call (args := [.lit (.int .i64 u.gr)]) trivial rfl (by decide) rfl rfl Tryd.call44 (args_ok rfl) rfl (by intro j x v hx hv; match j, hx, hv with | 0, hx, hv => cases hx; cases hv; exact .inl ⟨rfl, rfl⟩ | _ + 1, hx, hv => cases hx) (itoa_int u.gr (by omega) (by omega) M) ?_
      rintro _ _ ⟨rfl, rfl⟩
      refine AOps.read trivial rfl (by decide) (Reader.cat rfl rfl rfl (by first | omega | (simp only [List.length_append, List.length_cons, List.length_nil]; omega) | (simp; omega)) (c := [58] ++ (Lib.itoa u.gr)) rfl) ?_
      refine AOps.read trivial rfl (by decide) (Reader.cat rfl rfl rfl (by first | omega | (simp only [List.length_append, List.length_cons, List.length_nil]; omega) | (simp; omega)) (c := (((sigL.getD u.sig.toNat []) ++ [60]) ++ ((Lib.itoa u.pct) ++ [37])) ++ ([58] ++ (Lib.itoa u.gr))) rfl) ?_
      refine AOps.read trivial rfl (by decide) (Reader.move (.inr rfl) (ok_const rfl) (v := .str ((((sigL.getD u.sig.toNat []) ++ [60]) ++ ((Lib.itoa u.pct) ++ [37])) ++ ([58] ++ (Lib.itoa u.gr)))) rfl) ?_
      refine AOps.nil ?_
      refine AWp.seq (AWp.region ?_)
      refine AOps.read trivial rfl (by decide) (Reader.move (.inl rfl) (ok_const rfl) (v := .str ((((sigL.getD u.sig.toNat []) ++ [60]) ++ ((Lib.itoa u.pct) ++ [37])) ++ ([58] ++ (Lib.itoa u.gr)))) rfl) ?_
      refine AOps.read trivial rfl (by decide) (Reader.move (.inr rfl) (ok_const rfl) (v := .str ((((sigL.getD u.sig.toNat []) ++ [60]) ++ ((Lib.itoa u.pct) ++ [37])) ++ ([58] ++ (Lib.itoa u.gr)))) rfl) ?_
      refine AOps.nil ?_
      refine AWp.ret ?_
      exact ⟨.inl rfl, _, ResOf.one 2 (.str ((((sigL.getD u.sig.toNat []) ++ [60]) ++ ((Lib.itoa u.pct) ++ [37])) ++ ([58] ++ (Lib.itoa u.gr)))) rfl rfl, ⟨congrArg AV.str (pr_tt hs0 hs2 hp0 (by assumption) (by assumption)), rfl⟩⟩
    · skip
      refine AWp.skip ?_
      refine AWp.seq (AWp.region ?_)
      refine AOps.read trivial rfl (by decide) (Reader.move (.inl rfl) (ok_const rfl) (v := .str (((sigL.getD u.sig.toNat []) ++ [60]) ++ ((Lib.itoa u.pct) ++ [37]))) rfl) ?_
      refine AOps.read trivial rfl (by decide) (Reader.move (.inr rfl) (ok_const rfl) (v := .str (((sigL.getD u.sig.toNat []) ++ [60]) ++ ((Lib.itoa u.pct) ++ [37]))) rfl) ?_
      refine AOps.nil ?_
      refine AWp.ret ?_
      exact ⟨.inl rfl, _, ResOf.one 2 (.str (((sigL.getD u.sig.toNat []) ++ [60]) ++ ((Lib.itoa u.pct) ++ [37]))) rfl rfl, ⟨congrArg AV.str (pr_tf hs0 hs2 hp0 (by assumption) (by assumption)), rfl⟩⟩
  · skip
    have h1' : ¬ (u.pct > 0) := (by have hh := of_decide_eq_false h1; omega)
    clear h1
    refine AWp.region ?_
    refine AOps.read trivial rfl (by decide) (Reader.move (.inl rfl) (ok_const rfl) (v := .str ((sigL.getD u.sig.toNat []) ++ [60])) rfl) ?_
    refine AOps.read trivial rfl (by decide) (Reader.fieldL rfl ⟨_, _, Tryd.underlying65, rfl, rfl, rfl, sizeOf_3⟩ (by decide) rfl) ?_
    refine AOps.read trivial rfl (by decide) (Reader.loadL rfl Tryd.underlying3 sizeOf_3 rfl rfl (v := .lit (.int .i64 u.amt)) rfl rfl) ?_
    refine AOps.call (args := [.lit (.int .i64 u.amt)]) trivial rfl (by decide) rfl rfl Tryd.call18 (args_ok rfl) rfl (by intro j x v hx hv; match j, hx, hv with | 0, hx, hv => cases hx; cases hv; exact .inl ⟨rfl, rfl⟩ | _ + 1, hx, hv => cases hx) (Print_any u.amt (by omega) M) ?_
    rintro _ _ ⟨rfl, rfl⟩
    refine AOps.read trivial rfl (by decide) (Reader.cat rfl rfl rfl (by first | omega | (simp only [List.length_append, List.length_cons, List.length_nil]; omega) | (simp; omega)) (c := ((sigL.getD u.sig.toNat []) ++ [60]) ++ (printV u.amt.toNat)) rfl) ?_
    refine AOps.read trivial rfl (by decide) (Reader.move (.inr rfl) (ok_const rfl) (v := .str (((sigL.getD u.sig.toNat []) ++ [60]) ++ (printV u.amt.toNat))) rfl) ?_
    refine AOps.nil ?_
    refine AWp.seq ?_
    refine AWp.seq (AWp.region ?_)
    refine AOps.read trivial rfl (by decide) (Reader.fieldL rfl ⟨_, _, Tryd.underlying65, rfl, rfl, rfl, sizeOf_4⟩ (by decide) rfl) ?_
    refine AOps.read trivial rfl (by decide) (Reader.loadL rfl Tryd.underlying4 sizeOf_4 rfl rfl (v := .lit (.bool u.soft)) rfl rfl) ?_
    refine AOps.nil ?_
    refine AWp.cond (b := u.soft) rfl (fun h3 => ?_) (fun h3 => ?_)
    · skip
      refine AWp.region ?_
      refine AOps.read trivial rfl (by decide) (Reader.move (.inl rfl) (ok_const rfl) (v := .str (((sigL.getD u.sig.toNat []) ++ [60]) ++ (printV u.amt.toNat))) rfl) ?_
      refine AOps.read trivial rfl (by decide) (Reader.fieldL rfl ⟨_, _, Tryd.underlying65, rfl, rfl, rfl, sizeOf_3⟩ (by decide) rfl) ?_
      refine AOps.read trivial rfl (by decide) (Reader.loadL rfl Tryd.underlying3 sizeOf_3 rfl rfl (v := .lit (.int .i64 u.gr)) rfl rfl) ?_
      refine AOps.call (args := [.lit (.int .i64 u.gr)]) trivial rfl (by decide) rfl rfl Tryd.call44 (args_ok rfl) rfl (by intro j x v hx hv; match j, hx, hv with | 0, hx, hv => cases hx; cases hv; exact .inl ⟨rfl, rfl⟩ | _ + 1, hx, hv => cases hx) (itoa_int u.gr (by omega) (by omega) M) ?_
      rintro _ _ ⟨rfl, rfl⟩
      refine AOps.read trivial rfl (by decide) (Reader.cat rfl rfl rfl (by first | omega | (simp only [List.length_append, List.length_cons, List.length_nil]; omega) | (simp; omega)) (c := [58] ++ (Lib.itoa u.gr)) rfl) ?_
      refine AOps.read trivial rfl (by decide) (Reader.cat rfl rfl rfl (by first | omega | (simp only [List.length_append, List.length_cons, List.length_nil]; omega) | (simp; omega)) (c := (((sigL.getD u.sig.toNat []) ++ [60]) ++ (printV u.amt.toNat)) ++ ([58] ++ (Lib.itoa u.gr))) rfl) ?_
      refine AOps.read trivial rfl (by decide) (Reader.move (.inr rfl) (ok_const rfl) (v := .str ((((sigL.getD u.sig.toNat []) ++ [60]) ++ (printV u.amt.toNat)) ++ ([58] ++ (Lib.itoa u.gr)))) rfl) ?_
      refine AOps.nil ?_
      refine AWp.seq (AWp.region ?_)
      refine AOps.read trivial rfl (by decide) (Reader.move (.inl rfl) (ok_const rfl) (v := .str ((((sigL.getD u.sig.toNat []) ++ [60]) ++ (printV u.amt.toNat)) ++ ([58] ++ (Lib.itoa u.gr)))) rfl) ?_
      refine AOps.read trivial rfl (by decide) (Reader.move (.inr rfl) (ok_const rfl) (v := .str ((((sigL.getD u.sig.toNat []) ++ [60]) ++ (printV u.amt.toNat)) ++ ([58] ++ (Lib.itoa u.gr)))) rfl) ?_
      refine AOps.nil ?_
      refine AWp.ret ?_
      exact ⟨.inl rfl, _, ResOf.one 2 (.str ((((sigL.getD u.sig.toNat []) ++ [60]) ++ (printV u.amt.toNat)) ++ ([58] ++ (Lib.itoa u.gr)))) rfl rfl, ⟨congrArg AV.str (pr_ft hs0 hs2 hp0 (by assumption) (by assumption)), rfl⟩⟩
    · skip
      refine AWp.skip ?_
      refine AWp.seq (AWp.region ?_)
      refine AOps.read trivial rfl (by decide) (Reader.move (.inl rfl) (ok_const rfl) (v := .str (((sigL.getD u.sig.toNat []) ++ [60]) ++ (printV u.amt.toNat))) rfl) ?_
      refine AOps.read trivial rfl (by decide) (Reader.move (.inr rfl) (ok_const rfl) (v := .str (((sigL.getD u.sig.toNat []) ++ [60]) ++ (printV u.amt.toNat))) rfl) ?_
      refine AOps.nil ?_
      refine AWp.ret ?_
      exact ⟨.inl rfl, _, ResOf.one 2 (.str (((sigL.getD u.sig.toNat []) ++ [60]) ++ (printV u.amt.toNat))) rfl rfl, ⟨congrArg AV.str (pr_ff hs0 hs2 hp0 (by assumption) (by assumption)), rfl⟩⟩

set_option maxRecDepth 20000 in
theorem rTPrint_any (u : Thr) (h : RightT u) (ha : u.amt ≤ 9223372036854775807) (M : Nat → Option (List AV)) : ACall Tryd.prog 39 [encT u] M (fun r M' => r = .str (printT u) ∧ M = M') := by
  obtain ⟨hs0, hs2, hpa, hgr⟩ := h
  have hp0 : 0 ≤ u.pct ∧ u.pct ≤ 100 ∧ 0 ≤ u.amt ∧ 0 ≤ u.gr ∧ u.gr ≤ 1000 := by omega
  have hq1 := sigw_len u.sig.toNat
  have hq2 := itoa_len u.pct (by omega) (by omega)
  have hq3 := printV_len u.amt.toNat (by omega)
  have hq4 := itoa_len u.gr (by omega) (by omega)
  have hq5 := word_len u.sig
  have hq6 := digs_len20 u.pct.toNat (by omega)
  have hq7 := digs_len20 u.gr.toNat (by omega)
  refine ACall.of Tryd.func39 rfl (n := 31) rfl rfl rfl ?_
  refine AWp.seq (AWp.region ?_)
  refine AOps.box trivial rfl (by decide) rfl (noL rfl) rfl (v := encT u) (.inl ⟨rfl, rfl⟩) rfl rfl (all_flat rfl) ?_
  refine AOps.read trivial rfl (by decide) (Reader.move (.inr rfl) (ok_const rfl) (v := .str []) rfl) ?_
  refine AOps.nil ?_
  refine AWp.seq (AWp.region ?_)
  refine AOps.read trivial rfl (by decide) (Reader.fieldL rfl ⟨_, _, Tryd.underlying65, rfl, rfl, rfl, sizeOf_3⟩ (by decide) rfl) ?_
  refine AOps.read trivial rfl (by decide) (Reader.loadL rfl Tryd.underlying3 sizeOf_3 rfl rfl (v := .lit (.int .i64 u.sig)) rfl rfl) ?_
  refine AOps.call (args := [.lit (.int .i64 u.sig)]) trivial rfl (by decide) rfl rfl Tryd.call41 (args_ok rfl) rfl (by intro j x v hx hv; match j, hx, hv with | 0, hx, hv => cases hx; cases hv; exact .inl ⟨rfl, rfl⟩ | _ + 1, hx, hv => cases hx) (rWord_any u.sig M) ?_
  rintro _ _ ⟨rfl, rfl⟩
  refine AOps.read trivial rfl (by decide) (Reader.cat rfl rfl rfl (by first | omega | (simp only [List.length_append, List.length_cons, List.length_nil]; omega) | (simp; omega)) (c := (wordOf u.sig) ++ [60]) rfl) ?_
  refine AOps.read trivial rfl (by decide) (Reader.move (.inr rfl) (ok_const rfl) (v := .str ((wordOf u.sig) ++ [60])) rfl) ?_
  refine AOps.nil ?_
  refine AWp.seq ?_
  refine AWp.seq (AWp.region ?_)
  refine AOps.read trivial rfl (by decide) (Reader.fieldL rfl ⟨_, _, Tryd.underlying65, rfl, rfl, rfl, sizeOf_3⟩ (by decide) rfl) ?_
  refine AOps.read trivial rfl (by decide) (Reader.loadL rfl Tryd.underlying3 sizeOf_3 rfl rfl (v := .lit (.int .i64 u.pct)) rfl rfl) ?_
  refine AOps.read trivial rfl (by decide) (Reader.int rfl rfl rfl (r := .bool (decide (u.pct > 0))) rfl) ?_
  refine AOps.nil ?_
  refine AWp.cond (b := decide (u.pct > 0)) rfl (fun h1 => ?_) (fun h1 => ?_)
  · skip
    have h1' : u.pct > 0 := (by have hh := of_decide_eq_true h1; omega)
    clear h1
    refine AWp.region ?_
    refine AOps.read trivial rfl (by decide) (Reader.move (.inl rfl) (ok_const rfl) (v := .str ((wordOf u.sig) ++ [60])) rfl) ?_
    refine AOps.read trivial rfl (by decide) (Reader.fieldL rfl ⟨_, _, Tryd.underlying65, rfl, rfl, rfl, sizeOf_3⟩ (by decide) rfl) ?_
    refine AOps.read trivial rfl (by decide) (Reader.loadL rfl Tryd.underlying3 sizeOf_3 rfl rfl (v := .lit (.int .i64 u.pct)) rfl rfl) ?_
    refine AOps.call (args := [.lit (.int .i64 u.pct)]) trivial rfl (by decide) rfl rfl Tryd.call19 (args_ok rfl) rfl (by intro j x v hx hv; match j, hx, hv with | 0, hx, hv => cases hx; cases hv; exact .inl ⟨rfl, rfl⟩ | _ + 1, hx, hv => cases hx) (Digits_int u.pct (by omega) (by omega) M) ?_
    rintro _ _ ⟨rfl, rfl⟩
    refine AOps.read trivial rfl (by decide) (Reader.cat rfl rfl rfl (by first | omega | (simp only [List.length_append, List.length_cons, List.length_nil]; omega) | (simp; omega)) (c := ((wordOf u.sig) ++ [60]) ++ (digs u.pct.toNat)) rfl) ?_
    refine AOps.read trivial rfl (by decide) (Reader.cat rfl rfl rfl (by first | omega | (simp only [List.length_append, List.length_cons, List.length_nil]; omega) | (simp; omega)) (c := (((wordOf u.sig) ++ [60]) ++ (digs u.pct.toNat)) ++ [37]) rfl) ?_
    refine AOps.read trivial rfl (by decide) (Reader.move (.inr rfl) (ok_const rfl) (v := .str ((((wordOf u.sig) ++ [60]) ++ (digs u.pct.toNat)) ++ [37])) rfl) ?_
    refine AOps.nil ?_
    refine AWp.seq ?_
    refine AWp.seq (AWp.region ?_)
    refine AOps.read trivial rfl (by decide) (Reader.fieldL rfl ⟨_, _, Tryd.underlying65, rfl, rfl, rfl, sizeOf_4⟩ (by decide) rfl) ?_
    refine AOps.read trivial rfl (by decide) (Reader.loadL rfl Tryd.underlying4 sizeOf_4 rfl rfl (v := .lit (.bool u.soft)) rfl rfl) ?_
    refine AOps.nil ?_
    refine AWp.cond (b := u.soft) rfl (fun h2 => ?_) (fun h2 => ?_)
    · skip
      refine AWp.region ?_
      refine AOps.read trivial rfl (by decide) (Reader.move (.inl rfl) (ok_const rfl) (v := .str ((((wordOf u.sig) ++ [60]) ++ (digs u.pct.toNat)) ++ [37])) rfl) ?_
      refine AOps.read trivial rfl (by decide) (Reader.cat rfl rfl rfl (by first | omega | (simp only [List.length_append, List.length_cons, List.length_nil]; omega) | (simp; omega)) (c := ((((wordOf u.sig) ++ [60]) ++ (digs u.pct.toNat)) ++ [37]) ++ [58]) rfl) ?_
      refine AOps.read trivial rfl (by decide) (Reader.fieldL rfl ⟨_, _, Tryd.underlying65, rfl, rfl, rfl, sizeOf_3⟩ (by decide) rfl) ?_
      refine AOps.read trivial rfl (by decide) (Reader.loadL rfl Tryd.underlying3 sizeOf_3 rfl rfl (v := .lit (.int .i64 u.gr)) rfl rfl) ?_
      refine AOps.call (args := [.lit (.int .i64 u.gr)]) trivial rfl (by decide) rfl rfl Tryd.call19 (args_ok rfl) rfl (by intro j x v hx hv; match j, hx, hv with | 0, hx, hv => cases hx; cases hv; exact .inl ⟨rfl, rfl⟩ | _ + 1, hx, hv => cases hx) (Digits_int u.gr (by omega) (by omega) M) ?_
      rintro _ _ ⟨rfl, rfl⟩
      refine AOps.read trivial rfl (by decide) (Reader.cat rfl rfl rfl (by first | omega | (simp only [List.length_append, List.length_cons, List.length_nil]; omega) | (simp; omega)) (c := (((((wordOf u.sig) ++ [60]) ++ (digs u.pct.toNat)) ++ [37]) ++ [58]) ++ (digs u.gr.toNat)) rfl) ?_
      refine AOps.read trivial rfl (by decide) (Reader.move (.inr rfl) (ok_const rfl) (v := .str ((((((wordOf u.sig) ++ [60]) ++ (digs u.pct.toNat)) ++ [37]) ++ [58]) ++ (digs u.gr.toNat))) rfl) ?_
      refine AOps.nil ?_
      refine AWp.seq (AWp.region ?_)
      refine AOps.read trivial rfl (by decide) (Reader.move (.inl rfl) (ok_const rfl) (v := .str ((((((wordOf u.sig) ++ [60]) ++ (digs u.pct.toNat)) ++ [37]) ++ [58]) ++ (digs u.gr.toNat))) rfl) ?_
      refine AOps.read trivial rfl (by decide) (Reader.move (.inr rfl) (ok_const rfl) (v := .str ((((((wordOf u.sig) ++ [60]) ++ (digs u.pct.toNat)) ++ [37]) ++ [58]) ++ (digs u.gr.toNat))) rfl) ?_
      refine AOps.nil ?_
      refine AWp.ret ?_
      exact ⟨.inl rfl, _, ResOf.one 2 (.str ((((((wordOf u.sig) ++ [60]) ++ (digs u.pct.toNat)) ++ [37]) ++ [58]) ++ (digs u.gr.toNat))) rfl rfl, ⟨congrArg AV.str (rpr_tt hs0 hs2 hp0 (by assumption) (by assumption)), rfl⟩⟩
    · skip
      refine AWp.skip ?_
      refine AWp.seq (AWp.region ?_)
      refine AOps.read trivial rfl (by decide) (Reader.move (.inl rfl) (ok_const rfl) (v := .str ((((wordOf u.sig) ++ [60]) ++ (digs u.pct.toNat)) ++ [37])) rfl) ?_
      refine AOps.read trivial rfl (by decide) (Reader.move (.inr rfl) (ok_const rfl) (v := .str ((((wordOf u.sig) ++ [60]) ++ (digs u.pct.toNat)) ++ [37])) rfl) ?_
      refine AOps.nil ?_
      refine AWp.ret ?_
      exact ⟨.inl rfl, _, ResOf.one 2 (.str ((((wordOf u.sig) ++ [60]) ++ (digs u.pct.toNat)) ++ [37])) rfl rfl, ⟨congrArg AV.str (rpr_tf hs0 hs2 hp0 (by assumption) (by assumption)), rfl⟩⟩
  · skip
    have h1' : ¬ (u.pct > 0) := (by have hh := of_decide_eq_false h1; omega)
    clear h1
    refine AWp.region ?_
    refine AOps.read trivial rfl (by decide) (Reader.move (.inl rfl) (ok_const rfl) (v := .str ((wordOf u.sig) ++ [60])) rfl) ?_
    refine AOps.read trivial rfl (by decide) (Reader.fieldL rfl ⟨_, _, Tryd.underlying65, rfl, rfl, rfl, sizeOf_3⟩ (by decide) rfl) ?_
    refine AOps.read trivial rfl (by decide) (Reader.loadL rfl Tryd.underlying3 sizeOf_3 rfl rfl (v := .lit (.int .i64 u.amt)) rfl rfl) ?_
    refine AOps.call (args := [.lit (.int .i64 u.amt)]) trivial rfl (by decide) rfl rfl Tryd.call69 (args_ok rfl) rfl (by intro j x v hx hv; match j, hx, hv with | 0, hx, hv => cases hx; cases hv; exact .inl ⟨rfl, rfl⟩ | _ + 1, hx, hv => cases hx) (rPrint_int u.amt (by omega) (by omega) M) ?_
    rintro _ _ ⟨rfl, rfl⟩
    refine AOps.read trivial rfl (by decide) (Reader.cat rfl rfl rfl (by first | omega | (simp only [List.length_append, List.length_cons, List.length_nil]; omega) | (simp; omega)) (c := ((wordOf u.sig) ++ [60]) ++ (printV u.amt.toNat)) rfl) ?_
    refine AOps.read trivial rfl (by decide) (Reader.move (.inr rfl) (ok_const rfl) (v := .str (((wordOf u.sig) ++ [60]) ++ (printV u.amt.toNat))) rfl) ?_
    refine AOps.nil ?_
    refine AWp.seq ?_
    refine AWp.seq (AWp.region ?_)
    refine AOps.read trivial rfl (by decide) (Reader.fieldL rfl ⟨_, _, Tryd.underlying65, rfl, rfl, rfl, sizeOf_4⟩ (by decide) rfl) ?_
    refine AOps.read trivial rfl (by decide) (Reader.loadL rfl Tryd.underlying4 sizeOf_4 rfl rfl (v := .lit (.bool u.soft)) rfl rfl) ?_
    refine AOps.nil ?_
    refine AWp.cond (b := u.soft) rfl (fun h3 => ?_) (fun h3 => ?_)
    · skip
      refine AWp.region ?_
      refine AOps.read trivial rfl (by decide) (Reader.move (.inl rfl) (ok_const rfl) (v := .str (((wordOf u.sig) ++ [60]) ++ (printV u.amt.toNat))) rfl) ?_
      refine AOps.read trivial rfl (by decide) (Reader.cat rfl rfl rfl (by first | omega | (simp only [List.length_append, List.length_cons, List.length_nil]; omega) | (simp; omega)) (c := (((wordOf u.sig) ++ [60]) ++ (printV u.amt.toNat)) ++ [58]) rfl) ?_
      refine AOps.read trivial rfl (by decide) (Reader.fieldL rfl ⟨_, _, Tryd.underlying65, rfl, rfl, rfl, sizeOf_3⟩ (by decide) rfl) ?_
      refine AOps.read trivial rfl (by decide) (Reader.loadL rfl Tryd.underlying3 sizeOf_3 rfl rfl (v := .lit (.int .i64 u.gr)) rfl rfl) ?_
      refine AOps.call (args := [.lit (.int .i64 u.gr)]) trivial rfl (by decide) rfl rfl Tryd.call19 (args_ok rfl) rfl (by intro j x v hx hv; match j, hx, hv with | 0, hx, hv => cases hx; cases hv; exact .inl ⟨rfl, rfl⟩ | _ + 1, hx, hv => cases hx) (Digits_int u.gr (by omega) (by omega) M) ?_
      rintro _ _ ⟨rfl, rfl⟩
      refine AOps.read trivial rfl (by decide) (Reader.cat rfl rfl rfl (by first | omega | (simp only [List.length_append, List.length_cons, List.length_nil]; omega) | (simp; omega)) (c := ((((wordOf u.sig) ++ [60]) ++ (printV u.amt.toNat)) ++ [58]) ++ (digs u.gr.toNat)) rfl) ?_
      refine AOps.read trivial rfl (by decide) (Reader.move (.inr rfl) (ok_const rfl) (v := .str (((((wordOf u.sig) ++ [60]) ++ (printV u.amt.toNat)) ++ [58]) ++ (digs u.gr.toNat))) rfl) ?_
      refine AOps.nil ?_
      refine AWp.seq (AWp.region ?_)
      refine AOps.read trivial rfl (by decide) (Reader.move (.inl rfl) (ok_const rfl) (v := .str (((((wordOf u.sig) ++ [60]) ++ (printV u.amt.toNat)) ++ [58]) ++ (digs u.gr.toNat))) rfl) ?_
      refine AOps.read trivial rfl (by decide) (Reader.move (.inr rfl) (ok_const rfl) (v := .str (((((wordOf u.sig) ++ [60]) ++ (printV u.amt.toNat)) ++ [58]) ++ (digs u.gr.toNat))) rfl) ?_
      refine AOps.nil ?_
      refine AWp.ret ?_
      exact ⟨.inl rfl, _, ResOf.one 2 (.str (((((wordOf u.sig) ++ [60]) ++ (printV u.amt.toNat)) ++ [58]) ++ (digs u.gr.toNat))) rfl rfl, ⟨congrArg AV.str (rpr_ft hs0 hs2 hp0 (by assumption) (by assumption)), rfl⟩⟩
    · skip
      refine AWp.skip ?_
      refine AWp.seq (AWp.region ?_)
      refine AOps.read trivial rfl (by decide) (Reader.move (.inl rfl) (ok_const rfl) (v := .str (((wordOf u.sig) ++ [60]) ++ (printV u.amt.toNat))) rfl) ?_
      refine AOps.read trivial rfl (by decide) (Reader.move (.inr rfl) (ok_const rfl) (v := .str (((wordOf u.sig) ++ [60]) ++ (printV u.amt.toNat))) rfl) ?_
      refine AOps.nil ?_
      refine AWp.ret ?_
      exact ⟨.inl rfl, _, ResOf.one 2 (.str (((wordOf u.sig) ++ [60]) ++ (printV u.amt.toNat))) rfl rfl, ⟨congrArg AV.str (rpr_ff hs0 hs2 hp0 (by assumption) (by assumption)), rfl⟩⟩

set_option maxRecDepth 20000 in
theorem word_any (a : Int) (ha : a ≤ 9223372036854775807) (M : Nat → Option (List AV)) : ACall Tryd.prog 109 [.lit (.int .i64 a)] M (fun r M' => r = .lit (.int .u64 ((a.toNat : Nat) : Int)) ∧ M = M') := by
  refine ACall.of Tryd.func109 rfl (n := 6) rfl rfl rfl ?_
  refine AWp.seq (AWp.region ?_)
  refine AOps.read trivial rfl (by decide) (Reader.move (.inr rfl) (ok_const rfl) (v := .lit (.int .u64 0)) rfl) ?_
  refine AOps.nil ?_
  refine AWp.seq (AWp.region ?_)
  refine AOps.read trivial rfl (by decide) (Reader.move (.inl rfl) (ok_const rfl) (v := .lit (.int .i64 a)) rfl) ?_
  refine AOps.read trivial rfl (by decide) (Reader.maxI rfl rfl rfl rfl rfl (m := (a.toNat : Int)) (by omega)) ?_
  refine AOps.read trivial rfl (by decide) (Reader.conv rfl Tryd.underlying3 Tryd.underlying121 (by simp) rfl (c := (a.toNat : Int)) (by first | exact IntWalk.u64_in _ (by omega) | exact IntWalk.u64_in _ (by constructor <;> omega) | (simp only [];omega))) ?_
  refine AOps.read trivial rfl (by decide) (Reader.move (.inr rfl) (ok_const rfl) (v := .lit (.int .u64 (a.toNat : Int))) rfl) ?_
  refine AOps.nil ?_
  refine AWp.ret ?_
  exact ⟨.inl rfl, _, ResOf.one 2 (.lit (.int .u64 (a.toNat : Int))) rfl rfl, ⟨rfl, rfl⟩⟩

set_option maxRecDepth 20000 in
theorem nan_any (x : Nat) (M : Nat → Option (List AV)) : ACall Tryd.prog 137 [.lit (.int .u64 (x : Int))] M (fun r M' => r = .lit (.bool false) ∧ M = M') := by
  refine ACall.of Tryd.func137 rfl (n := 6) rfl rfl rfl ?_
  refine AWp.seq (AWp.region ?_)
  refine AOps.read trivial rfl (by decide) (Reader.move (.inr rfl) (ok_const rfl) (v := .lit (.bool false)) rfl) ?_
  refine AOps.nil ?_
  refine AWp.seq (AWp.region ?_)
  refine AOps.read trivial rfl (by decide) (Reader.move (.inl rfl) (ok_const rfl) (v := .lit (.int .u64 (x : Int))) rfl) ?_
  refine AOps.read trivial rfl (by decide) (Reader.move (.inl rfl) (ok_const rfl) (v := .lit (.int .u64 (x : Int))) rfl) ?_
  refine AOps.read trivial rfl (by decide) (Reader.int rfl rfl rfl (r := .bool ((x : Int) != (x : Int))) rfl) ?_
  refine AOps.read trivial rfl (by decide) (Reader.move (.inr rfl) (ok_const rfl) (v := .lit (.bool ((x : Int) != (x : Int)))) rfl) ?_
  refine AOps.nil ?_
  refine AWp.ret ?_
  exact ⟨.inl rfl, _, ResOf.one 2 (.lit (.bool ((x : Int) != (x : Int)))) rfl rfl, ⟨congrArg (fun b => AV.lit (.bool b)) (by simp), rfl⟩⟩

set_option maxRecDepth 20000 in
theorem cmpU_any (x y : Nat) (M : Nat → Option (List AV)) : ACall Tryd.prog 116 [.lit (.int .u64 (x : Int)), .lit (.int .u64 (y : Int))] M (fun r M' => r = .lit (.int .i64 (ordU x y)) ∧ M = M') := by
  refine ACall.of Tryd.func116 rfl (n := 20) rfl rfl rfl ?_
  refine AWp.seq (AWp.region ?_)
  refine AOps.read trivial rfl (by decide) (Reader.move (.inr rfl) (ok_const rfl) (v := .lit (.int .i64 0)) rfl) ?_
  refine AOps.nil ?_
  refine AWp.seq (AWp.region ?_)
  refine AOps.read trivial rfl (by decide) (Reader.move (.inl rfl) (ok_const rfl) (v := .lit (.int .u64 (x : Int))) rfl) ?_
  refine AOps.call (args := [.lit (.int .u64 (x : Int))]) trivial rfl (by decide) rfl rfl Tryd.call137 (args_ok rfl) rfl (by intro j x v hx hv; match j, hx, hv with | 0, hx, hv => cases hx; cases hv; exact .inl ⟨rfl, rfl⟩ | _ + 1, hx, hv => cases hx) (nan_any x M) ?_
  rintro _ _ ⟨rfl, rfl⟩
  refine AOps.read trivial rfl (by decide) (Reader.move (.inr rfl) (ok_const rfl) (v := .lit (.bool false)) rfl) ?_
  refine AOps.nil ?_
  refine AWp.seq (AWp.region ?_)
  refine AOps.read trivial rfl (by decide) (Reader.move (.inl rfl) (ok_const rfl) (v := .lit (.int .u64 (y : Int))) rfl) ?_
  refine AOps.call (args := [.lit (.int .u64 (y : Int))]) trivial rfl (by decide) rfl rfl Tryd.call137 (args_ok rfl) rfl (by intro j x v hx hv; match j, hx, hv with | 0, hx, hv => cases hx; cases hv; exact .inl ⟨rfl, rfl⟩ | _ + 1, hx, hv => cases hx) (nan_any y M) ?_
  rintro _ _ ⟨rfl, rfl⟩
  refine AOps.read trivial rfl (by decide) (Reader.move (.inr rfl) (ok_const rfl) (v := .lit (.bool false)) rfl) ?_
  refine AOps.nil ?_
  refine AWp.seq ?_
  refine AWp.seq (AWp.region ?_)
  refine AOps.read trivial rfl (by decide) (Reader.move (.inl rfl) (ok_const rfl) (v := .lit (.bool false)) rfl) ?_
  refine AOps.nil ?_
  refine AWp.cond (b := false) rfl (fun hx => by cases hx) (fun hx => ?_)
  refine AWp.skip ?_
  refine AWp.seq ?_
  refine AWp.seq (AWp.region ?_)
  refine AOps.read trivial rfl (by decide) (Reader.move (.inl rfl) (ok_const rfl) (v := .lit (.bool false)) rfl) ?_
  refine AOps.nil ?_
  refine AWp.cond (b := false) rfl (fun hx => by cases hx) (fun hx => ?_)
  refine AWp.skip ?_
  refine AWp.seq ?_
  refine AWp.seq (AWp.region ?_)
  refine AOps.read trivial rfl (by decide) (Reader.move (.inl rfl) (ok_const rfl) (v := .lit (.int .u64 (x : Int))) rfl) ?_
  refine AOps.read trivial rfl (by decide) (Reader.move (.inl rfl) (ok_const rfl) (v := .lit (.int .u64 (y : Int))) rfl) ?_
  refine AOps.read trivial rfl (by decide) (Reader.int rfl rfl rfl (r := .bool (decide ((x : Int) < (y : Int)))) rfl) ?_
  refine AOps.nil ?_
  refine AWp.cond (b := decide ((x : Int) < (y : Int))) rfl (fun h1 => ?_) (fun h1 => ?_)
  · skip
    have h1' : x < y := (by have hh := of_decide_eq_true h1; omega)
    clear h1
    refine AWp.seq (AWp.region ?_)
    refine AOps.read trivial rfl (by decide) (Reader.move (.inr rfl) (ok_const rfl) (v := .lit (.int .i64 (-1))) rfl) ?_
    refine AOps.nil ?_
    refine AWp.ret ?_
    exact ⟨.inl rfl, _, ResOf.one 4 (.lit (.int .i64 (-1))) rfl rfl, ⟨congrArg (fun x : Int => AV.lit (.int .i64 x)) (by unfold ordU; first | (rw [if_pos (by omega)]; done) | (rw [if_neg (by omega), if_pos (by omega)]; done) | (rw [if_neg (by omega), if_neg (by omega)]; done)), rfl⟩⟩
  · skip
    have h1' : ¬ (x < y) := (by have hh := of_decide_eq_false h1; omega)
    clear h1
    refine AWp.skip ?_
    refine AWp.seq ?_
    refine AWp.seq (AWp.region ?_)
    refine AOps.read trivial rfl (by decide) (Reader.move (.inl rfl) (ok_const rfl) (v := .lit (.int .u64 (x : Int))) rfl) ?_
    refine AOps.read trivial rfl (by decide) (Reader.move (.inl rfl) (ok_const rfl) (v := .lit (.int .u64 (y : Int))) rfl) ?_
    refine AOps.read trivial rfl (by decide) (Reader.int rfl rfl rfl (r := .bool (decide ((x : Int) > (y : Int)))) rfl) ?_
    refine AOps.nil ?_
    refine AWp.cond (b := decide ((x : Int) > (y : Int))) rfl (fun h2 => ?_) (fun h2 => ?_)
    · skip
      have h2' : x > y := (by have hh := of_decide_eq_true h2; omega)
      clear h2
      refine AWp.seq (AWp.region ?_)
      refine AOps.read trivial rfl (by decide) (Reader.move (.inr rfl) (ok_const rfl) (v := .lit (.int .i64 1)) rfl) ?_
      refine AOps.nil ?_
      refine AWp.ret ?_
      exact ⟨.inl rfl, _, ResOf.one 4 (.lit (.int .i64 1)) rfl rfl, ⟨congrArg (fun x : Int => AV.lit (.int .i64 x)) (by unfold ordU; first | (rw [if_pos (by omega)]; done) | (rw [if_neg (by omega), if_pos (by omega)]; done) | (rw [if_neg (by omega), if_neg (by omega)]; done)), rfl⟩⟩
    · skip
      have h2' : ¬ (x > y) := (by have hh := of_decide_eq_false h2; omega)
      clear h2
      refine AWp.skip ?_
      refine AWp.seq (AWp.region ?_)
      refine AOps.read trivial rfl (by decide) (Reader.move (.inr rfl) (ok_const rfl) (v := .lit (.int .i64 0)) rfl) ?_
      refine AOps.nil ?_
      refine AWp.ret ?_
      exact ⟨.inl rfl, _, ResOf.one 4 (.lit (.int .i64 0)) rfl rfl, ⟨congrArg (fun x : Int => AV.lit (.int .i64 x)) (by unfold ordU; first | (rw [if_pos (by omega)]; done) | (rw [if_neg (by omega), if_pos (by omega)]; done) | (rw [if_neg (by omega), if_neg (by omega)]; done)), rfl⟩⟩

set_option maxRecDepth 20000 in
theorem Or_any (zs : List Int) (hz : zs.length ≤ 140737488355328) (M : Nat → Option (List AV)) : ACall Tryd.prog 115 [.list false 3 (zs.map (fun x => AV.lit (.int .i64 x)))] M (fun r M' => r = .lit (.int .i64 (orL zs)) ∧ M = M') := by
  refine ACall.of Tryd.func115 rfl (n := 18) rfl rfl rfl ?_
  refine AWp.seq (AWp.region ?_)
  refine AOps.read trivial rfl (by decide) (Reader.move (.inr rfl) (ok_const rfl) (v := .lit (.int .i64 0)) rfl) ?_
  refine AOps.nil ?_
  refine AWp.seq (AWp.region ?_)
  refine AOps.read trivial rfl (by decide) (Reader.move (.inr rfl) (ok_const rfl) (v := .lit (.int .i64 0)) rfl) ?_
  refine AOps.nil ?_
  refine AWp.seq ?_
  refine AWp.seq (AWp.region ?_)
  refine AOps.read trivial rfl (by decide) (Reader.move (.inl rfl) (ok_const rfl) (v := .list false 3 (zs.map (fun x => AV.lit (.int .i64 x)))) rfl) ?_
  refine AOps.read trivial rfl (by decide) (Reader.len' (xs := zs.map (fun x => AV.lit (.int .i64 x))) rfl rfl rfl rfl Tryd.underlying156 rfl (m := zs.length) (by simp)) ?_
  refine AOps.read trivial rfl (by decide) (Reader.move (.inl rfl) (ok_const rfl) (v := .lit (.int .i64 0)) rfl) ?_
  refine AOps.nil ?_
  refine AWp.block ?_
  refine AWp.loopE [0, 3, 6, 7, 8] [] (fun m s => ∃ (i : Nat), m = zs.length - i ∧ s = ⟨[(0, .list false 3 (zs.map (fun x => AV.lit (.int .i64 x)))), (3, .lit (.int .i64 0)), (6, .list false 3 (zs.map (fun x => AV.lit (.int .i64 x)))), (7, .lit (.int .i64 (zs.length : Int))), (8, .lit (.int .i64 (i : Int)))], [], M⟩ ∧ (i ≤ zs.length) ∧ (∀ j, j < i → zs.getD j 0 = 0)) ?_ ?_
  · exact ⟨_, 0, rfl, rfl, Nat.zero_le _, fun j hj => by omega⟩
  · rintro _ _ ⟨i, rfl, rfl, hi, hno⟩
    refine AWp.seq (AWp.region ?_)
    refine AOps.read trivial rfl (by decide) (Reader.int rfl rfl rfl (r := .bool (decide ((i : Int) < (zs.length : Int)))) rfl) ?_
    refine AOps.nil ?_
    refine AWp.seq ?_
    refine AWp.cond (b := decide ((i : Int) < (zs.length : Int))) rfl (fun h1 => ?_) (fun h1 => ?_)
    · skip
      have h1' : i < zs.length := (by have hh := of_decide_eq_true h1; omega)
      clear h1
      refine AWp.skip ?_
      refine AWp.seq ?_
      refine AWp.block ?_
      refine AWp.seq (AWp.region ?_)
      refine AOps.read trivial rfl (by decide) (Reader.elemAddr (m := i) rfl Tryd.underlying156 sizeOf_3 rfl rfl rfl (e := .lit (.int .i64 (zs.getD i 0))) (ints_at (by omega))) ?_
      refine AOps.read trivial rfl (by decide) (Reader.loadE rfl Tryd.underlying3 sizeOf_3 rfl (v := .lit (.int .i64 (zs.getD i 0))) rfl rfl) ?_
      refine AOps.read trivial rfl (by decide) (Reader.move (.inr rfl) (ok_const rfl) (v := .lit (.int .i64 (zs.getD i 0))) rfl) ?_
      refine AOps.nil ?_
      refine AWp.seq (AWp.region ?_)
      refine AOps.read trivial rfl (by decide) (Reader.move (.inl rfl) (ok_const rfl) (v := .lit (.int .i64 (zs.getD i 0))) rfl) ?_
      refine AOps.read trivial rfl (by decide) (Reader.move (.inl rfl) (ok_const rfl) (v := .lit (.int .i64 0)) rfl) ?_
      refine AOps.read trivial rfl (by decide) (Reader.int rfl rfl rfl (r := .bool ((zs.getD i 0) != 0)) rfl) ?_
      refine AOps.nil ?_
      refine AWp.cond (b := (zs.getD i 0) != 0) rfl (fun h2 => ?_) (fun h2 => ?_)
      · skip
        have h2' : (zs.getD i 0) ≠ 0 := (by have hh := bne_iff_ne.1 h2; omega)
        clear h2
        refine AWp.seq (AWp.region ?_)
        refine AOps.read trivial rfl (by decide) (Reader.move (.inl rfl) (ok_const rfl) (v := .lit (.int .i64 (zs.getD i 0))) rfl) ?_
        refine AOps.read trivial rfl (by decide) (Reader.move (.inr rfl) (ok_const rfl) (v := .lit (.int .i64 (zs.getD i 0))) rfl) ?_
        refine AOps.nil ?_
        refine AWp.ret ?_
        exact ⟨.inl rfl, _, ResOf.one 2 (.lit (.int .i64 (zs.getD i 0))) rfl rfl, ⟨congrArg (fun x : Int => AV.lit (.int .i64 x)) ((or_some (by omega) hno (by assumption)).symm), rfl⟩⟩
      · skip
        have h2' : ¬ ((zs.getD i 0) ≠ 0) := (by have hh := bne_eq_false_iff_eq.1 h2; omega)
        clear h2
        refine AWp.skip ?_
        refine AWp.region ?_
        refine AOps.read trivial rfl (by decide) (Reader.sum rfl rfl rfl (m := (i : Int) + 1) (c := ((i + 1 : Nat) : Int)) rfl (by first | exact IntWalk.i64_in _ (by omega) | exact IntWalk.i64_in _ (by constructor <;> omega) | (simp only [];omega))) ?_
        refine AOps.read trivial rfl (by decide) (Reader.move (.inl rfl) (ok_const rfl) (v := .lit (.int .i64 ((i + 1 : Nat) : Int))) rfl) ?_
        refine AOps.nil ?_
        exact ⟨_, by omega, i + 1, rfl, rfl, by omega, nx_0 hno (by omega)⟩
    · skip
      have h1' : ¬ (i < zs.length) := (by have hh := of_decide_eq_false h1; omega)
      clear h1
      refine AWp.exit ?_
      refine AWp.seq (AWp.region ?_)
      refine AOps.read trivial rfl (by decide) (Reader.move (.inl rfl) (ok_const rfl) (v := .lit (.int .i64 0)) rfl) ?_
      refine AOps.read trivial rfl (by decide) (Reader.move (.inr rfl) (ok_const rfl) (v := .lit (.int .i64 0)) rfl) ?_
      refine AOps.nil ?_
      refine AWp.ret ?_
      exact ⟨.inl rfl, _, ResOf.one 2 (.lit (.int .i64 0)) rfl rfl, ⟨congrArg (fun x : Int => AV.lit (.int .i64 x)) ((or_none hno (by omega)).symm), rfl⟩⟩

set_option maxRecDepth 20000 in
theorem wcmp_any (a b c d : Int) (ha : a ≤ 9223372036854775807) (hb : b ≤ 9223372036854775807) (hc : c ≤ 9223372036854775807) (hd : d ≤ 9223372036854775807) (M : Nat → Option (List AV)) : ACall Tryd.prog 93 [.lit (.int .i64 a), .lit (.int .i64 b), .lit (.int .i64 c), .lit (.int .i64 d)] M (fun r M' => r = .lit (.int .i64 (ordU (a.toNat * b.toNat) (c.toNat * d.toNat))) ∧ M = M') := by
  refine ACall.of Tryd.func93 rfl (n := 37) rfl rfl rfl ?_
  refine AWp.seq (AWp.region ?_)
  refine AOps.read trivial rfl (by decide) (Reader.move (.inr rfl) (ok_const rfl) (v := .lit (.int .i64 0)) rfl) ?_
  refine AOps.nil ?_
  refine AWp.seq (AWp.region ?_)
  refine AOps.read trivial rfl (by decide) (Reader.move (.inl rfl) (ok_const rfl) (v := .lit (.int .i64 a)) rfl) ?_
  refine AOps.call (args := [.lit (.int .i64 a)]) trivial rfl (by decide) rfl rfl Tryd.call109 (args_ok rfl) rfl (by intro j x v hx hv; match j, hx, hv with | 0, hx, hv => cases hx; cases hv; exact .inl ⟨rfl, rfl⟩ | _ + 1, hx, hv => cases hx) (word_any a (by omega) M) ?_
  rintro _ _ ⟨rfl, rfl⟩
  refine AOps.read trivial rfl (by decide) (Reader.move (.inl rfl) (ok_const rfl) (v := .lit (.int .i64 b)) rfl) ?_
  refine AOps.call (args := [.lit (.int .i64 b)]) trivial rfl (by decide) rfl rfl Tryd.call109 (args_ok rfl) rfl (by intro j x v hx hv; match j, hx, hv with | 0, hx, hv => cases hx; cases hv; exact .inl ⟨rfl, rfl⟩ | _ + 1, hx, hv => cases hx) (word_any b (by omega) M) ?_
  rintro _ _ ⟨rfl, rfl⟩
  refine AOps.call (args := [.lit (.int .u64 (a.toNat : Int)), .lit (.int .u64 (b.toNat : Int))]) trivial rfl (by decide) rfl rfl Tryd.call108 (args_ok rfl) rfl (by intro j x v hx hv; match j, hx, hv with | 0, hx, hv => cases hx; cases hv; exact .inl ⟨rfl, rfl⟩ | 1, hx, hv => cases hx; cases hv; exact .inl ⟨rfl, rfl⟩ | _ + 2, hx, hv => cases hx) (mul_any a.toNat b.toNat (by omega) (by omega) M) ?_
  rintro _ _ ⟨rfl, rfl⟩
  refine AOps.read trivial rfl (by decide) (Reader.move (.inl rfl) (ok_const rfl) (v := .tuple [.lit (.int .u64 ((a.toNat * b.toNat / 18446744073709551616 : Nat) : Int)), .lit (.int .u64 ((a.toNat * b.toNat % 18446744073709551616 : Nat) : Int))]) rfl) ?_
  refine AOps.read trivial rfl (by decide) (Reader.extract (v := .lit (.int .u64 ((a.toNat * b.toNat / 18446744073709551616 : Nat) : Int))) rfl rfl rfl rfl) ?_
  refine AOps.read trivial rfl (by decide) (Reader.extract (v := .lit (.int .u64 ((a.toNat * b.toNat % 18446744073709551616 : Nat) : Int))) rfl rfl rfl rfl) ?_
  refine AOps.read trivial rfl (by decide) (Reader.move (.inr rfl) (ok_const rfl) (v := .lit (.int .u64 ((a.toNat * b.toNat / 18446744073709551616 : Nat) : Int))) rfl) ?_
  refine AOps.read trivial rfl (by decide) (Reader.move (.inr rfl) (ok_const rfl) (v := .lit (.int .u64 ((a.toNat * b.toNat % 18446744073709551616 : Nat) : Int))) rfl) ?_
  refine AOps.nil ?_
  refine AWp.seq (AWp.region ?_)
  refine AOps.read trivial rfl (by decide) (Reader.move (.inl rfl) (ok_const rfl) (v := .lit (.int .i64 c)) rfl) ?_
  refine AOps.call (args := [.lit (.int .i64 c)]) trivial rfl (by decide) rfl rfl Tryd.call109 (args_ok rfl) rfl (by intro j x v hx hv; match j, hx, hv with | 0, hx, hv => cases hx; cases hv; exact .inl ⟨rfl, rfl⟩ | _ + 1, hx, hv => cases hx) (word_any c (by omega) M) ?_
  rintro _ _ ⟨rfl, rfl⟩
  refine AOps.read trivial rfl (by decide) (Reader.move (.inl rfl) (ok_const rfl) (v := .lit (.int .i64 d)) rfl) ?_
  refine AOps.call (args := [.lit (.int .i64 d)]) trivial rfl (by decide) rfl rfl Tryd.call109 (args_ok rfl) rfl (by intro j x v hx hv; match j, hx, hv with | 0, hx, hv => cases hx; cases hv; exact .inl ⟨rfl, rfl⟩ | _ + 1, hx, hv => cases hx) (word_any d (by omega) M) ?_
  rintro _ _ ⟨rfl, rfl⟩
  refine AOps.call (args := [.lit (.int .u64 (c.toNat : Int)), .lit (.int .u64 (d.toNat : Int))]) trivial rfl (by decide) rfl rfl Tryd.call108 (args_ok rfl) rfl (by intro j x v hx hv; match j, hx, hv with | 0, hx, hv => cases hx; cases hv; exact .inl ⟨rfl, rfl⟩ | 1, hx, hv => cases hx; cases hv; exact .inl ⟨rfl, rfl⟩ | _ + 2, hx, hv => cases hx) (mul_any c.toNat d.toNat (by omega) (by omega) M) ?_
  rintro _ _ ⟨rfl, rfl⟩
  refine AOps.read trivial rfl (by decide) (Reader.move (.inl rfl) (ok_const rfl) (v := .tuple [.lit (.int .u64 ((c.toNat * d.toNat / 18446744073709551616 : Nat) : Int)), .lit (.int .u64 ((c.toNat * d.toNat % 18446744073709551616 : Nat) : Int))]) rfl) ?_
  refine AOps.read trivial rfl (by decide) (Reader.extract (v := .lit (.int .u64 ((c.toNat * d.toNat / 18446744073709551616 : Nat) : Int))) rfl rfl rfl rfl) ?_
  refine AOps.read trivial rfl (by decide) (Reader.extract (v := .lit (.int .u64 ((c.toNat * d.toNat % 18446744073709551616 : Nat) : Int))) rfl rfl rfl rfl) ?_
  refine AOps.read trivial rfl (by decide) (Reader.move (.inr rfl) (ok_const rfl) (v := .lit (.int .u64 ((c.toNat * d.toNat / 18446744073709551616 : Nat) : Int))) rfl) ?_
  refine AOps.read trivial rfl (by decide) (Reader.move (.inr rfl) (ok_const rfl) (v := .lit (.int .u64 ((c.toNat * d.toNat % 18446744073709551616 : Nat) : Int))) rfl) ?_
  refine AOps.nil ?_
  refine AWp.seq (AWp.region ?_)
  refine AOps.read trivial rfl (by decide) (Reader.move (.inl rfl) (ok_const rfl) (v := .lit (.int .u64 ((a.toNat * b.toNat / 18446744073709551616 : Nat) : Int))) rfl) ?_
  refine AOps.read trivial rfl (by decide) (Reader.move (.inl rfl) (ok_const rfl) (v := .lit (.int .u64 ((c.toNat * d.toNat / 18446744073709551616 : Nat) : Int))) rfl) ?_
  refine AOps.call (args := [.lit (.int .u64 ((a.toNat * b.toNat / 18446744073709551616 : Nat) : Int)), .lit (.int .u64 ((c.toNat * d.toNat / 18446744073709551616 : Nat) : Int))]) trivial rfl (by decide) rfl rfl Tryd.call116 (args_ok rfl) rfl (by intro j x v hx hv; match j, hx, hv with | 0, hx, hv => cases hx; cases hv; exact .inl ⟨rfl, rfl⟩ | 1, hx, hv => cases hx; cases hv; exact .inl ⟨rfl, rfl⟩ | _ + 2, hx, hv => cases hx) (cmpU_any (a.toNat * b.toNat / 18446744073709551616) (c.toNat * d.toNat / 18446744073709551616) M) ?_
  rintro _ _ ⟨rfl, rfl⟩
  refine AOps.read trivial rfl (by decide) (Reader.move (.inl rfl) (ok_const rfl) (v := .lit (.int .u64 ((a.toNat * b.toNat % 18446744073709551616 : Nat) : Int))) rfl) ?_
  refine AOps.read trivial rfl (by decide) (Reader.move (.inl rfl) (ok_const rfl) (v := .lit (.int .u64 ((c.toNat * d.toNat % 18446744073709551616 : Nat) : Int))) rfl) ?_
  refine AOps.call (args := [.lit (.int .u64 ((a.toNat * b.toNat % 18446744073709551616 : Nat) : Int)), .lit (.int .u64 ((c.toNat * d.toNat % 18446744073709551616 : Nat) : Int))]) trivial rfl (by decide) rfl rfl Tryd.call116 (args_ok rfl) rfl (by intro j x v hx hv; match j, hx, hv with | 0, hx, hv => cases hx; cases hv; exact .inl ⟨rfl, rfl⟩ | 1, hx, hv => cases hx; cases hv; exact .inl ⟨rfl, rfl⟩ | _ + 2, hx, hv => cases hx) (cmpU_any (a.toNat * b.toNat % 18446744073709551616) (c.toNat * d.toNat % 18446744073709551616) M) ?_
  rintro _ _ ⟨rfl, rfl⟩
  refine AOps.buildSlice (ys := [(0, .lit (.int .i64 (ordU (a.toNat * b.toNat / 18446744073709551616) (c.toNat * d.toNat / 18446744073709551616)))), (1, .lit (.int .i64 (ordU (a.toNat * b.toNat % 18446744073709551616) (c.toNat * d.toNat % 18446744073709551616))))]) (Es := []) (cs := [.lit (.int .i64 (ordU (a.toNat * b.toNat / 18446744073709551616) (c.toNat * d.toNat / 18446744073709551616))), .lit (.int .i64 (ordU (a.toNat * b.toNat % 18446744073709551616) (c.toNat * d.toNat % 18446744073709551616)))]) (xs := [.lit (.int .i64 (ordU (a.toNat * b.toNat / 18446744073709551616) (c.toNat * d.toNat / 18446744073709551616))), .lit (.int .i64 (ordU (a.toNat * b.toNat % 18446744073709551616) (c.toNat * d.toNat % 18446744073709551616)))]) trivial rfl (by decide) rfl Tryd.underlying156 Tryd.i3 rfl rfl rfl (by decide) (by refine ⟨rfl, fun j p x hp hx => ?_⟩; match j, hp, hx with | 0, hp, hx => cases hp; cases hx; exact ⟨rfl, .inl ⟨rfl, rfl⟩, rfl, rfl⟩ | 1, hp, hx => cases hp; cases hx; exact ⟨rfl, .inl ⟨rfl, rfl⟩, rfl, rfl⟩ | _ + 2, hp, hx => cases hp) rfl rfl rfl (all_len rfl) (all_sc rfl) rfl ?_
  refine AOps.call (args := [.list false 3 ([ordU (a.toNat * b.toNat / 18446744073709551616) (c.toNat * d.toNat / 18446744073709551616), ordU (a.toNat * b.toNat % 18446744073709551616) (c.toNat * d.toNat % 18446744073709551616)].map (fun x => AV.lit (.int .i64 x)))]) trivial rfl (by decide) rfl rfl Tryd.call115 (args_ok rfl) rfl (by intro j x v hx hv; match j, hx, hv with | 0, hx, hv => cases hx; cases hv; exact .inl ⟨rfl, rfl⟩ | _ + 1, hx, hv => cases hx) (Or_any [ordU (a.toNat * b.toNat / 18446744073709551616) (c.toNat * d.toNat / 18446744073709551616), ordU (a.toNat * b.toNat % 18446744073709551616) (c.toNat * d.toNat % 18446744073709551616)] (by show 2 ≤ _; decide) M) ?_
  rintro _ _ ⟨rfl, rfl⟩
  refine AOps.read trivial rfl (by decide) (Reader.move (.inr rfl) (ok_const rfl) (v := .lit (.int .i64 (orL [ordU (a.toNat * b.toNat / 18446744073709551616) (c.toNat * d.toNat / 18446744073709551616), ordU (a.toNat * b.toNat % 18446744073709551616) (c.toNat * d.toNat % 18446744073709551616)]))) rfl) ?_
  refine AOps.nil ?_
  refine AWp.ret ?_
  exact ⟨.inl rfl, _, ResOf.one 8 (.lit (.int .i64 (orL [ordU (a.toNat * b.toNat / 18446744073709551616) (c.toNat * d.toNat / 18446744073709551616), ordU (a.toNat * b.toNat % 18446744073709551616) (c.toNat * d.toNat % 18446744073709551616)]))) rfl rfl, ⟨congrArg (fun x : Int => AV.lit (.int .i64 x)) (or_words _ _), rfl⟩⟩

set_option maxRecDepth 20000 in
theorem below_any (a c p : Int) (ha : a ≤ 9223372036854775807) (hc : c ≤ 9223372036854775807) (hp : p ≤ 9223372036854775807) (M : Nat → Option (List AV)) : ACall Tryd.prog 70 [.lit (.int .i64 a), .lit (.int .i64 c), .lit (.int .i64 p)] M (fun r M' => r = .lit (.bool (decide (ordU (a.toNat * 100) (c.toNat * p.toNat) < 0))) ∧ M = M') := by
  refine ACall.of Tryd.func70 rfl (n := 12) rfl rfl rfl ?_
  refine AWp.seq (AWp.region ?_)
  refine AOps.read trivial rfl (by decide) (Reader.move (.inr rfl) (ok_const rfl) (v := .lit (.bool false)) rfl) ?_
  refine AOps.nil ?_
  refine AWp.seq (AWp.region ?_)
  refine AOps.read trivial rfl (by decide) (Reader.move (.inl rfl) (ok_const rfl) (v := .lit (.int .i64 a)) rfl) ?_
  refine AOps.read trivial rfl (by decide) (Reader.move (.inl rfl) (ok_const rfl) (v := .lit (.int .i64 c)) rfl) ?_
  refine AOps.read trivial rfl (by decide) (Reader.move (.inl rfl) (ok_const rfl) (v := .lit (.int .i64 p)) rfl) ?_
  refine AOps.call (args := [.lit (.int .i64 a), .lit (.int .i64 100), .lit (.int .i64 c), .lit (.int .i64 p)]) trivial rfl (by decide) rfl rfl Tryd.call93 (args_ok rfl) rfl (by intro j x v hx hv; match j, hx, hv with | 0, hx, hv => cases hx; cases hv; exact .inl ⟨rfl, rfl⟩ | 1, hx, hv => cases hx; cases hv; exact .inl ⟨rfl, rfl⟩ | 2, hx, hv => cases hx; cases hv; exact .inl ⟨rfl, rfl⟩ | 3, hx, hv => cases hx; cases hv; exact .inl ⟨rfl, rfl⟩ | _ + 4, hx, hv => cases hx) (wcmp_any a 100 c p (by omega) (by omega) (by omega) (by omega) M) ?_
  rintro _ _ ⟨rfl, rfl⟩
  refine AOps.read trivial rfl (by decide) (Reader.int rfl rfl rfl (r := .bool (decide (ordU (Int.toNat a * Int.toNat 100) (Int.toNat c * Int.toNat p) < 0))) rfl) ?_
  refine AOps.read trivial rfl (by decide) (Reader.move (.inr rfl) (ok_const rfl) (v := .lit (.bool (decide (ordU (Int.toNat a * Int.toNat 100) (Int.toNat c * Int.toNat p) < 0)))) rfl) ?_
  refine AOps.nil ?_
  refine AWp.ret ?_
  exact ⟨.inl rfl, _, ResOf.one 6 (.lit (.bool (decide (ordU (Int.toNat a * Int.toNat 100) (Int.toNat c * Int.toNat p) < 0)))) rfl rfl, ⟨rfl, rfl⟩⟩

set_option maxRecDepth 20000 in
theorem Met_any (u : Thr) (c a : Int) (hc : c ≤ 9223372036854775807) (ha : a ≤ 9223372036854775807) (hp : u.pct ≤ 9223372036854775807) (M : Nat → Option (List AV)) : ACall Tryd.prog 40 [encT u, .lit (.int .i64 c), .lit (.int .i64 a)] M (fun r M' => r = .lit (.bool (metB u c a)) ∧ M = M') := by
  refine ACall.of Tryd.func40 rfl (n := 19) rfl rfl rfl ?_
  refine AWp.seq (AWp.region ?_)
  refine AOps.box trivial rfl (by decide) rfl (noL rfl) rfl (v := encT u) (.inl ⟨rfl, rfl⟩) rfl rfl (all_flat rfl) ?_
  refine AOps.read trivial rfl (by decide) (Reader.move (.inr rfl) (ok_const rfl) (v := .lit (.bool false)) rfl) ?_
  refine AOps.nil ?_
  refine AWp.seq ?_
  refine AWp.seq (AWp.region ?_)
  refine AOps.read trivial rfl (by decide) (Reader.fieldL rfl ⟨_, _, Tryd.underlying65, rfl, rfl, rfl, sizeOf_3⟩ (by decide) rfl) ?_
  refine AOps.read trivial rfl (by decide) (Reader.loadL rfl Tryd.underlying3 sizeOf_3 rfl rfl (v := .lit (.int .i64 u.pct)) rfl rfl) ?_
  refine AOps.read trivial rfl (by decide) (Reader.int rfl rfl rfl (r := .bool (decide (u.pct > 0))) rfl) ?_
  refine AOps.nil ?_
  refine AWp.cond (b := decide (u.pct > 0)) rfl (fun h1 => ?_) (fun h1 => ?_)
  · skip
    have h1' : u.pct > 0 := (by have hh := of_decide_eq_true h1; omega)
    clear h1
    refine AWp.seq (AWp.region ?_)
    refine AOps.read trivial rfl (by decide) (Reader.move (.inl rfl) (ok_const rfl) (v := .lit (.int .i64 a)) rfl) ?_
    refine AOps.read trivial rfl (by decide) (Reader.move (.inl rfl) (ok_const rfl) (v := .lit (.int .i64 c)) rfl) ?_
    refine AOps.read trivial rfl (by decide) (Reader.fieldL rfl ⟨_, _, Tryd.underlying65, rfl, rfl, rfl, sizeOf_3⟩ (by decide) rfl) ?_
    refine AOps.read trivial rfl (by decide) (Reader.loadL rfl Tryd.underlying3 sizeOf_3 rfl rfl (v := .lit (.int .i64 u.pct)) rfl rfl) ?_
    refine AOps.call (args := [.lit (.int .i64 a), .lit (.int .i64 c), .lit (.int .i64 u.pct)]) trivial rfl (by decide) rfl rfl Tryd.call70 (args_ok rfl) rfl (by intro j x v hx hv; match j, hx, hv with | 0, hx, hv => cases hx; cases hv; exact .inl ⟨rfl, rfl⟩ | 1, hx, hv => cases hx; cases hv; exact .inl ⟨rfl, rfl⟩ | 2, hx, hv => cases hx; cases hv; exact .inl ⟨rfl, rfl⟩ | _ + 3, hx, hv => cases hx) (below_any a c u.pct (by omega) (by omega) (by omega) M) ?_
    rintro _ _ ⟨rfl, rfl⟩
    refine AOps.read trivial rfl (by decide) (Reader.move (.inr rfl) (ok_const rfl) (v := .lit (.bool (decide (ordU (Int.toNat a * 100) (Int.toNat c * Int.toNat u.pct) < 0)))) rfl) ?_
    refine AOps.nil ?_
    refine AWp.ret ?_
    exact ⟨.inl rfl, _, ResOf.one 6 (.lit (.bool (decide (ordU (Int.toNat a * 100) (Int.toNat c * Int.toNat u.pct) < 0)))) rfl rfl, ⟨congrArg (fun b => AV.lit (.bool b)) (by unfold metB; first | (rw [if_pos (by assumption)]; done) | (rw [if_neg (by assumption)]; done)), rfl⟩⟩
  · skip
    have h1' : ¬ (u.pct > 0) := (by have hh := of_decide_eq_false h1; omega)
    clear h1
    refine AWp.skip ?_
    refine AWp.seq (AWp.region ?_)
    refine AOps.read trivial rfl (by decide) (Reader.move (.inl rfl) (ok_const rfl) (v := .lit (.int .i64 a)) rfl) ?_
    refine AOps.read trivial rfl (by decide) (Reader.fieldL rfl ⟨_, _, Tryd.underlying65, rfl, rfl, rfl, sizeOf_3⟩ (by decide) rfl) ?_
    refine AOps.read trivial rfl (by decide) (Reader.loadL rfl Tryd.underlying3 sizeOf_3 rfl rfl (v := .lit (.int .i64 u.amt)) rfl rfl) ?_
    refine AOps.read trivial rfl (by decide) (Reader.int rfl rfl rfl (r := .bool (decide (a < u.amt))) rfl) ?_
    refine AOps.read trivial rfl (by decide) (Reader.move (.inr rfl) (ok_const rfl) (v := .lit (.bool (decide (a < u.amt)))) rfl) ?_
    refine AOps.nil ?_
    refine AWp.ret ?_
    exact ⟨.inl rfl, _, ResOf.one 6 (.lit (.bool (decide (a < u.amt)))) rfl rfl, ⟨congrArg (fun b => AV.lit (.bool b)) (by unfold metB; first | (rw [if_pos (by assumption)]; done) | (rw [if_neg (by assumption)]; done)), rfl⟩⟩

set_option maxRecDepth 20000 in
theorem div_c  (M : Nat → Option (List AV)) : ACall Tryd.prog 110 [.lit (.int .u64 0), .lit (.int .u64 1000), .lit (.int .u64 100)] M (fun r M' => r = .tuple [.lit (.int .u64 10), .lit (.int .u64 0)] ∧ M = M') := by
  refine ACall.of Tryd.func110 rfl (n := 135) rfl rfl rfl ?_
  refine AWp.seq (AWp.region ?_)
  refine AOps.read trivial rfl (by decide) (Reader.move (.inr rfl) (ok_const rfl) (v := .lit (.int .u64 0)) rfl) ?_
  refine AOps.read trivial rfl (by decide) (Reader.move (.inr rfl) (ok_const rfl) (v := .lit (.int .u64 0)) rfl) ?_
  refine AOps.nil ?_
  refine AWp.seq ?_
  refine AWp.seq (AWp.region ?_)
  refine AOps.read trivial rfl (by decide) (Reader.move (.inl rfl) (ok_const rfl) (v := .lit (.int .u64 100)) rfl) ?_
  refine AOps.read trivial rfl (by decide) (Reader.int rfl rfl rfl (r := .bool false) rfl) ?_
  refine AOps.nil ?_
  refine AWp.cond (b := false) rfl (fun hx => by cases hx) (fun hx => ?_)
  refine AWp.skip ?_
  refine AWp.seq ?_
  refine AWp.seq (AWp.region ?_)
  refine AOps.read trivial rfl (by decide) (Reader.move (.inl rfl) (ok_const rfl) (v := .lit (.int .u64 100)) rfl) ?_
  refine AOps.read trivial rfl (by decide) (Reader.move (.inl rfl) (ok_const rfl) (v := .lit (.int .u64 0)) rfl) ?_
  refine AOps.read trivial rfl (by decide) (Reader.int rfl rfl rfl (r := .bool false) rfl) ?_
  refine AOps.nil ?_
  refine AWp.cond (b := false) rfl (fun hx => by cases hx) (fun hx => ?_)
  refine AWp.skip ?_
  refine AWp.seq ?_
  refine AWp.seq (AWp.region ?_)
  refine AOps.read trivial rfl (by decide) (Reader.move (.inl rfl) (ok_const rfl) (v := .lit (.int .u64 0)) rfl) ?_
  refine AOps.read trivial rfl (by decide) (Reader.int rfl rfl rfl (r := .bool true) rfl) ?_
  refine AOps.nil ?_
  refine AWp.cond (b := true) rfl (fun hx => ?_) (fun hx => by cases hx)
  refine AWp.seq (AWp.drawnAll (by kernel_rfl) (by kernel_rfl) ?_)
  refine AOpsE.read trivial rfl (by decide) (Reader.move (.inl rfl) (ok_const rfl) (v := .lit (.int .u64 1000)) rfl) ?_
  refine AOpsE.read trivial rfl (by decide) (Reader.move (.inl rfl) (ok_const rfl) (v := .lit (.int .u64 100)) rfl) ?_
  refine AOpsE.read trivial rfl (by decide) (Reader.quo rfl rfl rfl (by decide) (c := 10) (by decide)) ?_
  refine AOpsE.read trivial rfl (by decide) (Reader.move (.inl rfl) (ok_const rfl) (v := .lit (.int .u64 1000)) rfl) ?_
  refine AOpsE.read trivial rfl (by decide) (Reader.move (.inl rfl) (ok_const rfl) (v := .lit (.int .u64 100)) rfl) ?_
  refine AOpsE.read trivial rfl (by decide) (Reader.rem rfl rfl rfl (by decide) (c := 0) (by decide)) ?_
  refine AOpsE.read trivial rfl (by decide) (Reader.move (.inr rfl) (ok_const rfl) (v := .lit (.int .u64 10)) rfl) ?_
  refine AOpsE.read trivial rfl (by decide) (Reader.move (.inr rfl) (ok_const rfl) (v := .lit (.int .u64 0)) rfl) ?_
  refine AOpsE.nil ?_
  refine AWp.ret ?_
  exact ⟨.inl rfl, _, ResOf.two 6 7 (.lit (.int .u64 10)) (.lit (.int .u64 0)) rfl rfl (.inl rfl) (.inl rfl) (by decide), ⟨rfl, rfl⟩⟩

set_option maxRecDepth 20000 in
theorem share_c  (M : Nat → Option (List AV)) : ACall Tryd.prog 86 [.lit (.int .i64 100), .lit (.int .i64 10)] M (fun r M' => r = .lit (.int .i64 10) ∧ M = M') := by
  refine ACall.of Tryd.func86 rfl (n := 30) rfl rfl rfl ?_
  refine AWp.seq (AWp.region ?_)
  refine AOps.read trivial rfl (by decide) (Reader.move (.inr rfl) (ok_const rfl) (v := .lit (.int .i64 0)) rfl) ?_
  refine AOps.nil ?_
  refine AWp.seq (AWp.region ?_)
  refine AOps.read trivial rfl (by decide) (Reader.move (.inl rfl) (ok_const rfl) (v := .lit (.int .i64 100)) rfl) ?_
  refine AOps.call (args := [.lit (.int .i64 100)]) trivial rfl (by decide) rfl rfl Tryd.call109 (args_ok rfl) rfl (by intro j x v hx hv; match j, hx, hv with | 0, hx, hv => cases hx; cases hv; exact .inl ⟨rfl, rfl⟩ | _ + 1, hx, hv => cases hx) (word_any 100 (by omega) M) ?_
  rintro _ _ ⟨rfl, rfl⟩
  refine AOps.read trivial rfl (by decide) (Reader.move (.inl rfl) (ok_const rfl) (v := .lit (.int .i64 10)) rfl) ?_
  refine AOps.read trivial rfl (by decide) (Reader.minI rfl rfl rfl rfl rfl (m := 10) (by omega)) ?_
  refine AOps.call (args := [.lit (.int .i64 10)]) trivial rfl (by decide) rfl rfl Tryd.call109 (args_ok rfl) rfl (by intro j x v hx hv; match j, hx, hv with | 0, hx, hv => cases hx; cases hv; exact .inl ⟨rfl, rfl⟩ | _ + 1, hx, hv => cases hx) (word_any 10 (by omega) M) ?_
  rintro _ _ ⟨rfl, rfl⟩
  refine AOps.call (args := [.lit (.int .u64 100), .lit (.int .u64 10)]) trivial rfl (by decide) rfl rfl Tryd.call108 (args_ok rfl) rfl (by intro j x v hx hv; match j, hx, hv with | 0, hx, hv => cases hx; cases hv; exact .inl ⟨rfl, rfl⟩ | 1, hx, hv => cases hx; cases hv; exact .inl ⟨rfl, rfl⟩ | _ + 2, hx, hv => cases hx) (mul_any 100 10 (by decide) (by decide) M) ?_
  rintro _ _ ⟨rfl, rfl⟩
  refine AOps.read trivial rfl (by decide) (Reader.move (.inl rfl) (ok_const rfl) (v := .tuple [.lit (.int .u64 0), .lit (.int .u64 1000)]) rfl) ?_
  refine AOps.read trivial rfl (by decide) (Reader.extract (v := .lit (.int .u64 0)) rfl rfl rfl rfl) ?_
  refine AOps.read trivial rfl (by decide) (Reader.extract (v := .lit (.int .u64 1000)) rfl rfl rfl rfl) ?_
  refine AOps.read trivial rfl (by decide) (Reader.move (.inr rfl) (ok_const rfl) (v := .lit (.int .u64 0)) rfl) ?_
  refine AOps.read trivial rfl (by decide) (Reader.move (.inr rfl) (ok_const rfl) (v := .lit (.int .u64 1000)) rfl) ?_
  refine AOps.nil ?_
  refine AWp.seq (AWp.region ?_)
  refine AOps.read trivial rfl (by decide) (Reader.move (.inl rfl) (ok_const rfl) (v := .lit (.int .u64 0)) rfl) ?_
  refine AOps.read trivial rfl (by decide) (Reader.move (.inl rfl) (ok_const rfl) (v := .lit (.int .u64 1000)) rfl) ?_
  refine AOps.call (args := [.lit (.int .u64 0), .lit (.int .u64 1000), .lit (.int .u64 100)]) trivial rfl (by decide) rfl rfl Tryd.call110 (args_ok rfl) rfl (by intro j x v hx hv; match j, hx, hv with | 0, hx, hv => cases hx; cases hv; exact .inl ⟨rfl, rfl⟩ | 1, hx, hv => cases hx; cases hv; exact .inl ⟨rfl, rfl⟩ | 2, hx, hv => cases hx; cases hv; exact .inl ⟨rfl, rfl⟩ | _ + 3, hx, hv => cases hx) (div_c M) ?_
  rintro _ _ ⟨rfl, rfl⟩
  refine AOps.read trivial rfl (by decide) (Reader.move (.inl rfl) (ok_const rfl) (v := .tuple [.lit (.int .u64 10), .lit (.int .u64 0)]) rfl) ?_
  refine AOps.read trivial rfl (by decide) (Reader.extract (v := .lit (.int .u64 10)) rfl rfl rfl rfl) ?_
  refine AOps.read trivial rfl (by decide) (Reader.extract (v := .lit (.int .u64 0)) rfl rfl rfl rfl) ?_
  refine AOps.read trivial rfl (by decide) (Reader.move (.inr rfl) (ok_const rfl) (v := .lit (.int .u64 10)) rfl) ?_
  refine AOps.read trivial rfl (by decide) (Reader.move (.inr rfl) (ok_const rfl) (v := .lit (.int .u64 0)) rfl) ?_
  refine AOps.nil ?_
  refine AWp.seq ?_
  refine AWp.seq (AWp.region ?_)
  refine AOps.read trivial rfl (by decide) (Reader.move (.inl rfl) (ok_const rfl) (v := .lit (.int .u64 0)) rfl) ?_
  refine AOps.read trivial rfl (by decide) (Reader.int rfl rfl rfl (r := .bool false) rfl) ?_
  refine AOps.nil ?_
  refine AWp.cond (b := false) rfl (fun hx => by cases hx) (fun hx => ?_)
  refine AWp.skip ?_
  refine AWp.seq (AWp.region ?_)
  refine AOps.read trivial rfl (by decide) (Reader.move (.inl rfl) (ok_const rfl) (v := .lit (.int .u64 10)) rfl) ?_
  refine AOps.read trivial rfl (by decide) (Reader.conv rfl Tryd.underlying121 Tryd.underlying3 (by simp) rfl (c := 10) (by first | exact IntWalk.i64_in _ (by omega) | exact IntWalk.i64_in _ (by constructor <;> omega) | (simp only [];omega))) ?_
  refine AOps.read trivial rfl (by decide) (Reader.move (.inr rfl) (ok_const rfl) (v := .lit (.int .i64 10)) rfl) ?_
  refine AOps.nil ?_
  refine AWp.ret ?_
  exact ⟨.inl rfl, _, ResOf.one 4 (.lit (.int .i64 10)) rfl rfl, ⟨rfl, rfl⟩⟩

set_option maxRecDepth 20000 in
theorem edge_c  (M : Nat → Option (List AV)) : ACall Tryd.prog 61 [.agg [.lit (.int .i64 0), .lit (.int .i64 10), .lit (.int .i64 0), .lit (.bool true), .lit (.int .i64 5)], .lit (.int .i64 100)] M (fun r M' => r = .lit (.int .i64 10) ∧ M = M') := by
  refine ACall.of Tryd.func61 rfl (n := 14) rfl rfl rfl ?_
  refine AWp.seq (AWp.region ?_)
  refine AOps.box trivial rfl (by decide) rfl (noL rfl) rfl (v := .agg [.lit (.int .i64 0), .lit (.int .i64 10), .lit (.int .i64 0), .lit (.bool true), .lit (.int .i64 5)]) (.inl ⟨rfl, rfl⟩) rfl rfl (all_flat rfl) ?_
  refine AOps.read trivial rfl (by decide) (Reader.move (.inr rfl) (ok_const rfl) (v := .lit (.int .i64 0)) rfl) ?_
  refine AOps.nil ?_
  refine AWp.seq ?_
  refine AWp.seq (AWp.region ?_)
  refine AOps.read trivial rfl (by decide) (Reader.fieldL rfl ⟨_, _, Tryd.underlying65, rfl, rfl, rfl, sizeOf_3⟩ (by decide) rfl) ?_
  refine AOps.read trivial rfl (by decide) (Reader.loadL rfl Tryd.underlying3 sizeOf_3 rfl rfl (v := .lit (.int .i64 10)) rfl rfl) ?_
  refine AOps.read trivial rfl (by decide) (Reader.int rfl rfl rfl (r := .bool true) rfl) ?_
  refine AOps.nil ?_
  refine AWp.cond (b := true) rfl (fun hx => ?_) (fun hx => by cases hx)
  refine AWp.seq (AWp.region ?_)
  refine AOps.read trivial rfl (by decide) (Reader.move (.inl rfl) (ok_const rfl) (v := .lit (.int .i64 100)) rfl) ?_
  refine AOps.read trivial rfl (by decide) (Reader.fieldL rfl ⟨_, _, Tryd.underlying65, rfl, rfl, rfl, sizeOf_3⟩ (by decide) rfl) ?_
  refine AOps.read trivial rfl (by decide) (Reader.loadL rfl Tryd.underlying3 sizeOf_3 rfl rfl (v := .lit (.int .i64 10)) rfl rfl) ?_
  refine AOps.call (args := [.lit (.int .i64 100), .lit (.int .i64 10)]) trivial rfl (by decide) rfl rfl Tryd.call86 (args_ok rfl) rfl (by intro j x v hx hv; match j, hx, hv with | 0, hx, hv => cases hx; cases hv; exact .inl ⟨rfl, rfl⟩ | 1, hx, hv => cases hx; cases hv; exact .inl ⟨rfl, rfl⟩ | _ + 2, hx, hv => cases hx) (share_c M) ?_
  rintro _ _ ⟨rfl, rfl⟩
  refine AOps.read trivial rfl (by decide) (Reader.move (.inr rfl) (ok_const rfl) (v := .lit (.int .i64 10)) rfl) ?_
  refine AOps.nil ?_
  refine AWp.ret ?_
  exact ⟨.inl rfl, _, ResOf.one 4 (.lit (.int .i64 10)) rfl rfl, ⟨rfl, rfl⟩⟩

end Go.Proofs.YtlpihekflkjkfaaDoor
