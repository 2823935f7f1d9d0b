/- Th5, Bld, BldW, BldS, LexP, LexP2, LexP3, LexM, LexM2, CfP, CfQ, CfO, Lex1, Lex2, Lex3, Lex4. -/
import Derived.Test.YtmmfkpbkacfegaaGreatDoorM5
import Derived.Test.YtmmfkpbkacfegaaGreatDoorM3
import Derived.Test.YtmmfkpbkacfegaaGreatDoorM2
import Derived.Test.YtmmfkpbkacfegaaGreatDoorProg
import Derived.Shelf.RegionOpenPlain
import Derived.Lib.UnsafeStr
import Derived.Lib.Builder
import Derived.Lib.Walk
import Derived.WalkKit
import Derived.Deep.MidRow
import Derived.Lib.Split
namespace Go.Proofs.YtmmfkpbkacfegaaGreatDoor
section
open Go.RowKit

theorem sigw_len (k : Nat) : (sigL.getD k []).length ≤ 6 := by
  match k with
  | 0 | 1 | 2 => decide
  | k + 3 => exact Nat.zero_le _
theorem sigw_word {i : Int} (h0 : 0 ≤ i) (h2 : i ≤ 2) : sigL.getD i.toNat [] = wordOf i := by
  have : i = 0 ∨ i = 1 ∨ i = 2 := by omega
  rcases this with rfl | rfl | rfl <;> rfl
theorem itoa_len (n : Int) (h0 : 0 ≤ n) (h1 : n ≤ 9223372036854775807) : (Lib.itoa n).length ≤ 19 := by
  rw [itoa_pos h0]; exact digs_len20 n.toNat (by omega)
theorem Digits_int (n : Int) (h0 : 0 ≤ n) (hn : n ≤ 9223372036854775807) (M : Nat → Option (List AV)) : ACall Tryz.prog 60 [.lit (.int .i64 n)] M (fun r M' => r = .str (digs n.toNat) ∧ M = M') := by
  obtain ⟨m, rfl⟩ := Int.eq_ofNat_of_zero_le h0
  exact Digits_any m (by omega) M
theorem rPrint_int (n : Int) (h0 : 0 ≤ n) (hn : n ≤ 9223372036854775807) (M : Nat → Option (List AV)) : ACall Tryz.prog 39 [.lit (.int .i64 n)] M (fun r M' => r = .str (printV n.toNat) ∧ M = M') := by
  obtain ⟨m, rfl⟩ := Int.eq_ofNat_of_zero_le h0
  exact rPrint_any m (by omega) M
section
variable {u : Thr}
theorem pr_tt (h0 : 0 ≤ u.sig) (h2 : u.sig ≤ 2) (hp : 0 ≤ u.pct ∧ u.pct ≤ 100 ∧ 0 ≤ u.amt ∧ 0 ≤ u.gr ∧ u.gr ≤ 1000) (h1 : u.pct > 0) (hs : u.soft = true) : ((sigL.getD u.sig.toNat [] ++ [60]) ++ (Lib.itoa u.pct ++ [37])) ++ ([58] ++ Lib.itoa u.gr) = printT u := by
  unfold printT valT; rw [sigw_word h0 h2, itoa_pos (by omega), itoa_pos (by omega), if_pos h1, hs, if_pos rfl]
theorem pr_tf (h0 : 0 ≤ u.sig) (h2 : u.sig ≤ 2) (hp : 0 ≤ u.pct ∧ u.pct ≤ 100 ∧ 0 ≤ u.amt ∧ 0 ≤ u.gr ∧ u.gr ≤ 1000) (h1 : u.pct > 0) (hs : u.soft = false) : (sigL.getD u.sig.toNat [] ++ [60]) ++ (Lib.itoa u.pct ++ [37]) = printT u := by
  unfold printT valT; rw [sigw_word h0 h2, itoa_pos (by omega), if_pos h1, hs, if_neg (by decide), List.append_nil]
theorem pr_ft (h0 : 0 ≤ u.sig) (h2 : u.sig ≤ 2) (hp : 0 ≤ u.pct ∧ u.pct ≤ 100 ∧ 0 ≤ u.amt ∧ 0 ≤ u.gr ∧ u.gr ≤ 1000) (h1 : ¬ u.pct > 0) (hs : u.soft = true) : ((sigL.getD u.sig.toNat [] ++ [60]) ++ printV u.amt.toNat) ++ ([58] ++ Lib.itoa u.gr) = printT u := by
  unfold printT valT; rw [sigw_word h0 h2, itoa_pos (by omega), if_neg h1, hs, if_pos rfl]
theorem pr_ff (h0 : 0 ≤ u.sig) (h2 : u.sig ≤ 2) (_ : 0 ≤ u.pct ∧ u.pct ≤ 100 ∧ 0 ≤ u.amt ∧ 0 ≤ u.gr ∧ u.gr ≤ 1000) (h1 : ¬ u.pct > 0) (hs : u.soft = false) : (sigL.getD u.sig.toNat [] ++ [60]) ++ printV u.amt.toNat = printT u := by
  unfold printT valT; rw [sigw_word h0 h2, if_neg h1, hs, if_neg (by decide), List.append_nil]
theorem rpr_tt (_ : 0 ≤ u.sig) (_ : u.sig ≤ 2) (_ : 0 ≤ u.pct ∧ u.pct ≤ 100 ∧ 0 ≤ u.amt ∧ 0 ≤ u.gr ∧ u.gr ≤ 1000) (h1 : u.pct > 0) (hs : u.soft = true) : ((((wordOf u.sig ++ [60]) ++ digs u.pct.toNat) ++ [37]) ++ [58]) ++ digs u.gr.toNat = printT u := by
  unfold printT valT; rw [if_pos h1, hs, if_pos rfl]; simp only [List.append_assoc]
theorem rpr_tf (_ : 0 ≤ u.sig) (_ : u.sig ≤ 2) (_ : 0 ≤ u.pct ∧ u.pct ≤ 100 ∧ 0 ≤ u.amt ∧ 0 ≤ u.gr ∧ u.gr ≤ 1000) (h1 : u.pct > 0) (hs : u.soft = false) : ((wordOf u.sig ++ [60]) ++ digs u.pct.toNat) ++ [37] = printT u := by
  unfold printT valT; rw [if_pos h1, hs, if_neg (by decide), List.append_nil]; simp only [List.append_assoc]
theorem rpr_ft (_ : 0 ≤ u.sig) (_ : u.sig ≤ 2) (_ : 0 ≤ u.pct ∧ u.pct ≤ 100 ∧ 0 ≤ u.amt ∧ 0 ≤ u.gr ∧ u.gr ≤ 1000) (h1 : ¬ u.pct > 0) (hs : u.soft = true) : (((wordOf u.sig ++ [60]) ++ printV u.amt.toNat) ++ [58]) ++ digs u.gr.toNat = printT u := by
  unfold printT valT; rw [if_neg h1, hs, if_pos rfl]; simp only [List.append_assoc]
theorem rpr_ff (_ : 0 ≤ u.sig) (_ : u.sig ≤ 2) (_ : 0 ≤ u.pct ∧ u.pct ≤ 100 ∧ 0 ≤ u.amt ∧ 0 ≤ u.gr ∧ u.gr ≤ 1000) (h1 : ¬ u.pct > 0) (hs : u.soft = false) : (wordOf u.sig ++ [60]) ++ printV u.amt.toNat = printT u := by
  unfold printT valT; rw [if_neg h1, hs, if_neg (by decide), List.append_nil]
end
set_option maxRecDepth 20000 in
theorem TPrint_any (u : Thr) (h : RightT u) (ha : u.amt ≤ 9223372036854775807) (M : Nat → Option (List AV)) : ACall Tryz.prog 31 [encT u] M (fun r M' => r = .str (printT u) ∧ M = M') := by
  obtain ⟨hs0, hs2, hpa, hgr⟩ := h
  have hp0 : 0 ≤ u.pct ∧ u.pct ≤ 100 ∧ 0 ≤ u.amt ∧ 0 ≤ u.gr ∧ u.gr ≤ 1000 := by omega
  have hq1 := sigw_len u.sig.toNat
  have hq2 := itoa_len u.pct (by omega) (by omega)
  have hq3 := printV_len u.amt.toNat (by omega)
  have hq4 := itoa_len u.gr (by omega) (by omega)
  have hq5 := word_len u.sig
  have hq6 := digs_len20 u.pct.toNat (by omega)
  have hq7 := digs_len20 u.gr.toNat (by omega)
  refine ACall.of Tryz.func31 rfl (n := 33) rfl rfl rfl ?_
  refine zg ?_
  refine AOps.box trivial rfl (by decide) rfl (noL rfl) rfl (v := encT u) (.inl ⟨rfl, rfl⟩) rfl rfl (all_flat rfl) ?_
  refine zM (.str []) ?_
  refine zN ?_
  refine AWp.anyK [0, 1, 2, 3] [1] (⟨[(0, encT u), (1, .lptr 1 0), (2, .str []), (3, .str ((sigL.getD u.sig.toNat []) ++ [60]))], [(1, [zI u.sig, zI u.pct, zI u.amt, zB u.soft, zI u.gr])], M⟩) (by kernel_rfl) ?_ ?_
  · skip
    refine AAny.step [0, 1] (by kernel_rfl) (by decide) ?_
    intro iq hq; simp only [List.mem_cons, List.mem_nil_iff, or_false] at hq
    rcases hq with rfl | rfl
    · refine ⟨_, rfl, ?_⟩
      refine zc [] Tryz.call54 (twords_any M) ?_
      rintro _ _ ⟨rfl, rfl⟩
      refine zN ?_
      refine AAny.step [1] (by kernel_rfl) (by decide) ?_
      intro iq hq; simp only [List.mem_cons, List.mem_nil_iff, or_false] at hq
      rcases hq with rfl
      · refine ⟨_, rfl, ?_⟩
        refine zr (zfL Tryz.underlying40 sizeOf_3) ?_
        refine zN ?_
        refine AAny.step [2] (by kernel_rfl) (by decide) ?_
        intro iq hq; simp only [List.mem_cons, List.mem_nil_iff, or_false] at hq
        rcases hq with rfl
        · refine ⟨_, rfl, ?_⟩
          refine zr (zlL (zI u.sig) Tryz.underlying3 sizeOf_3) ?_
          refine zN ?_
          refine AAny.step [3] (by kernel_rfl) (by decide) ?_
          intro iq hq; simp only [List.mem_cons, List.mem_nil_iff, or_false] at hq
          rcases hq with rfl
          · refine ⟨_, rfl, ?_⟩
            refine zr (Reader.elemAddr (m := u.sig.toNat) rfl Tryz.underlying38 sizeOf_9 rfl rfl (by omega) (e := .str (sigL.getD u.sig.toNat [])) (strs_at (by first | omega | (show _ < 3; omega)))) ?_
            refine zN ?_
            refine AAny.step [4] (by kernel_rfl) (by decide) ?_
            intro iq hq; simp only [List.mem_cons, List.mem_nil_iff, or_false] at hq
            rcases hq with rfl
            · refine ⟨_, rfl, ?_⟩
              refine zr (zlE (.str (sigL.getD u.sig.toNat [])) Tryz.underlying9 sizeOf_9) ?_
              refine zN ?_
              refine AAny.step [5] (by kernel_rfl) (by decide) ?_
              intro iq hq; simp only [List.mem_cons, List.mem_nil_iff, or_false] at hq
              rcases hq with rfl
              · refine ⟨_, rfl, ?_⟩
                refine zr (Reader.cat rfl rfl rfl (by first | omega | (simp only [List.length_cons, List.length_nil]; omega) | (simp; omega)) (c := (sigL.getD u.sig.toNat []) ++ [60]) rfl) ?_
                refine zN ?_
                refine AAny.step [6] (by kernel_rfl) (by decide) ?_
                intro iq hq; simp only [List.mem_cons, List.mem_nil_iff, or_false] at hq
                rcases hq with rfl
                · refine ⟨_, rfl, ?_⟩
                  refine zM (.str ((sigL.getD u.sig.toNat []) ++ [60])) ?_
                  refine zN ?_
                  exact AAny.done (by kernel_rfl) rfl
    · refine ⟨_, rfl, ?_⟩
      refine zr (zfL Tryz.underlying40 sizeOf_3) ?_
      refine zN ?_
      refine AAny.step [0, 2] (by kernel_rfl) (by decide) ?_
      intro iq hq; simp only [List.mem_cons, List.mem_nil_iff, or_false] at hq
      rcases hq with rfl | rfl
      · refine ⟨_, rfl, ?_⟩
        refine zc [] Tryz.call54 (twords_any M) ?_
        rintro _ _ ⟨rfl, rfl⟩
        refine zN ?_
        refine AAny.step [2] (by kernel_rfl) (by decide) ?_
        intro iq hq; simp only [List.mem_cons, List.mem_nil_iff, or_false] at hq
        rcases hq with rfl
        · refine ⟨_, rfl, ?_⟩
          refine zr (zlL (zI u.sig) Tryz.underlying3 sizeOf_3) ?_
          refine zN ?_
          refine AAny.step [3] (by kernel_rfl) (by decide) ?_
          intro iq hq; simp only [List.mem_cons, List.mem_nil_iff, or_false] at hq
          rcases hq with rfl
          · refine ⟨_, rfl, ?_⟩
            refine zr (Reader.elemAddr (m := u.sig.toNat) rfl Tryz.underlying38 sizeOf_9 rfl rfl (by omega) (e := .str (sigL.getD u.sig.toNat [])) (strs_at (by first | omega | (show _ < 3; omega)))) ?_
            refine zN ?_
            refine AAny.step [4] (by kernel_rfl) (by decide) ?_
            intro iq hq; simp only [List.mem_cons, List.mem_nil_iff, or_false] at hq
            rcases hq with rfl
            · refine ⟨_, rfl, ?_⟩
              refine zr (zlE (.str (sigL.getD u.sig.toNat [])) Tryz.underlying9 sizeOf_9) ?_
              refine zN ?_
              refine AAny.step [5] (by kernel_rfl) (by decide) ?_
              intro iq hq; simp only [List.mem_cons, List.mem_nil_iff, or_false] at hq
              rcases hq with rfl
              · refine ⟨_, rfl, ?_⟩
                refine zr (Reader.cat rfl rfl rfl (by first | omega | (simp only [List.length_cons, List.length_nil]; omega) | (simp; omega)) (c := (sigL.getD u.sig.toNat []) ++ [60]) rfl) ?_
                refine zN ?_
                refine AAny.step [6] (by kernel_rfl) (by decide) ?_
                intro iq hq; simp only [List.mem_cons, List.mem_nil_iff, or_false] at hq
                rcases hq with rfl
                · refine ⟨_, rfl, ?_⟩
                  refine zM (.str ((sigL.getD u.sig.toNat []) ++ [60])) ?_
                  refine zN ?_
                  exact AAny.done (by kernel_rfl) rfl
      · refine ⟨_, rfl, ?_⟩
        refine zr (zlL (zI u.sig) Tryz.underlying3 sizeOf_3) ?_
        refine zN ?_
        refine AAny.step [0] (by kernel_rfl) (by decide) ?_
        intro iq hq; simp only [List.mem_cons, List.mem_nil_iff, or_false] at hq
        rcases hq with rfl
        · refine ⟨_, rfl, ?_⟩
          refine zc [] Tryz.call54 (twords_any M) ?_
          rintro _ _ ⟨rfl, rfl⟩
          refine zN ?_
          refine AAny.step [3] (by kernel_rfl) (by decide) ?_
          intro iq hq; simp only [List.mem_cons, List.mem_nil_iff, or_false] at hq
          rcases hq with rfl
          · refine ⟨_, rfl, ?_⟩
            refine zr (Reader.elemAddr (m := u.sig.toNat) rfl Tryz.underlying38 sizeOf_9 rfl rfl (by omega) (e := .str (sigL.getD u.sig.toNat [])) (strs_at (by first | omega | (show _ < 3; omega)))) ?_
            refine zN ?_
            refine AAny.step [4] (by kernel_rfl) (by decide) ?_
            intro iq hq; simp only [List.mem_cons, List.mem_nil_iff, or_false] at hq
            rcases hq with rfl
            · refine ⟨_, rfl, ?_⟩
              refine zr (zlE (.str (sigL.getD u.sig.toNat [])) Tryz.underlying9 sizeOf_9) ?_
              refine zN ?_
              refine AAny.step [5] (by kernel_rfl) (by decide) ?_
              intro iq hq; simp only [List.mem_cons, List.mem_nil_iff, or_false] at hq
              rcases hq with rfl
              · refine ⟨_, rfl, ?_⟩
                refine zr (Reader.cat rfl rfl rfl (by first | omega | (simp only [List.length_cons, List.length_nil]; omega) | (simp; omega)) (c := (sigL.getD u.sig.toNat []) ++ [60]) rfl) ?_
                refine zN ?_
                refine AAny.step [6] (by kernel_rfl) (by decide) ?_
                intro iq hq; simp only [List.mem_cons, List.mem_nil_iff, or_false] at hq
                rcases hq with rfl
                · refine ⟨_, rfl, ?_⟩
                  refine zM (.str ((sigL.getD u.sig.toNat []) ++ [60])) ?_
                  refine zN ?_
                  exact AAny.done (by kernel_rfl) rfl
  refine AWp.seq ?_
  refine zg ?_
  refine zr (zfL Tryz.underlying40 sizeOf_3) ?_
  refine zr (zlL (zI u.pct) Tryz.underlying3 sizeOf_3) ?_
  refine zr (zi (decide (u.pct > 0))) ?_
  refine zN ?_
  refine zC (b := decide (u.pct > 0)) rfl (fun h1 => ?_) (fun h1 => ?_)
  · skip
    have h1' : u.pct > 0 := (by have hh := of_decide_eq_true h1; omega)
    clear h1
    refine AWp.region ?_
    refine zM (.str ((sigL.getD u.sig.toNat []) ++ [60])) ?_
    refine zr (zfL Tryz.underlying40 sizeOf_3) ?_
    refine zr (zlL (zI u.pct) Tryz.underlying3 sizeOf_3) ?_
    refine zc [zI u.pct] Tryz.call53 (itoa_int u.pct (by omega) (by omega) M) ?_
    rintro _ _ ⟨rfl, rfl⟩
    refine zr (Reader.cat rfl rfl rfl (by first | omega | (simp only [List.length_cons, List.length_nil]; omega) | (simp; omega)) (c := (Lib.itoa u.pct) ++ [37]) rfl) ?_
    refine zr (Reader.cat rfl rfl rfl (by first | omega | (simp only [List.length_append, List.length_cons, List.length_nil]; omega) | (simp; omega)) (c := ((sigL.getD u.sig.toNat []) ++ [60]) ++ ((Lib.itoa u.pct) ++ [37])) rfl) ?_
    refine zM (.str (((sigL.getD u.sig.toNat []) ++ [60]) ++ ((Lib.itoa u.pct) ++ [37]))) ?_
    refine zN ?_
    refine AWp.seq ?_
    refine zg ?_
    refine zr (zfL Tryz.underlying40 sizeOf_4) ?_
    refine zr (zlL (zB u.soft) Tryz.underlying4 sizeOf_4) ?_
    refine zN ?_
    refine zC (b := u.soft) rfl (fun h2 => ?_) (fun h2 => ?_)
    · skip
      refine AWp.region ?_
      refine zM (.str (((sigL.getD u.sig.toNat []) ++ [60]) ++ ((Lib.itoa u.pct) ++ [37]))) ?_
      refine zr (zfL Tryz.underlying40 sizeOf_3) ?_
      refine zr (zlL (zI u.gr) Tryz.underlying3 sizeOf_3) ?_
      refine zc [zI u.gr] Tryz.call53 (itoa_int u.gr (by omega) (by omega) M) ?_
      rintro _ _ ⟨rfl, rfl⟩
      refine zr (Reader.cat rfl rfl rfl (by first | omega | (simp only [List.length_cons, List.length_nil]; omega) | (simp; omega)) (c := [58] ++ (Lib.itoa u.gr)) rfl) ?_
      refine zr (Reader.cat rfl rfl rfl (by first | omega | (simp only [List.length_append, List.length_cons, List.length_nil]; omega) | (simp; omega)) (c := (((sigL.getD u.sig.toNat []) ++ [60]) ++ ((Lib.itoa u.pct) ++ [37])) ++ ([58] ++ (Lib.itoa u.gr))) rfl) ?_
      refine zM (.str ((((sigL.getD u.sig.toNat []) ++ [60]) ++ ((Lib.itoa u.pct) ++ [37])) ++ ([58] ++ (Lib.itoa u.gr)))) ?_
      refine zN ?_
      refine zg ?_
      refine zM (.str ((((sigL.getD u.sig.toNat []) ++ [60]) ++ ((Lib.itoa u.pct) ++ [37])) ++ ([58] ++ (Lib.itoa u.gr)))) ?_
      refine zM (.str ((((sigL.getD u.sig.toNat []) ++ [60]) ++ ((Lib.itoa u.pct) ++ [37])) ++ ([58] ++ (Lib.itoa u.gr)))) ?_
      refine zN ?_
      refine AWp.ret ?_
      exact ⟨.inl rfl, _, ResOf.one 2 (.str ((((sigL.getD u.sig.toNat []) ++ [60]) ++ ((Lib.itoa u.pct) ++ [37])) ++ ([58] ++ (Lib.itoa u.gr)))) rfl rfl, ⟨congrArg AV.str (pr_tt hs0 hs2 hp0 (by assumption) (by assumption)), rfl⟩⟩
    · skip
      refine AWp.skip ?_
      refine zg ?_
      refine zM (.str (((sigL.getD u.sig.toNat []) ++ [60]) ++ ((Lib.itoa u.pct) ++ [37]))) ?_
      refine zM (.str (((sigL.getD u.sig.toNat []) ++ [60]) ++ ((Lib.itoa u.pct) ++ [37]))) ?_
      refine zN ?_
      refine AWp.ret ?_
      exact ⟨.inl rfl, _, ResOf.one 2 (.str (((sigL.getD u.sig.toNat []) ++ [60]) ++ ((Lib.itoa u.pct) ++ [37]))) rfl rfl, ⟨congrArg AV.str (pr_tf hs0 hs2 hp0 (by assumption) (by assumption)), rfl⟩⟩
  · skip
    have h1' : ¬ (u.pct > 0) := (by have hh := of_decide_eq_false h1; omega)
    clear h1
    refine AWp.region ?_
    refine zM (.str ((sigL.getD u.sig.toNat []) ++ [60])) ?_
    refine zr (zfL Tryz.underlying40 sizeOf_3) ?_
    refine zr (zlL (zI u.amt) Tryz.underlying3 sizeOf_3) ?_
    refine zc [zI u.amt] Tryz.call29 (Print_any u.amt (by omega) M) ?_
    rintro _ _ ⟨rfl, rfl⟩
    refine zr (Reader.cat rfl rfl rfl (by first | omega | (simp only [List.length_append, List.length_cons, List.length_nil]; omega) | (simp; omega)) (c := ((sigL.getD u.sig.toNat []) ++ [60]) ++ (printV u.amt.toNat)) rfl) ?_
    refine zM (.str (((sigL.getD u.sig.toNat []) ++ [60]) ++ (printV u.amt.toNat))) ?_
    refine zN ?_
    refine AWp.seq ?_
    refine zg ?_
    refine zr (zfL Tryz.underlying40 sizeOf_4) ?_
    refine zr (zlL (zB u.soft) Tryz.underlying4 sizeOf_4) ?_
    refine zN ?_
    refine zC (b := u.soft) rfl (fun h3 => ?_) (fun h3 => ?_)
    · skip
      refine AWp.region ?_
      refine zM (.str (((sigL.getD u.sig.toNat []) ++ [60]) ++ (printV u.amt.toNat))) ?_
      refine zr (zfL Tryz.underlying40 sizeOf_3) ?_
      refine zr (zlL (zI u.gr) Tryz.underlying3 sizeOf_3) ?_
      refine zc [zI u.gr] Tryz.call53 (itoa_int u.gr (by omega) (by omega) M) ?_
      rintro _ _ ⟨rfl, rfl⟩
      refine zr (Reader.cat rfl rfl rfl (by first | omega | (simp only [List.length_cons, List.length_nil]; omega) | (simp; omega)) (c := [58] ++ (Lib.itoa u.gr)) rfl) ?_
      refine zr (Reader.cat rfl rfl rfl (by first | omega | (simp only [List.length_append, List.length_cons, List.length_nil]; omega) | (simp; omega)) (c := (((sigL.getD u.sig.toNat []) ++ [60]) ++ (printV u.amt.toNat)) ++ ([58] ++ (Lib.itoa u.gr))) rfl) ?_
      refine zM (.str ((((sigL.getD u.sig.toNat []) ++ [60]) ++ (printV u.amt.toNat)) ++ ([58] ++ (Lib.itoa u.gr)))) ?_
      refine zN ?_
      refine zg ?_
      refine zM (.str ((((sigL.getD u.sig.toNat []) ++ [60]) ++ (printV u.amt.toNat)) ++ ([58] ++ (Lib.itoa u.gr)))) ?_
      refine zM (.str ((((sigL.getD u.sig.toNat []) ++ [60]) ++ (printV u.amt.toNat)) ++ ([58] ++ (Lib.itoa u.gr)))) ?_
      refine zN ?_
      refine AWp.ret ?_
      exact ⟨.inl rfl, _, ResOf.one 2 (.str ((((sigL.getD u.sig.toNat []) ++ [60]) ++ (printV u.amt.toNat)) ++ ([58] ++ (Lib.itoa u.gr)))) rfl rfl, ⟨congrArg AV.str (pr_ft hs0 hs2 hp0 (by assumption) (by assumption)), rfl⟩⟩
    · skip
      refine AWp.skip ?_
      refine zg ?_
      refine zM (.str (((sigL.getD u.sig.toNat []) ++ [60]) ++ (printV u.amt.toNat))) ?_
      refine zM (.str (((sigL.getD u.sig.toNat []) ++ [60]) ++ (printV u.amt.toNat))) ?_
      refine zN ?_
      refine AWp.ret ?_
      exact ⟨.inl rfl, _, ResOf.one 2 (.str (((sigL.getD u.sig.toNat []) ++ [60]) ++ (printV u.amt.toNat))) rfl rfl, ⟨congrArg AV.str (pr_ff hs0 hs2 hp0 (by assumption) (by assumption)), rfl⟩⟩

set_option maxRecDepth 20000 in
theorem rTPrint_any (u : Thr) (h : RightT u) (ha : u.amt ≤ 9223372036854775807) (M : Nat → Option (List AV)) : ACall Tryz.prog 40 [encT u] M (fun r M' => r = .str (printT u) ∧ M = M') := by
  obtain ⟨hs0, hs2, hpa, hgr⟩ := h
  have hp0 : 0 ≤ u.pct ∧ u.pct ≤ 100 ∧ 0 ≤ u.amt ∧ 0 ≤ u.gr ∧ u.gr ≤ 1000 := by omega
  have hq1 := sigw_len u.sig.toNat
  have hq2 := itoa_len u.pct (by omega) (by omega)
  have hq3 := printV_len u.amt.toNat (by omega)
  have hq4 := itoa_len u.gr (by omega) (by omega)
  have hq5 := word_len u.sig
  have hq6 := digs_len20 u.pct.toNat (by omega)
  have hq7 := digs_len20 u.gr.toNat (by omega)
  refine ACall.of Tryz.func40 rfl (n := 31) rfl rfl rfl ?_
  refine zg ?_
  refine AOps.box trivial rfl (by decide) rfl (noL rfl) rfl (v := encT u) (.inl ⟨rfl, rfl⟩) rfl rfl (all_flat rfl) ?_
  refine zM (.str []) ?_
  refine zN ?_
  refine zg ?_
  refine zr (zfL Tryz.underlying40 sizeOf_3) ?_
  refine zr (zlL (zI u.sig) Tryz.underlying3 sizeOf_3) ?_
  refine zc [zI u.sig] Tryz.call47 (rWord_any u.sig M) ?_
  rintro _ _ ⟨rfl, rfl⟩
  refine zr (Reader.cat rfl rfl rfl (by first | omega | (simp only [List.length_cons, List.length_nil]; omega) | (simp; omega)) (c := (wordOf u.sig) ++ [60]) rfl) ?_
  refine zM (.str ((wordOf u.sig) ++ [60])) ?_
  refine zN ?_
  refine AWp.seq ?_
  refine zg ?_
  refine zr (zfL Tryz.underlying40 sizeOf_3) ?_
  refine zr (zlL (zI u.pct) Tryz.underlying3 sizeOf_3) ?_
  refine zr (zi (decide (u.pct > 0))) ?_
  refine zN ?_
  refine zC (b := decide (u.pct > 0)) rfl (fun h1 => ?_) (fun h1 => ?_)
  · skip
    have h1' : u.pct > 0 := (by have hh := of_decide_eq_true h1; omega)
    clear h1
    refine AWp.region ?_
    refine zM (.str ((wordOf u.sig) ++ [60])) ?_
    refine zr (zfL Tryz.underlying40 sizeOf_3) ?_
    refine zr (zlL (zI u.pct) Tryz.underlying3 sizeOf_3) ?_
    refine zc [zI u.pct] Tryz.call60 (Digits_int u.pct (by omega) (by omega) M) ?_
    rintro _ _ ⟨rfl, rfl⟩
    refine zr (Reader.cat rfl rfl rfl (by first | omega | (simp only [List.length_append, List.length_cons, List.length_nil]; omega) | (simp; omega)) (c := ((wordOf u.sig) ++ [60]) ++ (digs u.pct.toNat)) rfl) ?_
    refine zr (Reader.cat rfl rfl rfl (by first | omega | (simp only [List.length_append, List.length_cons, List.length_nil]; omega) | (simp; omega)) (c := (((wordOf u.sig) ++ [60]) ++ (digs u.pct.toNat)) ++ [37]) rfl) ?_
    refine zM (.str ((((wordOf u.sig) ++ [60]) ++ (digs u.pct.toNat)) ++ [37])) ?_
    refine zN ?_
    refine AWp.seq ?_
    refine zg ?_
    refine zr (zfL Tryz.underlying40 sizeOf_4) ?_
    refine zr (zlL (zB u.soft) Tryz.underlying4 sizeOf_4) ?_
    refine zN ?_
    refine zC (b := u.soft) rfl (fun h2 => ?_) (fun h2 => ?_)
    · skip
      refine AWp.region ?_
      refine zM (.str ((((wordOf u.sig) ++ [60]) ++ (digs u.pct.toNat)) ++ [37])) ?_
      refine zr (Reader.cat rfl rfl rfl (by first | omega | (simp only [List.length_append, List.length_cons, List.length_nil]; omega) | (simp; omega)) (c := ((((wordOf u.sig) ++ [60]) ++ (digs u.pct.toNat)) ++ [37]) ++ [58]) rfl) ?_
      refine zr (zfL Tryz.underlying40 sizeOf_3) ?_
      refine zr (zlL (zI u.gr) Tryz.underlying3 sizeOf_3) ?_
      refine zc [zI u.gr] Tryz.call60 (Digits_int u.gr (by omega) (by omega) M) ?_
      rintro _ _ ⟨rfl, rfl⟩
      refine zr (Reader.cat rfl rfl rfl (by first | omega | (simp only [List.length_append, List.length_cons, List.length_nil]; omega) | (simp; omega)) (c := (((((wordOf u.sig) ++ [60]) ++ (digs u.pct.toNat)) ++ [37]) ++ [58]) ++ (digs u.gr.toNat)) rfl) ?_
      refine zM (.str ((((((wordOf u.sig) ++ [60]) ++ (digs u.pct.toNat)) ++ [37]) ++ [58]) ++ (digs u.gr.toNat))) ?_
      refine zN ?_
      refine zg ?_
      refine zM (.str ((((((wordOf u.sig) ++ [60]) ++ (digs u.pct.toNat)) ++ [37]) ++ [58]) ++ (digs u.gr.toNat))) ?_
      refine zM (.str ((((((wordOf u.sig) ++ [60]) ++ (digs u.pct.toNat)) ++ [37]) ++ [58]) ++ (digs u.gr.toNat))) ?_
      refine zN ?_
      refine AWp.ret ?_
      exact ⟨.inl rfl, _, ResOf.one 2 (.str ((((((wordOf u.sig) ++ [60]) ++ (digs u.pct.toNat)) ++ [37]) ++ [58]) ++ (digs u.gr.toNat))) rfl rfl, ⟨congrArg AV.str (rpr_tt hs0 hs2 hp0 (by assumption) (by assumption)), rfl⟩⟩
    · skip
      refine AWp.skip ?_
      refine zg ?_
      refine zM (.str ((((wordOf u.sig) ++ [60]) ++ (digs u.pct.toNat)) ++ [37])) ?_
      refine zM (.str ((((wordOf u.sig) ++ [60]) ++ (digs u.pct.toNat)) ++ [37])) ?_
      refine zN ?_
      refine AWp.ret ?_
      exact ⟨.inl rfl, _, ResOf.one 2 (.str ((((wordOf u.sig) ++ [60]) ++ (digs u.pct.toNat)) ++ [37])) rfl rfl, ⟨congrArg AV.str (rpr_tf hs0 hs2 hp0 (by assumption) (by assumption)), rfl⟩⟩
  · skip
    have h1' : ¬ (u.pct > 0) := (by have hh := of_decide_eq_false h1; omega)
    clear h1
    refine AWp.region ?_
    refine zM (.str ((wordOf u.sig) ++ [60])) ?_
    refine zr (zfL Tryz.underlying40 sizeOf_3) ?_
    refine zr (zlL (zI u.amt) Tryz.underlying3 sizeOf_3) ?_
    refine zc [zI u.amt] Tryz.call39 (rPrint_int u.amt (by omega) (by omega) M) ?_
    rintro _ _ ⟨rfl, rfl⟩
    refine zr (Reader.cat rfl rfl rfl (by first | omega | (simp only [List.length_append, List.length_cons, List.length_nil]; omega) | (simp; omega)) (c := ((wordOf u.sig) ++ [60]) ++ (printV u.amt.toNat)) rfl) ?_
    refine zM (.str (((wordOf u.sig) ++ [60]) ++ (printV u.amt.toNat))) ?_
    refine zN ?_
    refine AWp.seq ?_
    refine zg ?_
    refine zr (zfL Tryz.underlying40 sizeOf_4) ?_
    refine zr (zlL (zB u.soft) Tryz.underlying4 sizeOf_4) ?_
    refine zN ?_
    refine zC (b := u.soft) rfl (fun h3 => ?_) (fun h3 => ?_)
    · skip
      refine AWp.region ?_
      refine zM (.str (((wordOf u.sig) ++ [60]) ++ (printV u.amt.toNat))) ?_
      refine zr (Reader.cat rfl rfl rfl (by first | omega | (simp only [List.length_append, List.length_cons, List.length_nil]; omega) | (simp; omega)) (c := (((wordOf u.sig) ++ [60]) ++ (printV u.amt.toNat)) ++ [58]) rfl) ?_
      refine zr (zfL Tryz.underlying40 sizeOf_3) ?_
      refine zr (zlL (zI u.gr) Tryz.underlying3 sizeOf_3) ?_
      refine zc [zI u.gr] Tryz.call60 (Digits_int u.gr (by omega) (by omega) M) ?_
      rintro _ _ ⟨rfl, rfl⟩
      refine zr (Reader.cat rfl rfl rfl (by first | omega | (simp only [List.length_append, List.length_cons, List.length_nil]; omega) | (simp; omega)) (c := ((((wordOf u.sig) ++ [60]) ++ (printV u.amt.toNat)) ++ [58]) ++ (digs u.gr.toNat)) rfl) ?_
      refine zM (.str (((((wordOf u.sig) ++ [60]) ++ (printV u.amt.toNat)) ++ [58]) ++ (digs u.gr.toNat))) ?_
      refine zN ?_
      refine zg ?_
      refine zM (.str (((((wordOf u.sig) ++ [60]) ++ (printV u.amt.toNat)) ++ [58]) ++ (digs u.gr.toNat))) ?_
      refine zM (.str (((((wordOf u.sig) ++ [60]) ++ (printV u.amt.toNat)) ++ [58]) ++ (digs u.gr.toNat))) ?_
      refine zN ?_
      refine AWp.ret ?_
      exact ⟨.inl rfl, _, ResOf.one 2 (.str (((((wordOf u.sig) ++ [60]) ++ (printV u.amt.toNat)) ++ [58]) ++ (digs u.gr.toNat))) rfl rfl, ⟨congrArg AV.str (rpr_ft hs0 hs2 hp0 (by assumption) (by assumption)), rfl⟩⟩
    · skip
      refine AWp.skip ?_
      refine zg ?_
      refine zM (.str (((wordOf u.sig) ++ [60]) ++ (printV u.amt.toNat))) ?_
      refine zM (.str (((wordOf u.sig) ++ [60]) ++ (printV u.amt.toNat))) ?_
      refine zN ?_
      refine AWp.ret ?_
      exact ⟨.inl rfl, _, ResOf.one 2 (.str (((wordOf u.sig) ++ [60]) ++ (printV u.amt.toNat))) rfl rfl, ⟨congrArg AV.str (rpr_ff hs0 hs2 hp0 (by assumption) (by assumption)), rfl⟩⟩
end
section
open Go.RowKit
theorem noEscape_run : ∀ (v : Value) (w : World), (callFunc 83 #[v]).run Tryz.prog w = .ok (.value v) w := fun _ _ => by kernel_rfl
set_option maxRecDepth 20000 in
theorem copyCheck_nil (M : Nat → Option (List AV)) (id : Nat) (hid : id % 10000 = 88) (c : AV) (hcs : c.scalar = true) (M' : Nat → Option (List AV)) (hM : M id = some [.lit (.pointer none), c]) (hM' : setM M id [.gptr id 0, c] = M')  : ACall Tryz.prog 70 [.gptr id 0] M (fun r M1 => r = .tuple [] ∧ M1 = M') := by
  refine ACall.of Tryz.func70 rfl (n := 20) rfl rfl rfl ?_
  refine zg ?_
  refine zM (.gptr id 0) ?_
  refine zr (znc (.gptr id 0)) ?_
  refine zr (zfG Tryz.underlying88 sizeOf_86) ?_
  refine zr (zlG (.lit (.pointer none)) Tryz.underlying86 sizeOf_86 hM) ?_
  refine zr (Reader.eqPtr (b := true) (xv := .lit (.pointer none)) (yv := .lit (.pointer none)) rfl Tryz.underlying86 sizeOf_88 (by decide) rfl rfl (by simp [ptrEq]) (.inl ⟨rfl, rfl⟩)) ?_
  refine zN ?_
  refine AWp.cond (b := true) rfl (fun hx => ?_) (fun hx => by cases hx)
  refine AWp.region ?_
  refine zM (.gptr id 0) ?_
  refine zM (.gptr id 0) ?_
  refine zr (Reader.toUnsafe rfl Tryz.underlying86 Tryz.underlying112 sizeOf_88 (by decide) rfl hM (Nat.le_of_ble_eq_true rfl)) ?_
  refine zr (Reader.same rfl rfl rfl noEscape_run rfl) ?_
  refine zr (Reader.fromUnsafe rfl Tryz.underlying112 Tryz.underlying86 sizeOf_88 rfl hM (by assumption) (by kernel_rfl)) ?_
  refine zr (znc (.gptr id 0)) ?_
  refine zr (zfG Tryz.underlying88 sizeOf_86) ?_
  refine AOps.storeG trivial rfl rfl rfl hM sizeOf_86 (.inl ⟨rfl, rfl⟩) rfl (v := .gptr id 0) rfl (all_flat rfl) rfl (Nat.le_of_ble_eq_true rfl) rfl ?_
  refine zN ?_
  exact ⟨.inr rfl, _, ResOf.none, ⟨rfl, hM'⟩⟩

set_option maxRecDepth 20000 in
theorem copyCheck_used (M : Nat → Option (List AV)) (id : Nat) (_hid : id % 10000 = 88) (c : AV) (hcs : c.scalar = true) (hM : M id = some [.gptr id 0, c])  : ACall Tryz.prog 70 [.gptr id 0] M (fun r M1 => r = .tuple [] ∧ M1 = M) := by
  refine ACall.of Tryz.func70 rfl (n := 20) rfl rfl rfl ?_
  refine zg ?_
  refine zM (.gptr id 0) ?_
  refine zr (znc (.gptr id 0)) ?_
  refine zr (zfG Tryz.underlying88 sizeOf_86) ?_
  refine zr (zlG (.gptr id 0) Tryz.underlying86 sizeOf_86 hM) ?_
  refine zr (Reader.eqPtr (b := false) (xv := .gptr id 0) (yv := .lit (.pointer none)) rfl Tryz.underlying86 sizeOf_88 (by decide) rfl rfl (by simp [ptrEq]) (.inl ⟨rfl, rfl⟩)) ?_
  refine zN ?_
  refine AWp.cond (b := false) rfl (fun hx => by cases hx) (fun hx => ?_)
  refine zg ?_
  refine zM (.gptr id 0) ?_
  refine zr (znc (.gptr id 0)) ?_
  refine zr (zfG Tryz.underlying88 sizeOf_86) ?_
  refine zr (zlG (.gptr id 0) Tryz.underlying86 sizeOf_86 hM) ?_
  refine zM (.gptr id 0) ?_
  refine zr (Reader.eqPtr (b := true) (xv := .gptr id 0) (yv := .gptr id 0) rfl Tryz.underlying86 sizeOf_88 (by decide) rfl rfl (by simp [ptrEq]) (.inr ⟨rfl, rfl⟩)) ?_
  refine zN ?_
  refine AWp.cond (b := false) rfl (fun hx => by cases hx) (fun hx => ?_)
  refine AWp.skip ?_
  exact ⟨.inr rfl, _, ResOf.none, ⟨rfl, rfl⟩⟩

theorem copyCheck_any (id : Nat) (hid : id % 10000 = 88) (p c : AV) (hcs : c.scalar = true) (hp : p = .lit (.pointer none) ∨ p = .gptr id 0) (M M' : Nat → Option (List AV)) (hM : M id = some [p, c]) (hM' : setM M id [.gptr id 0, c] = M') : ACall Tryz.prog 70 [.gptr id 0] M (fun r M1 => r = .tuple [] ∧ M1 = M') := by
  rcases hp with rfl | rfl
  · exact copyCheck_nil M id hid c hcs M' hM hM'
  · rw [setM_same hM] at hM'
    subst hM'
    exact copyCheck_used M id hid c hcs hM

set_option maxRecDepth 20000 in
theorem WriteByte_nil (M : Nat → Option (List AV)) (id : Nat) (hid : id % 10000 = 88) (ch : UInt8) (p : AV) (hp : p = .lit (.pointer none) ∨ p = .gptr id 0) (M' : Nat → Option (List AV)) (hM : M id = some [p, .lit (.slice none 0 0)]) (hM' : setM M id [.gptr id 0, .list true 5 (byteAVs (([] : List UInt8) ++ [ch]))] = M')  : ACall Tryz.prog 55 [.gptr id 0, .lit (.int .u8 (ch.toNat : Int))] M (fun r M1 => r = .lit .nilIface ∧ M1 = M') := by
  have hps : p.scalar = true := by rcases hp with rfl | rfl <;> rfl
  refine ACall.of Tryz.func55 rfl (n := 17) rfl rfl rfl ?_
  refine zg ?_
  refine zM (.lit .nilIface) ?_
  refine zN ?_
  refine zg ?_
  refine zM (.gptr id 0) ?_
  refine zc [.gptr id 0] Tryz.call70 (copyCheck_any id hid p (.lit (.slice none 0 0)) rfl hp M (setM M id [.gptr id 0, .lit (.slice none 0 0)]) hM rfl) ?_
  rintro _ _ ⟨rfl, rfl⟩
  refine zN ?_
  refine zg ?_
  refine zM (.gptr id 0) ?_
  refine zM (.gptr id 0) ?_
  refine zr (znc (.gptr id 0)) ?_
  refine zr (zfG Tryz.underlying88 sizeOf_22) ?_
  refine zr (zlG (.lit (.slice none 0 0)) Tryz.underlying22 sizeOf_22 setM_get) ?_
  refine zM (.lit (.int .u8 (ch.toNat : Int))) ?_
  refine zbS [] (byteAVs [ch]) Tryz.underlying22 Tryz.i5 ?_
  refine AOps.asList (r := 11) 5 rfl ?_
  refine zap (m1 := 0) (m2 := 1) 1 (byteAVs ([] : List UInt8)) (byteAVs [ch]) (byteAVs (([] : List UInt8) ++ [ch])) Tryz.underlying22 Tryz.underlying22 Tryz.i5 rfl rfl (by simp [byteAVs]) ?_
  refine zr (znc (.gptr id 0)) ?_
  refine zr (zfG Tryz.underlying88 sizeOf_22) ?_
  refine AOps.storeOwn trivial rfl rfl rfl setM_get sizeOf_22 rfl (Nat.le_of_ble_eq_true rfl) setM_setM ?_
  refine zN ?_
  refine zg ?_
  refine zM (.lit .nilIface) ?_
  refine zN ?_
  refine AWp.ret ?_
  exact ⟨.inl rfl, _, ResOf.one 4 (.lit .nilIface) rfl rfl, ⟨rfl, hM'⟩⟩

set_option maxRecDepth 20000 in
theorem WriteByte_list (M : Nat → Option (List AV)) (id : Nat) (hid : id % 10000 = 88) (l : List UInt8) (hl : l.length < 140737488355328) (ch : UInt8) (p : AV) (hp : p = .lit (.pointer none) ∨ p = .gptr id 0) (M' : Nat → Option (List AV)) (hM : M id = some [p, .list true 5 (byteAVs l)]) (hM' : setM M id [.gptr id 0, .list true 5 (byteAVs (l ++ [ch]))] = M')  : ACall Tryz.prog 55 [.gptr id 0, .lit (.int .u8 (ch.toNat : Int))] M (fun r M1 => r = .lit .nilIface ∧ M1 = M') := by
  have hps : p.scalar = true := by rcases hp with rfl | rfl <;> rfl
  refine ACall.of Tryz.func55 rfl (n := 17) rfl rfl rfl ?_
  refine zg ?_
  refine zM (.lit .nilIface) ?_
  refine zN ?_
  refine zg ?_
  refine zM (.gptr id 0) ?_
  refine zc [.gptr id 0] Tryz.call70 (copyCheck_any id hid p (.list true 5 (byteAVs l)) rfl hp M (setM M id [.gptr id 0, .list true 5 (byteAVs l)]) hM rfl) ?_
  rintro _ _ ⟨rfl, rfl⟩
  refine zN ?_
  refine zg ?_
  refine zM (.gptr id 0) ?_
  refine zM (.gptr id 0) ?_
  refine zr (znc (.gptr id 0)) ?_
  refine zr (zfG Tryz.underlying88 sizeOf_22) ?_
  refine AOps.grabG trivial rfl (by decide) rfl Tryz.underlying22 rfl setM_get rfl rfl setM_setM ?_
  refine zM (.lit (.int .u8 (ch.toNat : Int))) ?_
  refine zbS [] (byteAVs [ch]) Tryz.underlying22 Tryz.i5 ?_
  refine zap (m1 := l.length) (m2 := 1) 1 (byteAVs l) (byteAVs [ch]) (byteAVs (l ++ [ch])) Tryz.underlying22 Tryz.underlying22 Tryz.i5 (byteAVs_len _) rfl (by simp [byteAVs]) ?_
  refine zr (znc (.gptr id 0)) ?_
  refine zr (zfG Tryz.underlying88 sizeOf_22) ?_
  refine AOps.storeOwn trivial rfl rfl rfl setM_get sizeOf_22 rfl (Nat.le_of_ble_eq_true rfl) setM_setM ?_
  refine zN ?_
  refine zg ?_
  refine zM (.lit .nilIface) ?_
  refine zN ?_
  refine AWp.ret ?_
  exact ⟨.inl rfl, _, ResOf.one 4 (.lit .nilIface) rfl rfl, ⟨rfl, hM'⟩⟩

set_option maxRecDepth 20000 in
theorem WriteString_nil (M : Nat → Option (List AV)) (id : Nat) (hid : id % 10000 = 88) (t : List UInt8) (hl : t.length ≤ 140737488355328) (p : AV) (hp : p = .lit (.pointer none) ∨ p = .gptr id 0) (M' : Nat → Option (List AV)) (hM : M id = some [p, .lit (.slice none 0 0)]) (hM' : setM M id [.gptr id 0, .list true 5 (byteAVs (([] : List UInt8) ++ t))] = M')  : ACall Tryz.prog 56 [.gptr id 0, .str t] M (fun r M1 => r = .tuple [zI t.length, .lit .nilIface] ∧ M1 = M') := by
  have hps : p.scalar = true := by rcases hp with rfl | rfl <;> rfl
  refine ACall.of Tryz.func56 rfl (n := 19) rfl rfl rfl ?_
  refine zg ?_
  refine zM (zI 0) ?_
  refine zM (.lit .nilIface) ?_
  refine zN ?_
  refine zg ?_
  refine zM (.gptr id 0) ?_
  refine zc [.gptr id 0] Tryz.call70 (copyCheck_any id hid p (.lit (.slice none 0 0)) rfl hp M (setM M id [.gptr id 0, .lit (.slice none 0 0)]) hM rfl) ?_
  rintro _ _ ⟨rfl, rfl⟩
  refine zN ?_
  refine zg ?_
  refine zM (.gptr id 0) ?_
  refine zM (.gptr id 0) ?_
  refine zr (znc (.gptr id 0)) ?_
  refine zr (zfG Tryz.underlying88 sizeOf_22) ?_
  refine zr (zlG (.lit (.slice none 0 0)) Tryz.underlying22 sizeOf_22 setM_get) ?_
  refine zM (.str t) ?_
  refine AOps.asList (r := 12) 5 rfl ?_
  refine AOps.appS (bytes := 1) trivial rfl (by decide) (by decide) rfl rfl rfl rfl Tryz.underlying22 Tryz.underlying9 Tryz.i5 rfl rfl rfl rfl (xs := (byteAVs ([] : List UInt8))) (l := t) (zs := (byteAVs (([] : List UInt8) ++ t))) rfl rfl (m1 := 0) (m2 := t.length) rfl rfl (by first | omega | (unfold maxLen; omega)) (by omega) (by simp [byteAVs]) ?_
  refine zr (znc (.gptr id 0)) ?_
  refine zr (zfG Tryz.underlying88 sizeOf_22) ?_
  refine AOps.storeOwn trivial rfl rfl rfl setM_get sizeOf_22 rfl (Nat.le_of_ble_eq_true rfl) setM_setM ?_
  refine zN ?_
  refine zg ?_
  refine zM (.str t) ?_
  refine zr (zS t t.length Tryz.underlying9) ?_
  refine zM (zI (t.length : Int)) ?_
  refine zM (.lit .nilIface) ?_
  refine zN ?_
  refine AWp.ret ?_
  exact ⟨.inl rfl, _, ResOf.two 4 5 (zI (t.length : Int)) (.lit .nilIface) rfl rfl (.inl rfl) (.inl rfl) (by decide), ⟨rfl, hM'⟩⟩

set_option maxRecDepth 20000 in
theorem WriteString_list (M : Nat → Option (List AV)) (id : Nat) (hid : id % 10000 = 88) (l t : List UInt8) (hl : l.length + t.length ≤ 140737488355328) (p : AV) (hp : p = .lit (.pointer none) ∨ p = .gptr id 0) (M' : Nat → Option (List AV)) (hM : M id = some [p, .list true 5 (byteAVs l)]) (hM' : setM M id [.gptr id 0, .list true 5 (byteAVs (l ++ t))] = M')  : ACall Tryz.prog 56 [.gptr id 0, .str t] M (fun r M1 => r = .tuple [zI t.length, .lit .nilIface] ∧ M1 = M') := by
  have hps : p.scalar = true := by rcases hp with rfl | rfl <;> rfl
  refine ACall.of Tryz.func56 rfl (n := 19) rfl rfl rfl ?_
  refine zg ?_
  refine zM (zI 0) ?_
  refine zM (.lit .nilIface) ?_
  refine zN ?_
  refine zg ?_
  refine zM (.gptr id 0) ?_
  refine zc [.gptr id 0] Tryz.call70 (copyCheck_any id hid p (.list true 5 (byteAVs l)) rfl hp M (setM M id [.gptr id 0, .list true 5 (byteAVs l)]) hM rfl) ?_
  rintro _ _ ⟨rfl, rfl⟩
  refine zN ?_
  refine zg ?_
  refine zM (.gptr id 0) ?_
  refine zM (.gptr id 0) ?_
  refine zr (znc (.gptr id 0)) ?_
  refine zr (zfG Tryz.underlying88 sizeOf_22) ?_
  refine AOps.grabG trivial rfl (by decide) rfl Tryz.underlying22 rfl setM_get rfl rfl setM_setM ?_
  refine zM (.str t) ?_
  refine AOps.appS (bytes := 1) trivial rfl (by decide) (by decide) rfl rfl rfl rfl Tryz.underlying22 Tryz.underlying9 Tryz.i5 rfl rfl rfl rfl (xs := (byteAVs l)) (l := t) (zs := (byteAVs (l ++ t))) rfl rfl (m1 := l.length) (m2 := t.length) (byteAVs_len _) rfl (by first | omega | (unfold maxLen; omega)) (by omega) (by simp [byteAVs]) ?_
  refine zr (znc (.gptr id 0)) ?_
  refine zr (zfG Tryz.underlying88 sizeOf_22) ?_
  refine AOps.storeOwn trivial rfl rfl rfl setM_get sizeOf_22 rfl (Nat.le_of_ble_eq_true rfl) setM_setM ?_
  refine zN ?_
  refine zg ?_
  refine zM (.str t) ?_
  refine zr (zS t t.length Tryz.underlying9) ?_
  refine zM (zI (t.length : Int)) ?_
  refine zM (.lit .nilIface) ?_
  refine zN ?_
  refine AWp.ret ?_
  exact ⟨.inl rfl, _, ResOf.two 4 5 (zI (t.length : Int)) (.lit .nilIface) rfl rfl (.inl rfl) (.inl rfl) (by decide), ⟨rfl, hM'⟩⟩

/-- What a builder's buffer reads as. -/
def bufAV (l : List UInt8) : AV := if l = [] then .lit (.slice none 0 0) else .list true 5 (byteAVs l)
theorem bufAV_ne {l : List UInt8} (h : l ≠ []) : bufAV l = .list true 5 (byteAVs l) := if_neg h
theorem WriteByte_any (id : Nat) (hid : id % 10000 = 88) (l : List UInt8) (hl : l.length < 140737488355328) (ch : UInt8) (p : AV) (hp : p = .lit (.pointer none) ∨ p = .gptr id 0) (M M' : Nat → Option (List AV)) (hM : M id = some [p, bufAV l]) (hM' : setM M id [.gptr id 0, bufAV (l ++ [ch])] = M') :
    ACall Tryz.prog 55 [.gptr id 0, .lit (.int .u8 (ch.toNat : Int))] M (fun r M1 => r = .lit .nilIface ∧ M1 = M') := by
  rw [bufAV_ne (by simp)] at hM'
  by_cases h : l = []
  · subst h
    exact WriteByte_nil M id hid ch p hp M' hM hM'
  · rw [bufAV_ne h] at hM
    exact WriteByte_list M id hid l hl ch p hp M' hM hM'
theorem WriteString_any (id : Nat) (hid : id % 10000 = 88) (l t : List UInt8) (hl : l.length + t.length ≤ 140737488355328) (hne : l ++ t ≠ []) (p : AV) (hp : p = .lit (.pointer none) ∨ p = .gptr id 0) (M M' : Nat → Option (List AV)) (hM : M id = some [p, bufAV l]) (hM' : setM M id [.gptr id 0, bufAV (l ++ t)] = M') :
    ACall Tryz.prog 56 [.gptr id 0, .str t] M (fun r M1 => r = .tuple [zI t.length, .lit .nilIface] ∧ M1 = M') := by
  rw [bufAV_ne hne] at hM'
  by_cases h : l = []
  · subst h
    exact WriteString_nil M id hid t (by simpa using hl) p hp M' hM hM'
  · rw [bufAV_ne h] at hM
    exact WriteString_list M id hid l t hl p hp M' hM hM'

theorem WriteByte_to (id : Nat) (hid : id % 10000 = 88) (l l2 : List UInt8) (ch : UInt8) (h2 : l ++ [ch] = l2) (hl : l.length < 140737488355328) (p : AV) (hp : p = .lit (.pointer none) ∨ p = .gptr id 0) (M M' : Nat → Option (List AV)) (hM : M id = some [p, bufAV l]) (hM' : setM M id [.gptr id 0, bufAV l2] = M') :
    ACall Tryz.prog 55 [.gptr id 0, .lit (.int .u8 (ch.toNat : Int))] M (fun r M1 => r = .lit .nilIface ∧ M1 = M') := by
  subst h2
  exact WriteByte_any id hid l hl ch p hp M M' hM hM'
theorem WriteString_to (id : Nat) (hid : id % 10000 = 88) (l t l2 : List UInt8) (h2 : l ++ t = l2) (hne : l ++ t ≠ []) (hl : l.length + t.length ≤ 140737488355328) (p : AV) (hp : p = .lit (.pointer none) ∨ p = .gptr id 0) (M M' : Nat → Option (List AV)) (hM : M id = some [p, bufAV l]) (hM' : setM M id [.gptr id 0, bufAV l2] = M') :
    ACall Tryz.prog 56 [.gptr id 0, .str t] M (fun r M1 => r = .tuple [zI t.length, .lit .nilIface] ∧ M1 = M') := by
  subst h2
  exact WriteString_any id hid l t hl hne p hp M M' hM hM'
end
section
open Go.RowKit

set_option maxHeartbeats 2000000 in
set_option maxRecDepth 100000 in
theorem String_row (b g cap : Nat) (pv : Value) (cur : Array Value) (l : List UInt8) (w : World) (hbk : w.heap[b]? = some (.cells #[pv, .slice (some ⟨g, 0, none⟩) l.length cap] 88 (0, 0)))
    (hg : w.heap[g]? = some (.cells cur 5 (0, 0))) (h0 : l ≠ []) (hn : l.length ≤ cur.size) (hcap : cap ≠ 0) (h63 : l.length ≤ 9223372036854775807) (hc : ∀ j x, l[j]? = some x → w.cell? ⟨g, j, none⟩ = some (.int .u8 x.toNat)) :
    Calls Tryz.prog 57 #[.pointer (some ⟨b, 0, none⟩)] w fun e w' => e = .returned (.string ⟨l.toArray⟩) ∧ w' = w.drew.freeze ⟨g, 0, none⟩ l.length := by
  have c1 : w.drew.cell? ⟨b, 1, none⟩ = some (.slice (some ⟨g, 0, none⟩) l.length cap) := by
    have : w.drew.heap[b]? = some (.cells #[pv, .slice (some ⟨g, 0, none⟩) l.length cap] 88 (0, 0)) := hbk
    rw [Lib.cell_of_heap this]; rfl
  have hSD : (Builtin.unsafeSliceData_ #[22] 106 #[.slice (some ⟨g, 0, none⟩) l.length cap]).run Tryz.prog w.drew = .ok (.pointer (some ⟨g, 0, none⟩)) w.drew :=
    Lib.run_unsafeSliceData_row _ _ _ _ _ _ hcap
  have hUS : (Builtin.unsafeString_ #[106, 3] 9 #[.pointer (some ⟨g, 0, none⟩), .int .i64 l.length]).run Tryz.prog w.drew = .ok (.string ⟨l.toArray⟩) (w.drew.freeze ⟨g, 0, none⟩ l.length) := by
    refine Lib.run_unsafeString_row w.drew _ _ _ 5 Tryz.underlying106 (by kernel_rfl) g cur.size (by have hg' : w.drew.heap[g]? = some (.cells cur 5 (0, 0)) := hg; simp [World.shape?, hg']) l h0 hn h63 ?_
    intro j x hx
    rw [Addr.add_mid, Nat.zero_add]
    exact hc j x hx
  have mixed : Tryz.prog.follows .mixedOrders = true := by kernel_rfl
  go_enter Tryz.func57, Tryz.ntmps57
  go_wp2
  go_region_o
  all_goals (go_wp2; go_ret; exact ⟨rfl, rfl⟩)

set_option maxHeartbeats 2000000 in
set_option maxRecDepth 100000 in
theorem String_nil (b : Nat) (pv : Value) (w : World) (hbk : w.heap[b]? = some (.cells #[pv, .slice none 0 0] 88 (0, 0))) :
    Calls Tryz.prog 57 #[.pointer (some ⟨b, 0, none⟩)] w fun e w' => e = .returned (.string ⟨#[]⟩) ∧ w' = w.drew := by
  have c1 : w.drew.cell? ⟨b, 1, none⟩ = some (.slice none 0 0) := by
    have : w.drew.heap[b]? = some (.cells #[pv, .slice none 0 0] 88 (0, 0)) := hbk
    rw [Lib.cell_of_heap this]; rfl
  have hSD : (Builtin.unsafeSliceData_ #[22] 106 #[.slice none 0 0]).run Tryz.prog w.drew = .ok (.pointer none) w.drew := rfl
  have hUS : ∀ W : World, (Builtin.unsafeString_ #[106, 3] 9 #[.pointer none, .int .i64 0]).run Tryz.prog W = .ok (.string .empty) W := fun W => Lib.run_unsafeString_none W _ _ _ none
  have mixed : Tryz.prog.follows .mixedOrders = true := by kernel_rfl
  go_enter Tryz.func57, Tryz.ntmps57
  go_wp2
  go_region_o
  all_goals (go_wp2; go_ret; exact ⟨rfl, rfl⟩)
end
section
open Go.RowKit

/-- An object less. -/
def delM (M : Nat → Option (List AV)) (id : Nat) : Nat → Option (List AV) := fun i => if i = id then none else M i
theorem delM_ne {M : Nat → Option (List AV)} {id i : Nat} (h : i ≠ id) : delM M id i = M i := by simp [delM, h]
theorem delM_set {M : Nat → Option (List AV)} {id : Nat} {cs : List AV} (h : M id = none) : delM (setM M id cs) id = M := by
  funext i; simp only [delM, setM]
  by_cases e : i = id
  · subst e; simp [h]
  · simp [e]
/-- Nobody owns what the object owned. -/
def Gh.forget (G : Gh) (id : Nat) : Gh := { G with owner := fun b => match G.owner b with | some (.mb i) => if i = id then none else some (.mb i) | some (.mc i j) => if i = id then none else some (.mc i j) | q => q }
theorem forget_own {G : Gh} {id b : Nat} {q : Pos} (h : G.owner b = some q) (h1 : q ≠ .mb id) (h2 : ∀ j, q ≠ .mc id j) : (G.forget id).owner b = some q := by
  show (match G.owner b with | some (.mb i) => if i = id then none else some (Pos.mb i) | some (.mc i j) => if i = id then none else some (.mc i j) | q => q) = some q
  rw [h]
  cases q with
  | mb i => simp only; rw [if_neg (fun e => h1 (by rw [e]))]
  | mc i j => simp only; rw [if_neg (fun e => h2 j (by rw [e]))]
  | _ => rfl
theorem forget_none {G : Gh} {id b : Nat} (h : G.owner b = none) : (G.forget id).owner b = none := by
  show (match G.owner b with | some (.mb i) => if i = id then none else some (Pos.mb i) | some (.mc i j) => if i = id then none else some (.mc i j) | q => q) = none
  rw [h]

theorem String_any (id : Nat) (hid : id % 10000 = 88) (l : List UInt8) (hl : l.length ≤ 140737488355328) (p : AV) (M M' : Nat → Option (List AV)) (hM : M id = some [p, bufAV l]) (hM' : delM M id = M') :
    ACall Tryz.prog 57 [.gptr id 0] M (fun r M1 => r = .str l ∧ M1 = M') := by
  subst hM'
  intro G w vs hm hfx hlen hrel
  obtain ⟨v, rfl, hv⟩ := arg1 hlen hrel
  cases hv with
  | gptr _ _ b hb =>
  obtain ⟨b', hb', hX⟩ := hm.obj id _ hM
  rcases hX with ⟨hH, arr0, hty⟩ | ⟨S, e, _⟩
  rotate_left
  · simp [mapA] at e
  rw [hb] at hb'
  cases hb'
  obtain ⟨arr, T, hh, hsz, ho1, ht1, hsc, hrr⟩ := hH
  rw [hh] at hty
  injection hty with hty
  injection hty with _ hT _
  rw [hid] at hT
  subst hT
  obtain ⟨pv, sv, rfl⟩ : ∃ pv sv, arr = #[pv, sv] := by
    obtain ⟨la⟩ := arr
    match la, hsz with
    | [x, y], _ => exact ⟨x, y, rfl⟩
  have hs1 := hrr 1 (bufAV l) sv rfl rfl
  -- what is to be shown of whatever world behind that keeps all but the row
  have key : ∀ (w' : World) (g : Nat), (∀ a, w'.cell? a = w.cell? a) → w'.heap.size = w.heap.size → w'.os = w.os → w'.tape = w.tape → w'.output = w.output → (∀ b, (G.owner b = none ∨ ∃ q, G.owner b = some q ∧ q ≠ .mb id ∧ ∀ j, q ≠ .mc id j) → w'.heap[b]? = w.heap[b]?) →
      ∃ r M1 G' u, Ending.returned (.string ⟨l.toArray⟩) = .returned u ∧ (r = .str l ∧ M1 = delM M id) ∧ r.isL = false ∧ RelS Tryz.prog G' w' .res r u ∧ RelM Tryz.prog G' w' M1 ∧ Keep G w G' w' := by
    intro w' g hcell hz hos htp hout hoth
    have st : Stab G w (G.forget id) w' := ⟨fun _ => Nat.le_refl _, fun b o _ => hcell _, fun _ _ h => h⟩
    refine ⟨_, _, G.forget id, _, rfl, ⟨rfl, rfl⟩, rfl, RelV.str _, ⟨fun i cs hi => ?_, fun b hb => ?_, hm.fin⟩, ⟨hos, htp, hout, by omega, fun b hb hn => ⟨forget_none hn, hoth b (.inl hn), rfl⟩, st⟩⟩
    · by_cases e : i = id
      · subst e; simp [delM] at hi
      · rw [delM_ne e] at hi
        obtain ⟨b2, hb2, hh2⟩ := hm.obj i cs hi
        have n1 : (Pos.mb i) ≠ .mb id := fun h => e (by injection h)
        have hk := hoth b2 (.inr ⟨_, hh2.own, n1, fun j h => by cases h⟩)
        refine ⟨b2, hb2, hh2.move st (by omega) hk ((forget_own hh2.own n1 (fun j h => by cases h)).trans hh2.own.symm) rfl (fun c b h1 h2 => ?_)⟩
        have n2 : ∀ j, (Pos.mc i c) ≠ .mc id j := fun j h => e (by injection h)
        exact ⟨forget_own h2 (fun h => by cases h) n2, hoth b (.inr ⟨_, h2, (fun h => by cases h), n2⟩), rfl⟩
    · exact ⟨(hm.far b (by omega)).1, forget_none (hm.far b (by omega)).2⟩
  have hd : ∀ B : Nat, Below B w w.drew := fun B => Below.drew (Below.refl B w)
  by_cases h0 : l = []
  · subst h0
    have hs : sv = .slice none 0 0 := relO_lit hs1
    subst hs
    refine (String_nil b pv w hh).mono ?_
    rintro e w' ⟨rfl, rfl⟩
    exact key w.drew 0 (fun _ => rfl) rfl rfl (hd 0).tape rfl (fun _ _ => rfl)
  · rw [bufAV_ne h0] at hs1
    rcases hs1 with ⟨size, us, hsE, hle, hsc2, hown, hr, hbk⟩ | ⟨he, _⟩
    · obtain ⟨hul, hown2⟩ := hown
      have hsize : size = 1 := by
        have := (sizeOf_5 : SizeOf _ _ _)
        unfold SizeOf at hsE this
        rw [hsE] at this
        simpa using this
      subst hsize
      rw [byteAVs_len] at hul hown2
      have hl0 : l.length ≠ 0 := by simpa using h0
      rcases hown2 with ⟨_, hz⟩ | ⟨g, cap, cur, rfl, _, hg, hcap, hcm, hcs, htk⟩
      · exact absurd hz hl0
      · obtain ⟨hb1, hb2, hb3⟩ := hbk g rfl
        have hcell : ∀ j x, l[j]? = some x → w.cell? ⟨g, j, none⟩ = some (.int .u8 x.toNat) := by
          intro j x hx
          have hjl := (List.getElem?_eq_some_iff.1 hx).1
          have hav : ((byteAVs l).flatMap AV.cells)[j]? = some (.lit (.int .u8 x.toNat)) := by rw [byteAVs_flat, byteAVs_get, hx]; rfl
          have hju : j < us.length := by omega
          have e1 := relV_lit (hr j _ us[j] hav (List.getElem?_eq_getElem hju))
          have e2 : cur.toList[j]? = some us[j] := by
            have : (cur.toList.take (l.length * 1))[j]? = some us[j] := by rw [htk]; exact List.getElem?_eq_getElem hju
            rwa [List.getElem?_take_of_lt (by omega)] at this
          rw [Lib.cell_of_heap hg, ← e1]
          simpa using e2
        refine (String_row b g cap pv cur l w hh hg h0 (by omega) (by omega) (by omega) hcell).mono ?_
        rintro e w' ⟨rfl, rfl⟩
        refine key _ g (fun a => by rw [cell_freeze]; rfl) (by rw [size_freeze]; rfl) ?_ ?_ ?_ (fun b hb => ?_)
        · unfold World.freeze; split <;> rfl
        · unfold World.freeze; split <;> exact (hd 0).tape
        · unfold World.freeze; split <;> rfl
        · rw [heap_freeze (fun e => ?_)]
          · rfl
          · subst e
            rcases hb with hb | ⟨q, hq, _, h2⟩
            · rw [hb2] at hb; cases hb
            · rw [hb2] at hq; cases hq; exact h2 1 rfl
    · exact absurd (by simpa [byteAVs] using he) h0
end
section
def blankB (c : Int) : Bool := bif c == 32 then true else bif c == 9 then true else c == 13
def okB (c : Int) : Bool := blankB c || c == 10 || (decide (32 ≤ c) && decide (c ≤ 126))
def readableB (l : List UInt8) : Bool := (l.all fun b => okB b.toNat) && decide (l.length ≤ 65536)

structure Field where
  text : List UInt8
  line : Nat
  col : Nat
  deriving DecidableEq

/-- The fields of a line's rest: n the line's number, i the place of the rest in the line. -/
def scan (n i : Nat) (s : List UInt8) : List Field :=
  match s with
  | [] => []
  | c :: r =>
    if blankB c.toNat then scan n (i + 1) r
    else if c.toNat = 35 then []
    else ⟨c :: r.takeWhile (fun c => !blankB c.toNat), n, i + 1⟩ :: scan n (i + 1 + (r.takeWhile (fun c => !blankB c.toNat)).length) (r.dropWhile (fun c => !blankB c.toNat))
termination_by s.length
decreasing_by
  all_goals simp_wf
  · have := (List.dropWhile_sublist (l := r) (fun c => !blankB c.toNat)).length_le
    omega

theorem scan_nil (n i : Nat) : scan n i [] = [] := by unfold scan; rfl
theorem scan_blank {n i : Nat} {c : UInt8} {r : List UInt8} (h : blankB c.toNat = true) : scan n i (c :: r) = scan n (i + 1) r := by
  rw [scan]; simp [h]
theorem scan_hash {n i : Nat} {c : UInt8} {r : List UInt8} (h : blankB c.toNat = false) (h2 : c.toNat = 35) : scan n i (c :: r) = [] := by
  rw [scan, if_neg (by rw [h]; simp), if_pos h2]
theorem scan_word {n i : Nat} {c : UInt8} {r : List UInt8} (h : blankB c.toNat = false) (h2 : c.toNat ≠ 35) :
    scan n i (c :: r) = ⟨c :: r.takeWhile (fun c => !blankB c.toNat), n, i + 1⟩ :: scan n (i + 1 + (r.takeWhile (fun c => !blankB c.toNat)).length) (r.dropWhile (fun c => !blankB c.toNat)) := by
  rw [scan]; simp [h, h2]

theorem drop_at {l : List UInt8} {i : Nat} (h : i < l.length) : l.drop i = l.getD i 0 :: l.drop (i + 1) := by
  rw [List.drop_eq_getElem_cons h, List.getD_eq_getElem?_getD, List.getElem?_eq_getElem h]; rfl

theorem takeWhile_to (p : UInt8 → Bool) : ∀ (l : List UInt8) (m : Nat), m ≤ l.length → (∀ j, j < m → p (l.getD j 0) = true) → (m < l.length → p (l.getD m 0) = false) → l.takeWhile p = l.take m ∧ l.dropWhile p = l.drop m
  | [], m, hm, _, _ => by simp at hm; subst hm; simp
  | c :: r, 0, _, _, h => by
    have := h (by simp)
    simp at this
    simp [this]
  | c :: r, m + 1, hm, ha, h => by
    have h0 := ha 0 (by omega)
    simp at h0
    have ih := takeWhile_to p r m (by simpa using hm) (fun j hj => by simpa using ha (j + 1) (by omega)) (fun hlt => by simpa using h (by simpa using hlt))
    simp [h0, ih]

/-- A word from i to j. -/
theorem scan_step {l : List UInt8} {n i j : Nat} (hij : i < j) (hj : j ≤ l.length) (hw : ∀ m, i ≤ m → m < j → blankB ((l.getD m 0).toNat : Int) = false) (h35 : (l.getD i 0).toNat ≠ 35) (he : j < l.length → blankB ((l.getD j 0).toNat : Int) = true) :
    scan n i (l.drop i) = ⟨(l.take j).drop i, n, i + 1⟩ :: scan n j (l.drop j) := by
  have hg : ∀ (a b : Nat), (l.drop a).getD b 0 = l.getD (a + b) 0 := by
    intro a b; rw [List.getD_eq_getElem?_getD, List.getElem?_drop, ← List.getD_eq_getElem?_getD]
  rw [drop_at (by omega : i < l.length), scan_word (hw i (Nat.le_refl _) hij) h35]
  obtain ⟨h1, h2⟩ := takeWhile_to (fun c => !blankB c.toNat) (l.drop (i + 1)) (j - (i + 1)) (by simp; omega) (fun m hm => by
    show (!blankB (((l.drop (i + 1)).getD m 0).toNat : Int)) = true
    rw [hg, hw (i + 1 + m) (by omega) (by omega)]; rfl) (fun hm => by
    simp at hm
    show (!blankB (((l.drop (i + 1)).getD (j - (i + 1)) 0).toNat : Int)) = false
    rw [hg, show i + 1 + (j - (i + 1)) = j by omega, he (by omega)]; rfl)
  rw [h1, h2]
  have e1 : (l.drop (i + 1)).drop (j - (i + 1)) = l.drop j := by rw [List.drop_drop]; congr 1; omega
  have e2 : i + 1 + ((l.drop (i + 1)).take (j - (i + 1))).length = j := by simp; omega
  rw [e1, e2]
  congr 2
  rw [List.drop_take, drop_at (by omega : i < l.length), show j - i = (j - (i + 1)) + 1 by omega, List.take_succ_cons]

theorem scan_skip {l : List UInt8} {n i : Nat} (h : i < l.length → blankB ((l.getD i 0).toNat : Int) = true) : scan n i (l.drop i) = scan n (i + 1) (l.drop (i + 1)) := by
  rcases Nat.lt_or_ge i l.length with hi | hi
  · rw [drop_at hi, scan_blank (h hi)]
  · rw [List.drop_eq_nil_of_le hi, List.drop_eq_nil_of_le (by omega), scan_nil, scan_nil]

theorem scan_end {l : List UInt8} {n i : Nat} (h : l.length ≤ i) : scan n i (l.drop i) = [] := by rw [List.drop_eq_nil_of_le h, scan_nil]
theorem scan_remark {l : List UInt8} {n i : Nat} (hi : i < l.length) (h : blankB ((l.getD i 0).toNat : Int) = false) (h2 : (l.getD i 0).toNat = 35) : scan n i (l.drop i) = [] := by rw [drop_at hi, scan_hash h h2]

/-- The lines that have fields, from the n-th on. -/
def lexFrom (n : Nat) : List (List UInt8) → List (List Field)
  | [] => []
  | s :: r => if (scan n 0 s).length = 0 then lexFrom (n + 1) r else scan n 0 s :: lexFrom (n + 1) r

theorem lexFrom_at {ls : List (List UInt8)} {k n : Nat} {s : List UInt8} (h : ls[k]? = some s) : lexFrom n (ls.drop k) = (if (scan n 0 s).length = 0 then lexFrom (n + 1) (ls.drop (k + 1)) else scan n 0 s :: lexFrom (n + 1) (ls.drop (k + 1))) := by
  obtain ⟨hlt, he⟩ := List.getElem?_eq_some_iff.1 h
  rw [List.drop_eq_getElem_cons hlt, he]
  rfl

theorem and_t {p : Prop} [Decidable p] {b : Bool} (h : (bif decide p then b else false) = true) : p ∧ b = true := by
  by_cases hp : p <;> simp [hp] at h ⊢; exact h
theorem and_f {p : Prop} [Decidable p] {b : Bool} (h : (bif decide p then b else false) = false) (hp : p) : b = false := by simpa [hp] using h
theorem ext_lt {i j : Nat} {p : Nat → Prop} (h : ∀ m, i ≤ m → m < j → p m) (hj : p j) : ∀ m, i ≤ m → m < j + 1 → p m := by
  intro m h1 h2
  rcases Nat.lt_or_ge m j with h3 | h3
  · exact h m h1 h3
  · rw [show m = j by omega]; exact hj
theorem ext_0 {j : Nat} {p : Nat → Prop} (h : ∀ m, m < j → p m) (hj : p j) : ∀ m, m < j + 1 → p m := by
  intro m h2
  rcases Nat.lt_or_ge m j with h3 | h3
  · exact h m h3
  · rw [show m = j by omega]; exact hj

theorem lex_app {ls : List (List UInt8)} {k : Nat} {out R : List (List Field)} {fl : List Field} {s : List UInt8} (hs : ls[k]? = some s) (hf : fl = scan (k + 1) 0 s) (hp : fl.length > 0) (hout : out ++ lexFrom (k + 1) (ls.drop k) = R) :
    (out ++ [fl]) ++ lexFrom (k + 1 + 1) (ls.drop (k + 1)) = R := by
  rw [lexFrom_at hs, if_neg (by rw [← hf]; omega), ← hf] at hout
  simpa using hout
theorem lex_skip {ls : List (List UInt8)} {k : Nat} {out R : List (List Field)} {fl : List Field} {s : List UInt8} (hs : ls[k]? = some s) (hf : fl = scan (k + 1) 0 s) (hp : ¬ (fl.length > 0)) (hout : out ++ lexFrom (k + 1) (ls.drop k) = R) :
    out ++ lexFrom (k + 1 + 1) (ls.drop (k + 1)) = R := by
  rw [lexFrom_at hs, if_pos (by rw [← hf]; omega)] at hout
  exact hout
theorem lex_done {ls : List (List UInt8)} {k : Nat} {out R : List (List Field)} (hk : ¬ (k < ls.length)) (hout : out ++ lexFrom (k + 1) (ls.drop k) = R) : out = R := by
  rw [List.drop_eq_nil_of_le (by omega)] at hout
  simpa [lexFrom] using hout
theorem scan_at_end {n i : Nat} {s : List UInt8} {fl R : List Field} (hi : ¬ (i < s.length)) (h : fl ++ scan n i (s.drop i) = R) : fl = R := by
  rw [scan_end (by omega)] at h; simpa using h
theorem scan_at_hash {n i : Nat} {s : List UInt8} {fl R : List Field} (hi : i < s.length) (hb : blankB ((s.getD i 0).toNat : Int) = false) (h35 : (s.getD i 0).toNat = 35) (h : fl ++ scan n i (s.drop i) = R) : fl = R := by
  rw [scan_remark hi hb h35] at h; simpa using h
theorem scan_at_blank {n i : Nat} {s : List UInt8} {fl R : List Field} (hb : blankB ((s.getD i 0).toNat : Int) = true) (h : fl ++ scan n i (s.drop i) = R) : fl ++ scan n (i + 1) (s.drop (i + 1)) = R := by
  rw [scan_skip (fun _ => hb)] at h; exact h
theorem scan_at_word {n i j : Nat} {s : List UInt8} {fl R : List Field} (hlt : i < s.length) (hb : blankB ((s.getD i 0).toNat : Int) = false) (h35 : ¬ ((s.getD i 0).toNat = 35)) (hij : i ≤ j) (hj : j ≤ s.length) (hw : ∀ m, i ≤ m → m < j → blankB ((s.getD m 0).toNat : Int) = false)
    (he : (j : Int) < (s.length : Int) → (!(blankB ((s.getD j 0).toNat : Int))) = false) (h : fl ++ scan n i (s.drop i) = R) : (fl ++ [⟨(s.take j).drop i, n, i + 1⟩]) ++ scan n (j + 1) (s.drop (j + 1)) = R ∧ i < j := by
  have hne : i ≠ j := by
    intro e
    subst e
    have := he (by omega)
    rw [hb] at this; cases this
  have hlt' : i < j := by omega
  have he' : j < s.length → blankB ((s.getD j 0).toNat : Int) = true := fun hh => by
    have := he (by omega)
    cases hbb : blankB ((s.getD j 0).toNat : Int) with
    | true => rfl
    | false => rw [hbb] at this; cases this
  rw [scan_step hlt' hj hw h35 he', scan_skip (n := n) he'] at h
  exact ⟨by simpa using h, hlt'⟩

theorem okB_go {c : Int} (h : (bif !(blankB c) then (bif c != 10 then (bif decide (c < 32) then true else decide (c > 126)) else false) else false) = false) : okB c = true := by
  unfold okB
  cases hb : blankB c with
  | true => rfl
  | false =>
    rw [hb] at h
    simp only [Bool.not_false, cond_true] at h
    by_cases h10 : c = 10
    · subst h10; rfl
    · have : (c != 10) = true := by simpa using h10
      rw [this] at h
      by_cases h32 : c < 32
      · simp [h32] at h
      · simp [h32] at h
        simp; omega
theorem okB_no {c : Int} (h : (bif !(blankB c) then (bif c != 10 then (bif decide (c < 32) then true else decide (c > 126)) else false) else false) = true) : okB c = false := by
  unfold okB
  cases hb : blankB c with
  | true => simp [hb] at h
  | false =>
    rw [hb] at h
    simp only [Bool.not_false, cond_true] at h
    by_cases h10 : c = 10
    · subst h10; simp at h
    · have : (c != 10) = true := by simpa using h10
      rw [this] at h
      by_cases h32 : c < 32
      · simp [h10]; omega
      · simp [h32] at h
        simp [h10]; omega
theorem readable_no {l : List UInt8} {k : Nat} (hk : k < l.length) (h : okB ((l.getD k 0).toNat : Int) = false) : false = readableB l := by
  have : (l.all fun b => okB b.toNat) = false := by
    cases hh : (l.all fun b => okB b.toNat) with
    | false => rfl
    | true =>
      have := List.all_eq_true.1 hh (l.getD k 0) (by rw [List.getD_eq_getElem?_getD, List.getElem?_eq_getElem hk]; exact List.getElem_mem _)
      rw [h] at this; cases this
  simp [readableB, this]
theorem readable_yes {l : List UInt8} (h : ∀ j, j < l.length → okB ((l.getD j 0).toNat : Int) = true) : decide ((l.length : Int) ≤ 65536) = readableB l := by
  have : (l.all fun b => okB b.toNat) = true := by
    refine List.all_eq_true.2 (fun b hb => ?_)
    obtain ⟨j, hj, rfl⟩ := List.mem_iff_getElem.1 hb
    have := h j hj
    rw [List.getD_eq_getElem?_getD, List.getElem?_eq_getElem hj] at this
    exact this
  rw [readableB, this, Bool.true_and]
  by_cases h : l.length ≤ 65536
  · rw [decide_eq_true h, decide_eq_true (by omega)]
  · rw [decide_eq_false h, decide_eq_false (by omega)]
theorem readable_len {l : List UInt8} (h : readableB l = true) : l.length ≤ 65536 := by
  simp [readableB] at h; exact h.2

def encF (f : Field) : AV := .agg [.str f.text, .lit (.int .i64 f.line), .lit (.int .i64 f.col)]
def encL (l : List Field) : AV := .list false 50 (l.map encF)
end
section
def errI (l : List UInt8) : Int := if readableB l then 0 else 2
def lexLines (l : List UInt8) : List (List Field) := if readableB l then lexFrom 1 (splitNl l) else []

/-- One line's fields, if there are any. -/
def emit (fl : List Field) : List (List Field) := if fl.length = 0 then [] else [fl]
theorem lexFrom_cons (n : Nat) (s : List UInt8) (r : List (List UInt8)) : lexFrom n (s :: r) = emit (scan n 0 s) ++ lexFrom (n + 1) r := by
  rw [lexFrom, emit]
  split <;> rfl

/-- What the reference still has to do at place i of the text: now the fields of the line so far, its place col. -/
def refRest (l : List UInt8) (i n col : Nat) (remark : Bool) (now : List Field) : List (List Field) :=
  match splitNl (l.drop i) with
  | [] => []
  | s :: r => emit (now ++ (if remark then [] else scan n col s)) ++ lexFrom (n + 1) r

theorem splitNl_ne_nil (l : List UInt8) : splitNl l ≠ [] := by
  intro h
  have := splitNl_len l
  rw [h] at this; simp at this

theorem ref_start (l : List UInt8) : refRest l 0 1 0 false [] = lexFrom 1 (splitNl l) := by
  unfold refRest
  rw [List.drop_zero]
  cases h : splitNl l with
  | nil => exact absurd h (splitNl_ne_nil l)
  | cons s r => simp [lexFrom_cons]

theorem ref_skip {l : List UInt8} {i n col : Nat} {rk : Bool} {now : List Field} (h : i < l.length) (h10 : ¬ ((l.getD i 0).toNat = 10)) (hb : rk = true ∨ blankB ((l.getD i 0).toNat : Int) = true) : refRest l i n col rk now = refRest l (i + 1) n (col + 1) rk now := by
  unfold refRest
  have hc : l.getD i 0 ≠ 10 := fun e => h10 (by rw [e]; rfl)
  obtain ⟨hd, tl, e1, e2⟩ := splitNl_ne hc (l.drop (i + 1))
  rw [drop_at h, e1, e2]
  rcases hb with rfl | hb
  · simp
  · simp only [scan_blank hb]

theorem takeWhile_app (p : UInt8 → Bool) : ∀ (w s : List UInt8), (∀ c ∈ w, p c = true) → (∀ c r, s = c :: r → p c = false) → (w ++ s).takeWhile p = w ∧ (w ++ s).dropWhile p = s
  | [], [], _, _ => by simp
  | [], c :: r, _, h => by simp [h c r rfl]
  | c :: w, s, hw, h => by
    have h0 := hw c (List.mem_cons_self ..)
    have ih := takeWhile_app p w s (fun c hc => hw c (List.mem_cons_of_mem _ hc)) h
    simp [h0, ih]

theorem scan_wordS {n col : Nat} {w s : List UInt8} (hw0 : w ≠ []) (hw : ∀ c ∈ w, blankB (c.toNat : Int) = false) (h35 : ∀ c r, w = c :: r → c.toNat ≠ 35) (hs : ∀ c r, s = c :: r → blankB (c.toNat : Int) = true) :
    scan n col (w ++ s) = ⟨w, n, col + 1⟩ :: scan n (col + w.length) s := by
  cases w with
  | nil => exact absurd rfl hw0
  | cons c w =>
    obtain ⟨h1, h2⟩ := takeWhile_app (fun c => !blankB c.toNat) w s (fun c hc => by show (!blankB (c.toNat : Int)) = true; rw [hw c (List.mem_cons_of_mem _ hc)]; rfl) (fun c r e => by show (!blankB (c.toNat : Int)) = false; rw [hs c r e]; rfl)
    rw [List.cons_append, scan_word (hw c (List.mem_cons_self ..)) (h35 c w rfl), h1, h2]
    congr 2
    simp; omega

/-- What holds at the reference's loop's head. -/
def RInv (l : List UInt8) (i n bg : Nat) (rk : Bool) (now : List Field) (out : List (List Field)) : Prop :=
  (i ≤ l.length ∧ out ++ refRest l i n (i - bg) rk now = lexFrom 1 (splitNl l)) ∨ (i = l.length + 1 ∧ out = lexFrom 1 (splitNl l))

theorem RInv.start (l : List UInt8) : RInv l 0 1 0 false [] [] := .inl ⟨Nat.zero_le _, by rw [List.nil_append]; exact ref_start l⟩
theorem RInv.done {l : List UInt8} {i n bg : Nat} {rk : Bool} {now : List Field} {out : List (List Field)} (h : RInv l i n bg rk now out) (hi : ¬ (i ≤ l.length)) : out = lexFrom 1 (splitNl l) := by
  rcases h with ⟨h1, _⟩ | ⟨_, h2⟩
  · exact absurd h1 hi
  · exact h2
theorem RInv.skip {l : List UInt8} {i n bg : Nat} {rk : Bool} {now : List Field} {out : List (List Field)} (h : RInv l i n bg rk now out) (hbg : bg ≤ i) (hi : i ≤ l.length) (hc : i ≠ l.length ∧ (l.getD i 0).toNat ≠ 10) (hb : rk = true ∨ blankB ((l.getD i 0).toNat : Int) = true) : RInv l (i + 1) n bg rk now out := by
  rcases h with ⟨h1, h2⟩ | ⟨h1, _⟩
  · left
    rw [ref_skip (by omega) hc.2 hb] at h2
    exact ⟨by omega, by rw [show i + 1 - bg = i - bg + 1 by omega]; exact h2⟩
  · omega
end
section
def f0 : Field := ⟨[], 0, 0⟩
theorem getD_map {α : Type} {f : α → AV} {l : List α} {j : Nat} {a : α} (h : j < l.length) : (l.map f)[j]? = some (f (l.getD j a)) := by
  rw [List.getElem?_map, List.getD_eq_getElem?_getD, List.getElem?_eq_getElem h]; rfl
/-- Lists that are no longer than memory. -/
def Small (x : List (List Field)) : Prop := x.length ≤ 140737488355328 ∧ ∀ i, (x.getD i []).length ≤ 140737488355328
/-- A line's words, with blanks between. -/
def wordsT : List Field → List UInt8
  | [] => []
  | f :: r => f.text ++ r.flatMap fun g => 32 :: g.text
/-- Lines, joined. -/
def joinT (x : List (List Field)) : List UInt8 := x.flatMap fun fs => wordsT fs ++ [10]

theorem wordsT_snoc (fs : List Field) (f : Field) : wordsT (fs ++ [f]) = (if fs.length > 0 then wordsT fs ++ [32] else wordsT fs) ++ f.text := by
  cases fs with
  | nil => simp [wordsT]
  | cons a r => simp [wordsT]
theorem take_snoc {α : Type} {d : α} {l : List α} {k : Nat} (h : k < l.length) : l.take (k + 1) = l.take k ++ [l.getD k d] := by
  rw [List.take_succ_eq_append_getElem h, List.getD_eq_getElem?_getD, List.getElem?_eq_getElem h]; rfl
theorem joinT_snoc (x : List (List Field)) (fs : List Field) : joinT (x ++ [fs]) = joinT x ++ wordsT fs ++ [10] := by
  simp [joinT]
/-- What is joined so far: i lines, and k words of the next. -/
def joinAt (x : List (List Field)) (i k : Nat) : List UInt8 := joinT (x.take i) ++ wordsT ((x.getD i []).take k)
theorem joinAt_0 (x : List (List Field)) (i : Nat) : joinAt x i 0 = joinT (x.take i) := by simp [joinAt, wordsT]
theorem joinAt_word {x : List (List Field)} {i k : Nat} (hk : k < (x.getD i []).length) :
    joinAt x i (k + 1) = (if k > 0 then joinAt x i k ++ [32] else joinAt x i k) ++ ((x.getD i []).getD k f0).text := by
  unfold joinAt
  rw [take_snoc (d := f0) hk, wordsT_snoc]
  have : ((x.getD i []).take k).length = k := by rw [List.length_take]; omega
  rw [this]
  split <;> simp
theorem joinAt_line {x : List (List Field)} {i : Nat} (hi : i < x.length) : joinT (x.take (i + 1)) = joinAt x i (x.getD i []).length ++ [10] := by
  unfold joinAt
  rw [take_snoc (d := []) hi, joinT_snoc, List.take_length]
theorem joinT_le {x : List (List Field)} (i : Nat) : (joinT (x.take i)).length ≤ (joinT x).length := by
  have : joinT x = joinT (x.take i) ++ joinT (x.drop i) := by
    rw [joinT, joinT, joinT, ← List.flatMap_append, List.take_append_drop]
  rw [this, List.length_append]; omega
theorem joinAt_mono {x : List (List Field)} {i : Nat} : ∀ (d k : Nat), k + d = (x.getD i []).length → (joinAt x i k).length ≤ (joinAt x i (x.getD i []).length).length
  | 0, k, h => by rw [show k = (x.getD i []).length by omega]; exact Nat.le_refl _
  | d + 1, k, h => by
    have h1 := joinAt_mono (x := x) (i := i) d (k + 1) (by omega)
    have h2 : (joinAt x i k).length ≤ (joinAt x i (k + 1)).length := by
      rw [joinAt_word (by omega), List.length_append]
      split
      · rw [List.length_append]; omega
      · omega
    omega
theorem joinAt_le {x : List (List Field)} {i k : Nat} (hi : i < x.length) (hk : k ≤ (x.getD i []).length) : (joinAt x i k).length + 1 ≤ (joinT x).length := by
  have h1 := joinAt_mono (x := x) (i := i) ((x.getD i []).length - k) k (by omega)
  have h2 := joinT_le (x := x) (i + 1)
  rw [joinAt_line hi, List.length_append] at h2
  have : ([10] : List UInt8).length = 1 := rfl
  omega
theorem joinAt_le2 {x : List (List Field)} {i k : Nat} (hi : i < x.length) (hk : k < (x.getD i []).length) : (joinAt x i k).length + (if k > 0 then 1 else 0) + ((x.getD i []).getD k f0).text.length + 1 ≤ (joinT x).length := by
  have h1 := joinAt_le hi (show k + 1 ≤ (x.getD i []).length by omega)
  rw [joinAt_word hk, List.length_append] at h1
  split <;> rename_i h <;> simp only [h, if_true, if_false] at h1 <;> (try rw [List.length_append] at h1) <;> (try have : ([32] : List UInt8).length = 1 := rfl) <;> omega
theorem joinAt_pos {x : List (List Field)} {i k : Nat} (hk : k < (x.getD i []).length) (h : k > 0) : (joinAt x i k ++ [32]) ++ ((x.getD i []).getD k f0).text = joinAt x i (k + 1) := by
  rw [joinAt_word hk, if_pos h]
theorem joinAt_neg {x : List (List Field)} {i k : Nat} (hk : k < (x.getD i []).length) (h : ¬ k > 0) : joinAt x i k ++ ((x.getD i []).getD k f0).text = joinAt x i (k + 1) := by
  rw [joinAt_word hk, if_neg h]
theorem joinAt_end {x : List (List Field)} {i k : Nat} (hi : i < x.length) (hk : k ≤ (x.getD i []).length) (h : ¬ k < (x.getD i []).length) : joinAt x i k ++ [10] = joinT (x.take (i + 1)) := by
  rw [joinAt_line hi, show k = (x.getD i []).length by omega]
theorem join_done {x : List (List Field)} {i : Nat} (h1 : i ≤ x.length) (h : ¬ i < x.length) : joinT (x.take i) = joinT x := by
  rw [show i = x.length by omega, List.take_length]
end
section
theorem scan_ind {P : Nat → Nat → List UInt8 → Prop} (h0 : ∀ n i, P n i []) (hb : ∀ n i c r, blankB c.toNat = true → P n (i + 1) r → P n i (c :: r)) (hh : ∀ n i c r, blankB c.toNat = false → c.toNat = 35 → P n i (c :: r))
    (hw : ∀ n i c r, blankB c.toNat = false → c.toNat ≠ 35 → P n (i + 1 + (r.takeWhile (fun c => !blankB c.toNat)).length) (r.dropWhile (fun c => !blankB c.toNat)) → P n i (c :: r)) : ∀ s n i, P n i s := by
  intro s
  induction h : s.length using Nat.strongRecOn generalizing s with
  | _ m ih =>
    intro n i
    cases s with
    | nil => exact h0 n i
    | cons c r =>
      subst h
      cases hbl : blankB c.toNat with
      | true => exact hb n i c r hbl (ih r.length (by simp) r rfl n (i + 1))
      | false =>
        by_cases h35 : c.toNat = 35
        · exact hh n i c r hbl h35
        · have hl := (List.dropWhile_sublist (l := r) (fun c => !blankB c.toNat)).length_le
          exact hw n i c r hbl h35 (ih _ (by simp; omega) _ rfl n _)

/-- A word: not empty; without blanks and lines' ends; no remark. -/
def GoodW (w : List UInt8) : Prop := w ≠ [] ∧ (∀ c ∈ w, blankB (c.toNat : Int) = false) ∧ (∀ c r, w = c :: r → c.toNat ≠ 35)
theorem scan_good : ∀ (s : List UInt8) (n i : Nat), ∀ f ∈ scan n i s, GoodW f.text ∧ f.line = n ∧ (∀ c ∈ f.text, c ∈ s) := by
  refine scan_ind (P := fun n i s => ∀ f ∈ scan n i s, GoodW f.text ∧ f.line = n ∧ (∀ c ∈ f.text, c ∈ s)) ?_ ?_ ?_ ?_
  · intro n i f hf; rw [scan_nil] at hf; cases hf
  · intro n i c r h ih f hf
    rw [scan_blank h] at hf
    obtain ⟨h1, h2, h3⟩ := ih f hf
    exact ⟨h1, h2, fun c hc => List.mem_cons_of_mem _ (h3 c hc)⟩
  · intro n i c r h h2 f hf; rw [scan_hash h h2] at hf; cases hf
  · intro n i c r h h2 ih f hf
    rw [scan_word h h2] at hf
    rcases List.mem_cons.1 hf with rfl | hf
    · refine ⟨⟨by simp, fun x hx => ?_, fun x t e => by cases e; exact h2⟩, rfl, fun x hx => ?_⟩
      · rcases List.mem_cons.1 hx with rfl | hx
        · exact h
        · have := List.all_eq_true.1 (List.all_takeWhile (p := fun (c : UInt8) => !blankB (c.toNat : Int)) (l := r)) x hx
          exact bnot_t this
      · rcases List.mem_cons.1 hx with rfl | hx
        · exact List.mem_cons_self ..
        · exact List.mem_cons_of_mem _ ((List.takeWhile_sublist _).mem hx)
    · obtain ⟨h3, h4, h5⟩ := ih f hf
      exact ⟨h3, h4, fun c hc => List.mem_cons_of_mem _ ((List.dropWhile_sublist _).mem (h5 c hc))⟩
/-- Lines' texts. -/
def textsOf (x : List (List Field)) : List (List (List UInt8)) := x.map fun fs => fs.map (·.text)
theorem textsOf_len (x : List (List Field)) : (textsOf x).length = x.length := by simp [textsOf]
def wT : List (List UInt8) → List UInt8
  | [] => []
  | w :: r => w ++ r.flatMap fun v => 32 :: v
def jT (x : List (List (List UInt8))) : List UInt8 := x.flatMap fun ws => wT ws ++ [10]
theorem wordsT_eq (fs : List Field) : wordsT fs = wT (fs.map (·.text)) := by
  cases fs with
  | nil => rfl
  | cons f r => simp [wordsT, wT, List.flatMap_map]
theorem joinT_eq (x : List (List Field)) : joinT x = jT (textsOf x) := by
  simp [joinT, jT, textsOf, List.flatMap_map, wordsT_eq]
theorem jT_app (x y : List (List (List UInt8))) : jT (x ++ y) = jT x ++ jT y := by simp [jT]
/-! Texts one behind the other. -/
theorem splitNl_app (a b : List UInt8) : splitNl (a ++ 10 :: b) = splitNl a ++ splitNl b := by
  induction a with
  | nil => rw [List.nil_append, splitNl_10, splitNl_nil]; rfl
  | cons c r ih =>
    by_cases hc : c = 10
    · subst hc
      rw [List.cons_append, splitNl_10, splitNl_10, ih]; rfl
    · obtain ⟨hd, tl, e1, e2⟩ := splitNl_ne hc (r ++ 10 :: b)
      obtain ⟨hd', tl', e3, e4⟩ := splitNl_ne hc r
      rw [List.cons_append, e2, e4]
      rw [ih, e3, List.cons_append] at e1
      cases e1
      rfl
/-! The length of what is joined. -/
theorem wT_len (ws : List (List UInt8)) (h : ws ≠ []) : (wT ws).length + 1 = (ws.map fun w => w.length + 1).sum := by
  cases ws with
  | nil => exact absurd rfl h
  | cons w r =>
    simp only [wT, List.length_append, List.map_cons, List.sum_cons]
    have : ∀ (r : List (List UInt8)), (r.flatMap fun v => 32 :: v).length = (r.map fun w => w.length + 1).sum := by
      intro r; induction r with
      | nil => rfl
      | cons v t ih => simp only [List.flatMap_cons, List.length_append, List.length_cons, List.map_cons, List.sum_cons, ih]
    rw [this]; omega
theorem words_len2 : ∀ (s : List UInt8) (n i : Nat), ((scan n i s).map fun f => f.text.length + 1).sum ≤ s.length + 1 ∧ ((s = [] ∨ ∃ x t, s = x :: t ∧ blankB x.toNat = true) → ((scan n i s).map fun f => f.text.length + 1).sum ≤ s.length) := by
  refine scan_ind (P := fun n i s => ((scan n i s).map fun f => f.text.length + 1).sum ≤ s.length + 1 ∧ ((s = [] ∨ ∃ x t, s = x :: t ∧ blankB x.toNat = true) → ((scan n i s).map fun f => f.text.length + 1).sum ≤ s.length)) ?_ ?_ ?_ ?_
  · intro n i; rw [scan_nil]; simp
  · intro n i c r h ih
    rw [scan_blank h]
    have := ih.1
    simp only [List.length_cons]
    exact ⟨by omega, fun _ => by omega⟩
  · intro n i c r h h2; rw [scan_hash h h2]; simp
  · intro n i c r h h2 ih
    rw [scan_word h h2]
    simp only [List.map_cons, List.sum_cons, List.length_cons]
    have hl : (r.takeWhile (fun c => !blankB c.toNat)).length + (r.dropWhile (fun c => !blankB c.toNat)).length = r.length := by
      rw [← List.length_append, List.takeWhile_append_dropWhile]
    have hd : r.dropWhile (fun c => !blankB c.toNat) = [] ∨ ∃ x t, r.dropWhile (fun c => !blankB c.toNat) = x :: t ∧ blankB x.toNat = true := by
      cases hx : r.dropWhile (fun c => !blankB c.toNat) with
      | nil => exact .inl rfl
      | cons x t =>
        refine .inr ⟨x, t, rfl, ?_⟩
        have := List.head_dropWhile_not (fun (c : UInt8) => !blankB (c.toNat : Int)) (l := r) (by rw [hx]; simp)
        simp only [hx, List.head_cons] at this
        exact bnot_f this
    have := ih.2 hd
    refine ⟨by omega, fun h3 => ?_⟩
    rcases h3 with h3 | ⟨x, t, h3, h4⟩
    · cases h3
    · cases h3; rw [h] at h4; cases h4
theorem words_len (s : List UInt8) (n i : Nat) : ((scan n i s).map fun f => f.text.length + 1).sum ≤ s.length + 1 := (words_len2 s n i).1
theorem wordsT_len (s : List UInt8) (n i : Nat) : (wordsT (scan n i s)).length ≤ s.length := by
  have h := words_len s n i
  rw [wordsT_eq]
  by_cases h0 : (scan n i s).map (·.text) = []
  · rw [h0]; exact Nat.zero_le _
  · have := wT_len _ h0
    rw [List.map_map] at this
    have e : ((scan n i s).map ((fun (w : List UInt8) => w.length + 1) ∘ fun x => x.text)).sum = ((scan n i s).map fun f => f.text.length + 1).sum := rfl
    omega
/-- What is joined is no longer than the text, but for one line's end. -/
theorem joinT_from_len (ls : List (List UInt8)) : ∀ n, (joinT (lexFrom n ls)).length ≤ (ls.map fun s => s.length + 1).sum := by
  induction ls with
  | nil => intro n; exact Nat.zero_le _
  | cons s r ih =>
    intro n
    have h1 := ih (n + 1)
    have h2 := wordsT_len s n 0
    rw [lexFrom]
    simp only [List.map_cons, List.sum_cons]
    split
    · omega
    · simp only [joinT, List.flatMap_cons, List.length_append] at h1 ⊢
      have : ([10] : List UInt8).length = 1 := rfl
      omega
theorem splitNl_sum : ∀ (l : List UInt8), ((splitNl l).map fun s => s.length + 1).sum = l.length + 1
  | [] => rfl
  | c :: r => by
    have ih := splitNl_sum r
    by_cases hc : c = 10
    · subst hc; rw [splitNl_10]; simp only [List.map_cons, List.sum_cons, List.length_nil, List.length_cons]; omega
    · obtain ⟨hd, tl, e1, e2⟩ := splitNl_ne hc r
      rw [e1] at ih
      rw [e2]
      simp only [List.map_cons, List.sum_cons, List.length_cons] at ih ⊢
      omega
theorem joinT_len (l : List UInt8) : (joinT (lexLines l)).length ≤ l.length + 1 := by
  unfold lexLines
  split
  · rw [← splitNl_sum]; exact joinT_from_len _ _
  · exact Nat.zero_le _
theorem lexFrom_mem (ls : List (List UInt8)) : ∀ n, ∀ fs ∈ lexFrom n ls, ∃ s ∈ ls, ∃ m, fs = scan m 0 s ∧ fs ≠ [] := by
  induction ls with
  | nil => intro n fs h; cases h
  | cons s r ih =>
    intro n fs h
    rw [lexFrom] at h
    split at h
    · obtain ⟨s', h1, h2⟩ := ih _ fs h; exact ⟨s', List.mem_cons_of_mem _ h1, h2⟩
    · rename_i h0
      rcases List.mem_cons.1 h with rfl | h
      · exact ⟨s, List.mem_cons_self .., n, rfl, fun e => h0 (by rw [e]; rfl)⟩
      · obtain ⟨s', h1, h2⟩ := ih _ fs h; exact ⟨s', List.mem_cons_of_mem _ h1, h2⟩
/-- A line's end stands in no line. -/
theorem splitNl_no10 : ∀ (l : List UInt8), ∀ s ∈ splitNl l, (10 : UInt8) ∉ s
  | [], s, h => by rw [splitNl_nil] at h; simp at h; subst h; simp
  | c :: r, s, h => by
    have ih := splitNl_no10 r
    by_cases hc : c = 10
    · subst hc
      rw [splitNl_10] at h
      rcases List.mem_cons.1 h with rfl | h
      · simp
      · exact ih s h
    · obtain ⟨hd, tl, e1, e2⟩ := splitNl_ne hc r
      rw [e2] at h
      rw [e1] at ih
      rcases List.mem_cons.1 h with rfl | h
      · intro hm
        rcases List.mem_cons.1 hm with e | e
        · exact hc e.symm
        · exact ih hd (List.mem_cons_self ..) e
      · exact ih s (List.mem_cons_of_mem _ h)
theorem splitNl_sub : ∀ (l : List UInt8), ∀ s ∈ splitNl l, ∀ c ∈ s, c ∈ l
  | [], s, h, c, hc => by rw [splitNl_nil] at h; simp at h; subst h; cases hc
  | x :: r, s, h, c, hc => by
    have ih := splitNl_sub r
    by_cases hx : x = 10
    · subst hx
      rw [splitNl_10] at h
      rcases List.mem_cons.1 h with rfl | h
      · cases hc
      · exact List.mem_cons_of_mem _ (ih s h c hc)
    · obtain ⟨hd, tl, e1, e2⟩ := splitNl_ne hx r
      rw [e2] at h
      rw [e1] at ih
      rcases List.mem_cons.1 h with rfl | h
      · rcases List.mem_cons.1 hc with rfl | hc
        · exact List.mem_cons_self ..
        · exact List.mem_cons_of_mem _ (ih hd (List.mem_cons_self ..) c hc)
      · exact List.mem_cons_of_mem _ (ih s (List.mem_cons_of_mem _ h) c hc)
theorem lex_good (l : List UInt8) : ∀ fs ∈ lexLines l, fs ≠ [] ∧ ∀ f ∈ fs, GoodW f.text ∧ (∀ c ∈ f.text, c ≠ 10 ∧ okB (c.toNat : Int) = true) := by
  intro fs h
  unfold lexLines at h
  split at h
  · rename_i hr
    obtain ⟨s, hs, m, rfl, h0⟩ := lexFrom_mem _ _ fs h
    refine ⟨h0, fun f hf => ?_⟩
    obtain ⟨h1, _, h3⟩ := scan_good s m 0 f hf
    refine ⟨h1, fun c hc => ⟨fun e => ?_, ?_⟩⟩
    · subst e; exact splitNl_no10 l s hs (h3 _ hc)
    · simp only [readableB, Bool.and_eq_true] at hr
      exact List.all_eq_true.1 hr.1 c (splitNl_sub l s hs c (h3 c hc))
  · cases h
end
section
theorem blank32 : blankB ((32 : UInt8).toNat : Int) = true := rfl
theorem scan_blanks : ∀ (ws : List (List UInt8)), (∀ w ∈ ws, GoodW w) → ∀ n i, (scan n i (ws.flatMap fun v => 32 :: v)).map (·.text) = ws
  | [], _, n, i => by simp [scan_nil]
  | w :: r, h, n, i => by
    have hw := h w (List.mem_cons_self ..)
    have ih := scan_blanks r (fun v hv => h v (List.mem_cons_of_mem _ hv))
    rw [List.flatMap_cons, List.cons_append, scan_blank blank32, scan_wordS hw.1 hw.2.1 hw.2.2]
    · simp only [List.map_cons, ih]
    · intro c t e
      cases r with
      | nil => cases e
      | cons v t' => rw [List.flatMap_cons] at e; cases e; exact blank32
theorem scan_wT (ws : List (List UInt8)) (h : ∀ w ∈ ws, GoodW w) (n i : Nat) : (scan n i (wT ws)).map (·.text) = ws := by
  cases ws with
  | nil => simp [wT, scan_nil]
  | cons w r =>
    have hw := h w (List.mem_cons_self ..)
    have ih := scan_blanks r (fun v hv => h v (List.mem_cons_of_mem _ hv))
    rw [wT, scan_wordS hw.1 hw.2.1 hw.2.2]
    · simp only [List.map_cons, ih]
    · intro c t e
      cases r with
      | nil => cases e
      | cons v t' => rw [List.flatMap_cons] at e; cases e; exact blank32
theorem splitNl_one : ∀ (s : List UInt8), (10 : UInt8) ∉ s → splitNl s = [s]
  | [], _ => rfl
  | c :: r, h => by
    have ih := splitNl_one r (fun e => h (List.mem_cons_of_mem _ e))
    obtain ⟨hd, tl, e1, e2⟩ := splitNl_ne (c := c) (fun e => h (by rw [e]; exact List.mem_cons_self ..)) r
    rw [ih] at e1
    cases e1
    exact e2
theorem wT_mem {ws : List (List UInt8)} {c : UInt8} (h : c ∈ wT ws) : c = 32 ∨ ∃ w ∈ ws, c ∈ w := by
  cases ws with
  | nil => cases h
  | cons w r =>
    rw [wT, List.mem_append] at h
    rcases h with h | h
    · exact .inr ⟨w, List.mem_cons_self .., h⟩
    · obtain ⟨v, hv, hc⟩ := List.mem_flatMap.1 h
      rcases List.mem_cons.1 hc with rfl | hc
      · exact .inl rfl
      · exact .inr ⟨v, List.mem_cons_of_mem _ hv, hc⟩
/-- Words that may be joined: good ones, without lines' ends, of readable letters. -/
def JoinOk (x : List (List (List UInt8))) : Prop := ∀ ws ∈ x, ws ≠ [] ∧ ∀ w ∈ ws, GoodW w ∧ ∀ c ∈ w, c ≠ 10 ∧ okB (c.toNat : Int) = true
theorem splitNl_jT : ∀ (x : List (List (List UInt8))), JoinOk x → splitNl (jT x) = x.map wT ++ [[]]
  | [], _ => rfl
  | ws :: r, h => by
    have ih := splitNl_jT r (fun v hv => h v (List.mem_cons_of_mem _ hv))
    have e : jT (ws :: r) = wT ws ++ 10 :: jT r := by simp [jT]
    rw [e, splitNl_app, ih, splitNl_one]
    · rfl
    · intro hm
      rcases wT_mem hm with h1 | ⟨w, hw, hc⟩
      · cases h1
      · exact ((h ws (List.mem_cons_self ..)).2 w hw).2 10 hc |>.1 rfl
def relaid : Nat → List (List (List UInt8)) → List (List Field)
  | _, [] => []
  | n, ws :: r => scan n 0 (wT ws) :: relaid (n + 1) r
theorem lexFrom_wT : ∀ (x : List (List (List UInt8))) (n : Nat), JoinOk x → lexFrom n (x.map wT ++ [[]]) = relaid n x
  | [], n, _ => by simp [lexFrom, relaid, scan_nil]
  | ws :: r, n, h => by
    have ih := lexFrom_wT r (n + 1) (fun v hv => h v (List.mem_cons_of_mem _ hv))
    have hs := scan_wT ws (fun w hw => ((h ws (List.mem_cons_self ..)).2 w hw).1) n 0
    rw [List.map_cons, List.cons_append, lexFrom, ih, relaid, if_neg]
    intro e
    rw [List.length_eq_zero_iff.1 e] at hs
    exact (h ws (List.mem_cons_self ..)).1 hs.symm
theorem relaid_texts : ∀ (x : List (List (List UInt8))) (n : Nat), JoinOk x → textsOf (relaid n x) = x
  | [], n, _ => rfl
  | ws :: r, n, h => by
    have ih := relaid_texts r (n + 1) (fun v hv => h v (List.mem_cons_of_mem _ hv))
    have hs := scan_wT ws (fun w hw => ((h ws (List.mem_cons_self ..)).2 w hw).1) n 0
    simp only [textsOf] at ih
    simp only [relaid, textsOf, List.map_cons, hs, ih]
theorem relaid_line : ∀ (x : List (List (List UInt8))) (n i : Nat) (fs : List Field), (relaid n x)[i]? = some fs → ∀ f ∈ fs, f.line = n + i
  | [], n, i, fs, h => by cases h
  | ws :: r, n, 0, fs, h => by
    simp only [relaid, List.getElem?_cons_zero, Option.some.injEq] at h
    subst h
    intro f hf
    exact (scan_good _ _ _ f hf).2.1
  | ws :: r, n, i + 1, fs, h => by
    simp only [relaid, List.getElem?_cons_succ] at h
    intro f hf
    have := relaid_line r (n + 1) i fs h f hf
    omega
theorem lex_ok (b : List UInt8) : JoinOk (textsOf (lexLines b)) := by
  intro ws hws
  obtain ⟨fs, hfs, rfl⟩ := List.mem_map.1 hws
  obtain ⟨h1, h2⟩ := lex_good b fs hfs
  refine ⟨fun e => h1 (List.map_eq_nil_iff.1 e), fun w hw => ?_⟩
  obtain ⟨f, hf, rfl⟩ := List.mem_map.1 hw
  exact h2 f hf
theorem readable_jT {x : List (List (List UInt8))} (h : JoinOk x) (hl : (jT x).length ≤ 65536) : readableB (jT x) = true := by
  simp only [readableB, Bool.and_eq_true, decide_eq_true_eq]
  refine ⟨List.all_eq_true.2 (fun c hc => ?_), hl⟩
  obtain ⟨ws, hws, hc⟩ := List.mem_flatMap.1 hc
  rcases List.mem_append.1 hc with hc | hc
  · rcases wT_mem hc with rfl | ⟨w, hw, hc⟩
    · rfl
    · exact (((h ws hws).2 w hw).2 c hc).2
  · simp at hc; subst hc; rfl

/-- What is joined is read again. -/
structure Again (l m : List (List Field)) (s : List UInt8) : Prop where
  rd : readableB s = true
  len : m.length = l.length
  lens : ∀ i, (m.getD i []).length = (l.getD i []).length
  text : ∀ i k, ((m.getD i []).getD k f0).text = ((l.getD i []).getD k f0).text
  line : ∀ i k, i < m.length → k < (m.getD i []).length → ((m.getD i []).getD k f0).line = i + 1
  join : joinT m = s
theorem texts_at (x : List (List Field)) (i k : Nat) : ((x.getD i []).getD k f0).text = (((textsOf x).getD i []).getD k []) ∧ (x.getD i []).length = ((textsOf x).getD i []).length := by
  have e : (textsOf x).getD i [] = (x.getD i []).map (·.text) := by
    rw [textsOf, List.getD_eq_getElem?_getD, List.getElem?_map, List.getD_eq_getElem?_getD]
    cases x[i]? <;> rfl
  rw [e]
  generalize x.getD i [] = fs
  refine ⟨?_, by simp⟩
  rw [List.getD_eq_getElem?_getD, List.getD_eq_getElem?_getD, List.getElem?_map]
  cases fs[k]? <;> rfl
theorem again (b : List UInt8) (hb : b.length ≤ 5000) : Again (lexLines b) (lexLines (joinT (lexLines b))) (joinT (lexLines b)) := by
  have hok := lex_ok b
  have hlen := joinT_len b
  have hr : readableB (joinT (lexLines b)) = true := by
    rw [joinT_eq] at hlen ⊢
    exact readable_jT hok (by omega)
  have hm : lexLines (joinT (lexLines b)) = relaid 1 (textsOf (lexLines b)) := by
    rw [lexLines, hr, if_pos rfl, joinT_eq, splitNl_jT _ hok, lexFrom_wT _ _ hok]
  have ht : textsOf (lexLines (joinT (lexLines b))) = textsOf (lexLines b) := by rw [hm, relaid_texts _ _ hok]
  refine ⟨hr, ?_, fun i => ?_, fun i k => ?_, fun i k hi hk => ?_, ?_⟩
  · rw [← textsOf_len, ht, textsOf_len]
  · rw [(texts_at _ i 0).2, ht, ← (texts_at _ i 0).2]
  · rw [(texts_at _ i k).1, ht, ← (texts_at _ i k).1]
  · have h1 : (lexLines (joinT (lexLines b)))[i]? = some ((lexLines (joinT (lexLines b))).getD i []) := by
      rw [List.getD_eq_getElem?_getD, List.getElem?_eq_getElem hi]; rfl
    have h2 : ((lexLines (joinT (lexLines b))).getD i []).getD k f0 ∈ (lexLines (joinT (lexLines b))).getD i [] := by
      generalize (lexLines (joinT (lexLines b))).getD i [] = fs at hk
      rw [List.getD_eq_getElem?_getD, List.getElem?_eq_getElem hk]; exact List.getElem_mem _
    have h3 : (relaid 1 (textsOf (lexLines b)))[i]? = some ((lexLines (joinT (lexLines b))).getD i []) := by rw [← hm]; exact h1
    have := relaid_line _ 1 i _ h3 _ h2
    omega
  · rw [joinT_eq, ht, ← joinT_eq]

/-! Remarks. -/
end
section
open Go.RowKit

structure Cfg where
  c0 : Int
  c1 : Int
  c2 : Int
  a0 : Int
  a1 : Int
  a2 : Int
  thr : List Thr
  per : Int
  ret : Int
  age : Int
  ded : Int
  deriving DecidableEq
def cf0 : Cfg := ⟨0, 0, 0, 0, 0, 0, [], 0, 0, 0, 0⟩
/-- A config's cells. -/
def cells (o : Bool) (c : Cfg) : List AV := [.lit (.int .i64 c.c0), .lit (.int .i64 c.c1), .lit (.int .i64 c.c2), .lit (.int .i64 c.a0), .lit (.int .i64 c.a1), .lit (.int .i64 c.a2), .list o 40 (c.thr.map encT), .lit (.int .i64 c.per), .lit (.int .i64 c.ret), .lit (.int .i64 c.age), .lit (.int .i64 c.ded)]
def encC (c : Cfg) : AV := .agg (cells false c)
def cpL : List UInt8 := [99, 97, 112, 97, 99, 105, 116, 121]
def alL : List UInt8 := [97, 108, 108, 111, 99, 97, 116, 97, 98, 108, 101]
def peL : List UInt8 := [112, 101, 114, 105, 111, 100]
def reL : List UInt8 := [114, 101, 116, 114, 105, 101, 115]
def agL : List UInt8 := [109, 97, 120, 97, 103, 101]
def deL : List UInt8 := [100, 101, 97, 100]
def trL : List UInt8 := [116, 104, 114, 101, 115, 104, 111, 108, 100]
def cwL : List (List UInt8) := [cpL, alL, peL, reL, agL, deL]
def kOf (w : List UInt8) : Int := if w = cpL then 0 else if w = alL then 1 else if w = peL then 2 else if w = reL then 3 else if w = agL then 4 else if w = deL then 5 else -1
theorem k_cases (w : List UInt8) : (kOf w = -1 ∧ w ∉ cwL) ∨ (kOf w = 0 ∧ w = cpL) ∨ (kOf w = 1 ∧ w = alL) ∨ (kOf w = 2 ∧ w = peL) ∨ (kOf w = 3 ∧ w = reL) ∨ (kOf w = 4 ∧ w = agL) ∨ (kOf w = 5 ∧ w = deL) := by
  unfold kOf
  by_cases h0 : w = cpL
  · exact .inr (.inl ⟨if_pos h0, h0⟩)
  · rw [if_neg h0]
    by_cases h1 : w = alL
    · exact .inr (.inr (.inl ⟨if_pos h1, h1⟩))
    · rw [if_neg h1]
      by_cases h2 : w = peL
      · exact .inr (.inr (.inr (.inl ⟨if_pos h2, h2⟩)))
      · rw [if_neg h2]
        by_cases h3 : w = reL
        · exact .inr (.inr (.inr (.inr (.inl ⟨if_pos h3, h3⟩))))
        · rw [if_neg h3]
          by_cases h4 : w = agL
          · exact .inr (.inr (.inr (.inr (.inr (.inl ⟨if_pos h4, h4⟩)))))
          · rw [if_neg h4]
            by_cases h5 : w = deL
            · exact .inr (.inr (.inr (.inr (.inr (.inr ⟨if_pos h5, h5⟩)))))
            · rw [if_neg h5]
              exact .inl ⟨rfl, by simp [cwL, h0, h1, h2, h3, h4, h5]⟩
theorem k_mem {w : List UInt8} : 0 ≤ kOf w ↔ w ∈ cwL := by
  rcases k_cases w with ⟨h, h2⟩ | ⟨h, h2⟩ | ⟨h, h2⟩ | ⟨h, h2⟩ | ⟨h, h2⟩ | ⟨h, h2⟩ | ⟨h, h2⟩
  · rw [h]; exact ⟨fun e => by omega, fun e => absurd e h2⟩
  all_goals subst h2; rw [h]; exact ⟨fun _ => by decide, fun _ => by decide⟩

def setC (c : Cfg) (k : Int) (n : List Int) : Cfg :=
  if k = 0 then { c with c0 := n.getD 0 0, c1 := n.getD 1 0, c2 := n.getD 2 0 } else if k = 1 then { c with a0 := n.getD 0 0, a1 := n.getD 1 0, a2 := n.getD 2 0 }
  else if k = 2 then { c with per := n.getD 0 0 } else if k = 3 then { c with ret := n.getD 0 0 } else if k = 4 then { c with age := n.getD 0 0 } else if k = 5 then { c with ded := n.getD 0 0 } else c
def IsThr (ws : List (List UInt8)) : Prop := ws.getD 0 [] = trL ∧ ws.length = 2
instance (ws : List (List UInt8)) : Decidable (IsThr ws) := by unfold IsThr; infer_instance
def Fits (ws : List (List UInt8)) : Prop := 0 ≤ kOf (ws.getD 0 []) ∧ ws.length = (if kOf (ws.getD 0 []) < 2 then 4 else 2) ∧ ∀ w ∈ ws.drop 1, qe w = 0
instance (ws : List (List UInt8)) : Decidable (Fits ws) := by unfold Fits; infer_instance
/-- What a line comes to: an error, a config, the words that were. -/
def clE (sn ws : List (List UInt8)) : Int := if IsThr ws then errT (ws.getD 1 []) else if Fits ws then (if ws.getD 0 [] ∈ sn then 5 else 0) else 2
def clC (c : Cfg) (ws : List (List UInt8)) : Cfg := if IsThr ws then { c with thr := c.thr ++ [readT (ws.getD 1 [])] } else setC c (kOf (ws.getD 0 [])) ((ws.drop 1).map fun w => (qv w : Int))
def clS (sn ws : List (List UInt8)) : List (List UInt8) := if IsThr ws then sn else sn ++ [ws.getD 0 []]
def ftx (l : List Field) : List (List UInt8) := l.map (·.text)
theorem ftx_get (l : List Field) (i : Nat) : (l.getD i f0).text = (ftx l).getD i [] := by
  unfold ftx
  rw [List.getD_eq_getElem?_getD, List.getD_eq_getElem?_getD, List.getElem?_map]
  cases l[i]? <;> rfl
theorem ftx_len (l : List Field) : (ftx l).length = l.length := List.length_map ..
def runC : Cfg → List (List UInt8) → List (List Field) → Int × Nat × Cfg × List (List UInt8)
  | c, sn, [] => (0, 0, c, sn)
  | c, sn, l :: r => if clE sn (ftx l) = 0 then runC (clC c (ftx l)) (clS sn (ftx l)) r else (clE sn (ftx l), (l.getD 0 f0).line, cf0, [])
def RightC (c : Cfg) : Prop := 1 ≤ c.c0 ∧ 1 ≤ c.c1 ∧ 1 ≤ c.c2 ∧ 0 ≤ c.a0 ∧ 0 ≤ c.a1 ∧ 0 ≤ c.a2 ∧ c.a1 ≤ c.c0 ∧ c.a2 ≤ c.c2 ∧ c.thr.length ≤ 12 ∧ (∀ t ∈ c.thr, RightT t) ∧ 1 ≤ c.per ∧ c.per ≤ 1000 ∧ 1 ≤ c.age ∧ c.age ≤ 1000 ∧ 0 ≤ c.ret ∧ c.ret ≤ 20 ∧ 0 ≤ c.ded ∧ c.ded ≤ 100
instance (c : Cfg) : Decidable (RightC c) := by unfold RightC; infer_instance
def rawC (b : List UInt8) : Int × Nat × Cfg × List (List UInt8) := runC cf0 [] (lexLines b)
def cfE (b : List UInt8) : Int := if readableB b = false then 2 else if (rawC b).1 ≠ 0 then (rawC b).1 else if (rawC b).2.2.2.length < 6 then 4 else if RightC (rawC b).2.2.1 then 0 else 1
def cfN (b : List UInt8) : Nat := if readableB b = true ∧ (rawC b).1 ≠ 0 then (rawC b).2.1 else 0
def cfC (b : List UInt8) : Cfg := if cfE b = 0 then (rawC b).2.2.1 else cf0

theorem drop_cons {α : Type} {d : α} {l : List α} {i : Nat} (h : i < l.length) : l.drop i = l.getD i d :: l.drop (i + 1) := by
  rw [List.drop_eq_getElem_cons h, List.getD_eq_getElem?_getD, List.getElem?_eq_getElem h]; rfl
theorem run_ok {c : Cfg} {sn : List (List UInt8)} {L : List (List Field)} {i : Nat} (h : i < L.length) (he : clE sn (ftx (L.getD i [])) = 0) : runC c sn (L.drop i) = runC (clC c (ftx (L.getD i []))) (clS sn (ftx (L.getD i []))) (L.drop (i + 1)) := by
  rw [drop_cons h]; exact if_pos he
theorem run_bad {c : Cfg} {sn : List (List UInt8)} {L : List (List Field)} {i : Nat} (h : i < L.length) (he : clE sn (ftx (L.getD i [])) ≠ 0) : runC c sn (L.drop i) = (clE sn (ftx (L.getD i [])), ((L.getD i []).getD 0 f0).line, cf0, []) := by
  rw [drop_cons h]; exact if_neg he
theorem run_end {c : Cfg} {sn : List (List UInt8)} {L : List (List Field)} {i : Nat} (h : L.length ≤ i) : runC c sn (L.drop i) = (0, 0, c, sn) := by
  rw [List.drop_eq_nil_of_le h]; rfl
/-- The words that were: each once. -/
def SeenOk (sn : List (List UInt8)) : Prop := sn.Nodup ∧ ∀ w ∈ sn, w ∈ cwL
theorem seen_step {sn ws : List (List UInt8)} (h : SeenOk sn) (he : clE sn ws = 0) : SeenOk (clS sn ws) := by
  unfold clS
  unfold clE at he
  split
  · exact h
  · rename_i ht
    rw [if_neg ht] at he
    split at he
    · rename_i hf
      split at he
      · cases he
      · rename_i hn
        refine ⟨List.nodup_append.2 ⟨h.1, by simp, fun a ha b hb => ?_⟩, fun w hw => ?_⟩
        · rw [List.mem_singleton.1 hb]; exact fun e => hn (by rw [← e]; exact ha)
        · rcases List.mem_append.1 hw with hw | hw
          · exact h.2 w hw
          · rw [List.mem_singleton.1 hw]; exact k_mem.1 hf.1
    · cases he
theorem clC_thr {c : Cfg} {ws : List (List UInt8)} : (clC c ws).thr.length ≤ c.thr.length + 1 := by
  unfold clC
  split
  · simp
  · unfold setC
    (repeat' split) <;> exact Nat.le_succ _
end
section
open Go.RowKit

def zW (n : Int) : List UInt8 := printV n.toNat
theorem zw_len {n : Int} (h : n ≤ 9223372036854775807) : (zW n).length ≤ 21 := printV_len _ (by omega)
def hdL (c : Cfg) : List (List (List UInt8)) := [[cpL, zW c.c0, zW c.c1, zW c.c2], [alL, zW c.a0, zW c.a1, zW c.a2]]
def thL (c : Cfg) : List (List (List UInt8)) := c.thr.map fun t => [trL, printT t]
def tlL (c : Cfg) : List (List (List UInt8)) := [[peL, zW c.per], [reL, zW c.ret], [agL, zW c.age], [deL, zW c.ded]]
def linesC (c : Cfg) : List (List (List UInt8)) := hdL c ++ thL c ++ tlL c
def textC (c : Cfg) : List UInt8 := jT (linesC c)
def fldsOf (ws : List (List UInt8)) : List Field := ws.map fun w => ⟨w, 0, 0⟩
/-- Numbers that are ints. -/
structure InR (c : Cfg) : Prop where
  c0 : c.c0 ≤ 9223372036854775807
  c1 : c.c1 ≤ 9223372036854775807
  c2 : c.c2 ≤ 9223372036854775807
  a0 : c.a0 ≤ 9223372036854775807
  a1 : c.a1 ≤ 9223372036854775807
  a2 : c.a2 ≤ 9223372036854775807
  per : c.per ≤ 9223372036854775807
  ret : c.ret ≤ 9223372036854775807
  age : c.age ≤ 9223372036854775807
  ded : c.ded ≤ 9223372036854775807
  thr : ∀ t ∈ c.thr, t.amt ≤ 9223372036854775807
def prtC (c : Cfg) : AV := .tuple [.str (if RightC c then textC c else []), .lit (.int .i64 (if RightC c then 0 else 1))]
theorem prt_no {c : Cfg} (h : ¬ RightC c) : AV.tuple [.str [], .lit (.int .i64 1)] = prtC c := by unfold prtC; rw [if_neg h, if_neg h]
theorem prt_ok {c : Cfg} (h : RightC c) : AV.tuple [.str (textC c), .lit (.int .i64 0)] = prtC c := by unfold prtC; rw [if_pos h, if_pos h]

/-- What is printed: numbers that aren't below 0, right thresholds. -/
structure PrC (c : Cfg) : Prop where
  c0 : 0 ≤ c.c0
  c1 : 0 ≤ c.c1
  c2 : 0 ≤ c.c2
  a0 : 0 ≤ c.a0
  a1 : 0 ≤ c.a1
  a2 : 0 ≤ c.a2
  per : 0 ≤ c.per
  ret : 0 ≤ c.ret
  age : 0 ≤ c.age
  ded : 0 ≤ c.ded
  len : c.thr.length ≤ 12
  thr : ∀ t ∈ c.thr, RightT t
theorem prC {c : Cfg} (h : RightC c) : PrC c := by
  obtain ⟨p0, p1, p2, p3, p4, p5, _, _, p6, p7, p8, _, p9, _, p10, _, p11, _⟩ := h
  exact ⟨by omega, by omega, by omega, p3, p4, p5, by omega, p10, by omega, p11, p6, p7⟩

/-- Words of digits and letters. -/
def Plain (w : List UInt8) : Prop := w ≠ [] ∧ ∀ c ∈ w, 37 ≤ c.toNat ∧ c.toNat ≤ 126
theorem plain_digs (n : Nat) : ∀ c ∈ digs n, 37 ≤ c.toNat ∧ c.toNat ≤ 126 := by
  intro c hc
  have := digs_isD n c hc
  rw [isD_iff] at this
  simp at this
  omega
theorem plain_print (n : Nat) : Plain (printV n) := by
  unfold printV
  split
  · exact ⟨by simp, by decide⟩
  · split
    · rename_i u hu
      have hm := List.mem_of_find?_eq_some hu
      have hall : ∀ u ∈ unitL, ∀ c ∈ u.1, 37 ≤ c.toNat ∧ c.toNat ≤ 126 := by decide
      refine ⟨fun e => digs_ne _ (List.append_eq_nil_iff.1 e).1, fun c hc => ?_⟩
      rcases List.mem_append.1 hc with h | h
      · exact plain_digs _ c h
      · exact hall u hm c h
    · exact ⟨digs_ne _, plain_digs _⟩
theorem plain_thr (t : Thr) : Plain (printT t) := by
  have hw : ∀ c ∈ wordOf t.sig, 37 ≤ c.toNat ∧ c.toNat ≤ 126 := by unfold wordOf; split; decide; split <;> decide
  have hv : ∀ c ∈ valT t, 37 ≤ c.toNat ∧ c.toNat ≤ 126 := by
    unfold valT
    split
    · intro c hc
      rcases List.mem_append.1 hc with h | h
      · exact plain_digs _ c h
      · rw [List.mem_singleton.1 h]; decide
    · exact (plain_print _).2
  refine ⟨by unfold printT; simp, fun c hc => ?_⟩
  unfold printT at hc
  rcases List.mem_append.1 hc with hc | hc
  · rcases List.mem_append.1 hc with hc | hc
    · rcases List.mem_append.1 hc with hc | hc
      · exact hw c hc
      · rw [List.mem_singleton.1 hc]; decide
    · exact hv c hc
  · split at hc
    · rcases List.mem_append.1 hc with hc | hc
      · rw [List.mem_singleton.1 hc]; decide
      · exact plain_digs _ c hc
    · cases hc
theorem plain_good {w : List UInt8} (h : Plain w) : GoodW w ∧ ∀ c ∈ w, c ≠ 10 ∧ okB (c.toNat : Int) = true := by
  refine ⟨⟨h.1, fun c hc => ?_, fun c r e => ?_⟩, fun c hc => ?_⟩
  · have := h.2 c hc
    unfold blankB
    rw [beq_eq_false_iff_ne.2 (by omega), beq_eq_false_iff_ne.2 (by omega)]
    exact beq_eq_false_iff_ne.2 (by omega)
  · have := h.2 c (by rw [e]; exact List.mem_cons_self ..)
    omega
  · have := h.2 c hc
    refine ⟨?_, ?_⟩
    · rintro rfl; revert this; decide
    · unfold okB
      rw [decide_eq_true (show (32 : Int) ≤ (c.toNat : Int) by omega), decide_eq_true (show (c.toNat : Int) ≤ 126 by omega)]
      simp
theorem lines_plain (c : Cfg) : ∀ ws ∈ linesC c, ws ≠ [] ∧ ∀ w ∈ ws, Plain w := by
  have hz : ∀ n, Plain (zW n) := fun n => plain_print _
  have hk : ∀ w ∈ cwL, Plain w := by
    intro w hw
    refine ⟨?_, ?_⟩ <;> revert w <;> decide
  have ht : Plain trL := ⟨by decide, by decide⟩
  have h1 : ∀ w ∈ cwL, ∀ x y z, [w, zW x, zW y, zW z] ≠ [] ∧ ∀ v ∈ [w, zW x, zW y, zW z], Plain v := fun w hw x y z => ⟨by simp, fun v hv => by
    simp only [List.mem_cons, List.mem_nil_iff, or_false] at hv
    rcases hv with rfl | rfl | rfl | rfl
    · exact hk _ hw
    all_goals exact hz _⟩
  have h2 : ∀ w ∈ cwL, ∀ x, [w, zW x] ≠ [] ∧ ∀ v ∈ [w, zW x], Plain v := fun w hw x => ⟨by simp, fun v hv => by
    simp only [List.mem_cons, List.mem_nil_iff, or_false] at hv
    rcases hv with rfl | rfl
    · exact hk _ hw
    · exact hz _⟩
  intro ws hws
  rcases List.mem_append.1 hws with hws | hws
  · rcases List.mem_append.1 hws with hws | hws
    · simp only [hdL, List.mem_cons, List.mem_nil_iff, or_false] at hws
      rcases hws with rfl | rfl
      · exact h1 _ (by decide) _ _ _
      · exact h1 _ (by decide) _ _ _
    · obtain ⟨t, _, rfl⟩ := List.mem_map.1 hws
      refine ⟨by simp, fun v hv => ?_⟩
      simp only [List.mem_cons, List.mem_nil_iff, or_false] at hv
      rcases hv with rfl | rfl
      · exact ht
      · exact plain_thr t
  · simp only [tlL, List.mem_cons, List.mem_nil_iff, or_false] at hws
    rcases hws with rfl | rfl | rfl | rfl <;> exact h2 _ (by decide) _
theorem join_plain {x : List (List (List UInt8))} (h : ∀ ws ∈ x, ws ≠ [] ∧ ∀ w ∈ ws, Plain w) : JoinOk x := fun ws hws => ⟨(h ws hws).1, fun w hw => plain_good ((h ws hws).2 w hw)⟩

theorem thL_len (c : Cfg) : (thL c).length = c.thr.length := List.length_map ..
theorem lines_len (c : Cfg) : (linesC c).length = c.thr.length + 6 := by
  unfold linesC; rw [List.length_append, List.length_append, thL_len]; show 2 + _ + 4 = _; omega
theorem thr_mem2 {ts : List Thr} {i : Nat} (h : i < ts.length) : ts.getD i t0 ∈ ts := by
  rw [List.getD_eq_getElem?_getD, List.getElem?_eq_getElem h]; exact List.getElem_mem _
theorem thr_r {c : Cfg} (h : PrC c) {i : Nat} (hi : i < c.thr.length) : RightT (c.thr.getD i t0) := h.thr _ (thr_mem2 hi)
theorem fo_snoc {w : List UInt8} {ws : List (List UInt8)} {i : Nat} (h : i < ws.length) : (fldsOf (w :: ws.take i)).map encF ++ [.agg [.str (ws.getD i []), .lit (.int .i64 0), .lit (.int .i64 0)]] = (fldsOf (w :: ws.take (i + 1))).map encF := by
  have e : ws.take (i + 1) = ws.take i ++ [ws.getD i []] := by
    rw [List.take_succ_eq_append_getElem h, List.getD_eq_getElem?_getD, List.getElem?_eq_getElem h]; rfl
  rw [e]
  simp [fldsOf, encF]
theorem fo_len {w : List UInt8} {ws : List (List UInt8)} {i : Nat} (h : i ≤ ws.length) : ((fldsOf (w :: ws.take i)).map encF).length = i + 1 := by
  rw [List.length_map, fldsOf, List.length_map, List.length_cons, List.length_take]; omega
theorem tx_fo (x : List (List (List UInt8))) : textsOf (x.map fldsOf) = x := by
  unfold textsOf
  rw [List.map_map]
  conv => rhs; rw [← List.map_id x]
  refine List.map_congr_left fun ws _ => ?_
  show (fldsOf ws).map (·.text) = ws
  unfold fldsOf
  rw [List.map_map]
  conv => rhs; rw [← List.map_id ws]
  rfl
theorem joint_fo (x : List (List (List UInt8))) : joinT (x.map fldsOf) = jT x := by rw [joinT_eq, tx_fo]
theorem hl_len {c : Cfg} {i : Nat} (h : i ≤ c.thr.length) : (((hdL c ++ (thL c).take i).map fldsOf).map encL).length = i + 2 := by
  rw [List.length_map, List.length_map, List.length_append, List.length_take, thL_len]; show 2 + _ = _; omega
theorem th_snoc {c : Cfg} {i : Nat} (h : i < c.thr.length) : ((hdL c ++ (thL c).take i).map fldsOf).map encL ++ [encL (fldsOf [trL, printT (c.thr.getD i t0)])] = ((hdL c ++ (thL c).take (i + 1)).map fldsOf).map encL := by
  have e : (thL c).take (i + 1) = (thL c).take i ++ [[trL, printT (c.thr.getD i t0)]] := by
    rw [List.take_succ_eq_append_getElem (by rw [thL_len]; exact h)]
    congr 2
    unfold thL
    rw [List.getElem_map, List.getD_eq_getElem?_getD, List.getElem?_eq_getElem h]; rfl
  rw [e]
  simp only [List.map_append, List.append_assoc, List.map_cons, List.map_nil]
theorem lc_last {c : Cfg} {i : Nat} (h : c.thr.length ≤ i) : ((hdL c ++ (thL c).take i).map fldsOf).map encL ++ (tlL c).map (fun ws => encL (fldsOf ws)) = ((linesC c).map fldsOf).map encL := by
  rw [List.take_of_length_le (by rw [thL_len]; exact h)]
  unfold linesC
  rw [List.map_append (l₁ := hdL c ++ thL c), List.map_append (l₁ := (hdL c ++ thL c).map fldsOf), List.map_map (l := tlL c)]; rfl
theorem inner_len {c : Cfg} (ws : List (List UInt8)) (h : ws ∈ linesC c) : ws.length ≤ 4 := by
  rcases List.mem_append.1 h with h | h
  · rcases List.mem_append.1 h with h | h
    · simp only [hdL, List.mem_cons, List.mem_nil_iff, or_false] at h
      rcases h with rfl | rfl <;> simp
    · obtain ⟨t, _, rfl⟩ := List.mem_map.1 h; simp
  · simp only [tlL, List.mem_cons, List.mem_nil_iff, or_false] at h
    rcases h with rfl | rfl | rfl | rfl <;> simp
theorem fo_at {x : List (List (List UInt8))} {i : Nat} (h : i < x.length) : (x.map fldsOf).getD i [] = fldsOf (x.getD i []) := by
  rw [List.getD_eq_getElem?_getD, List.getElem?_map, List.getD_eq_getElem?_getD, List.getElem?_eq_getElem h]; rfl
theorem lc_small {c : Cfg} (h : PrC c) : Small ((linesC c).map fldsOf) := by
  have h12 := h.len
  refine ⟨by rw [List.length_map, lines_len]; omega, fun i => ?_⟩
  by_cases hi : i < (linesC c).length
  · rw [fo_at hi, fldsOf, List.length_map]
    have := inner_len _ (show (linesC c).getD i [] ∈ linesC c by rw [List.getD_eq_getElem?_getD, List.getElem?_eq_getElem hi]; exact List.getElem_mem _)
    omega
  · rw [List.getD_eq_getElem?_getD, List.getElem?_eq_none (by rw [List.length_map]; omega)]; exact Nat.zero_le _
theorem lc_ne (c : Cfg) : ∀ i k, i < ((linesC c).map fldsOf).length → k < (((linesC c).map fldsOf).getD i []).length → ((((linesC c).map fldsOf).getD i []).getD k f0).text ≠ [] := by
  intro i k hi hk
  rw [List.length_map] at hi
  rw [fo_at hi] at hk ⊢
  have hm : (linesC c).getD i [] ∈ linesC c := by rw [List.getD_eq_getElem?_getD, List.getElem?_eq_getElem hi]; exact List.getElem_mem _
  rw [fldsOf, List.length_map] at hk
  have := ((lines_plain c _ hm).2 (((linesC c).getD i [])[k]) (List.getElem_mem _)).1
  rw [fldsOf, List.getD_eq_getElem?_getD, List.getElem?_map, List.getElem?_eq_getElem hk]
  exact this
theorem printT_le {u : Thr} (h : RightT u) (ha : u.amt ≤ 9223372036854775807) : (printT u).length ≤ 60 := by
  obtain ⟨h0, h2, hp, hg⟩ := h
  have h1 := word_len u.sig
  have h3 := digs_len u.pct.toNat 3 (by omega) (by decide)
  have h4 := printV_len u.amt.toNat (by omega)
  have h5 := digs_len u.gr.toNat 4 (by omega) (by decide)
  unfold printT valT
  split <;> split <;> simp only [List.length_append, List.length_cons, List.length_nil] <;> omega
theorem jT_cons (ws : List (List UInt8)) (x : List (List (List UInt8))) : jT (ws :: x) = wT ws ++ [10] ++ jT x := rfl
theorem jt_thr : ∀ (l : List Thr), (∀ t ∈ l, RightT t ∧ t.amt ≤ 9223372036854775807) → (jT (l.map fun t => [trL, printT t])).length ≤ l.length * 71
  | [], _ => Nat.zero_le _
  | t :: r, h => by
    have ih := jt_thr r (fun u hu => h u (List.mem_cons_of_mem _ hu))
    obtain ⟨hr, ha⟩ := h t (List.mem_cons_self ..)
    have := printT_le hr ha
    rw [List.map_cons, jT_cons]
    have e : wT [trL, printT t] = trL ++ (32 :: printT t) := by simp [wT]
    have e9 : trL.length = 9 := rfl
    rw [e, List.length_append, List.length_append, List.length_append, List.length_cons, List.length_cons, List.length_cons, List.length_nil]
    omega
theorem jt_len {c : Cfg} (h : PrC c) (hi : InR c) (i : Nat) : (jT ((thL c).take i)).length ≤ 1000 := by
  have h12 := h.len
  have e : (thL c).take i = (c.thr.take i).map fun t => [trL, printT t] := by unfold thL; rw [List.map_take]
  have := jt_thr (c.thr.take i) (fun t ht => ⟨h.thr t (List.mem_of_mem_take ht), hi.thr t (List.mem_of_mem_take ht)⟩)
  rw [e]
  have hl : (c.thr.take i).length ≤ c.thr.length := by rw [List.length_take]; omega
  have h3 : (c.thr.take i).length * 71 ≤ 12 * 71 := Nat.mul_le_mul_right _ (by omega)
  omega
/-- The first two lines' text. -/
def hdT (c : Cfg) : List UInt8 := ((((((((((((((((cpL ++ [32]) ++ zW c.c0) ++ [32]) ++ zW c.c1) ++ [32]) ++ zW c.c2) ++ (10 :: alL)) ++ [32]) ++ zW c.a0) ++ [32]) ++ zW c.a1) ++ [32]) ++ zW c.a2) ++ [10])))
theorem hdT_jT (c : Cfg) : hdT c = jT (hdL c) := by
  simp [hdT, hdL, jT, wT]
theorem hd_len {c : Cfg} (h : InR c) : (hdT c).length ≤ 200 := by
  have := zw_len h.c0; have := zw_len h.c1; have := zw_len h.c2; have := zw_len h.a0; have := zw_len h.a1; have := zw_len h.a2
  have e1 : cpL.length = 8 := rfl
  have e2 : alL.length = 11 := rfl
  unfold hdT
  simp only [List.length_append, List.length_cons, List.length_nil]
  omega
theorem txt_end {c : Cfg} : ((((((((hdT c ++ jT (thL c)) ++ [112, 101, 114, 105, 111, 100, 32]) ++ zW c.per) ++ [10, 114, 101, 116, 114, 105, 101, 115, 32]) ++ zW c.ret) ++ [10, 109, 97, 120, 97, 103, 101, 32]) ++ zW c.age) ++ [10, 100, 101, 97, 100, 32]) ++ zW c.ded ++ [10] = textC c := by
  unfold textC linesC
  rw [jT_app, jT_app, ← hdT_jT]
  simp [tlL, jT, wT, peL, reL, agL, deL]
theorem cat_thr {c : Cfg} {i : Nat} (h : i < c.thr.length) : ((hdT c ++ jT ((thL c).take i)) ++ [116, 104, 114, 101, 115, 104, 111, 108, 100, 32]) ++ printT (c.thr.getD i t0) ++ [10] = hdT c ++ jT ((thL c).take (i + 1)) := by
  have e : (thL c).take (i + 1) = (thL c).take i ++ [[trL, printT (c.thr.getD i t0)]] := by
    rw [List.take_succ_eq_append_getElem (by rw [thL_len]; exact h)]
    congr 2
    unfold thL
    rw [List.getElem_map, List.getD_eq_getElem?_getD, List.getElem?_eq_getElem h]; rfl
  rw [e, jT_app]
  simp [jT, wT, trL]
theorem text_len {c : Cfg} (h : PrC c) (hi : InR c) : (textC c).length ≤ 1400 := by
  have h1 := hd_len hi
  have h2 := jt_len h hi (thL c).length
  rw [List.take_length] at h2
  have := zw_len hi.per; have := zw_len hi.ret; have := zw_len hi.age; have := zw_len hi.ded
  rw [← txt_end]
  simp only [List.length_append, List.length_cons, List.length_nil]
  omega
theorem lc_len {c : Cfg} (h : PrC c) (hi : InR c) : (joinT ((linesC c).map fldsOf)).length ≤ 1400 := by
  rw [joint_fo]; exact text_len h hi
theorem zw_lens {c : Cfg} (h : InR c) : (zW c.c0).length ≤ 21 ∧ (zW c.c1).length ≤ 21 ∧ (zW c.c2).length ≤ 21 ∧ (zW c.a0).length ≤ 21 ∧ (zW c.a1).length ≤ 21 ∧ (zW c.a2).length ≤ 21 ∧ (zW c.per).length ≤ 21 ∧ (zW c.ret).length ≤ 21 ∧ (zW c.age).length ≤ 21 ∧ (zW c.ded).length ≤ 21 :=
  ⟨zw_len h.c0, zw_len h.c1, zw_len h.c2, zw_len h.a0, zw_len h.a1, zw_len h.a2, zw_len h.per, zw_len h.ret, zw_len h.age, zw_len h.ded⟩
end
section
open Go.RowKit

section
variable {H : Type} {enc : TypeId × Value → H} {w : World}
theorem open_thrs {v : Value} (h : Trd enc Tryz.prog w 25 [v]) : ∃ l : List Thr, (∀ t ∈ l, t.amt ≤ 9223372036854775807) ∧ l.length ≤ maxLen ∧ RelV Tryz.prog (Gh.start w) w (.list false 40 (l.map encT)) v := by
  refine open_row t0 Tryz.underlying25 (n := 5) (by kernel_rfl) (by omega) sizeOf_40 (fun y => ⟨rfl, fun c hc => ?_⟩) (fun cs hcs => ?_) h
  · simp only [encT, AV.cells, List.mem_cons, List.mem_nil_iff, or_false] at hc
    rcases hc with rfl | rfl | rfl | rfl | rfl <;> rfl
  · have hl0 := leaves_ok 6 40 [.i .i64, .i .i64, .i .i64, .b, .i .i64] cs (by kernel_rfl) hcs
    obtain ⟨_, _, rfl, ⟨z0, rfl, _⟩, hl1⟩ := hl0.cons
    obtain ⟨_, _, rfl, ⟨z1, rfl, _⟩, hl2⟩ := hl1.cons
    obtain ⟨_, _, rfl, ⟨z2, rfl, w2⟩, hl3⟩ := hl2.cons
    obtain ⟨_, _, rfl, ⟨z3, rfl⟩, hl4⟩ := hl3.cons
    obtain ⟨_, _, rfl, ⟨z4, rfl, _⟩, hl5⟩ := hl4.cons
    obtain rfl := hl5.nil
    refine ⟨⟨z0, z1, z2, z3, z4⟩, (i64_le w2).2, fun j c hc => ?_⟩
    match j, hc with
    | 0, hc | 1, hc | 2, hc | 3, hc | 4, hc => cases hc; exact ⟨_, rfl, .lit _⟩
    | _ + 5, hc => cases hc
set_option maxRecDepth 20000 in
theorem open_cfg {r : Reach} {b0 : Nat} {v : Value} {d : DataW H} {ps : List MemPlace} (hv : Value.okWide Tryz.prog w r b0 27 v) (h : DataW.Trod enc Tryz.prog w 0 (fun _ => true) true 27 v d ps) :
    ∃ c : Cfg, InR c ∧ RelV Tryz.prog (Gh.start w) w (encC c) v := by
  have hv' := hv
  simp only [Value.okWide, Tryz.underlying27] at hv'
  obtain ⟨cs, rfl, _, _⟩ := hv'
  obtain ⟨fuel, hf⟩ := h
  obtain ⟨l⟩ := cs
  have hl0 : LeavesOK enc Tryz.prog w [.i .i64, .i .i64, .i .i64, .i .i64, .i .i64, .i .i64, .l 25, .i .i64, .i .i64, .i .i64, .i .i64] l := leaves_ok 6 27 _ l (by kernel_rfl) ⟨fuel, _, hf⟩
  clear hf hv
  obtain ⟨_, _, rfl, ⟨z0, rfl, w0⟩, hl1⟩ := hl0.cons
  obtain ⟨_, _, rfl, ⟨z1, rfl, w1⟩, hl2⟩ := hl1.cons
  obtain ⟨_, _, rfl, ⟨z2, rfl, w2⟩, hl3⟩ := hl2.cons
  obtain ⟨_, _, rfl, ⟨z3, rfl, w3⟩, hl4⟩ := hl3.cons
  obtain ⟨_, _, rfl, ⟨z4, rfl, w4⟩, hl5⟩ := hl4.cons
  obtain ⟨_, _, rfl, ⟨z5, rfl, w5⟩, hl6⟩ := hl5.cons
  obtain ⟨vt, _, rfl, ht, hl7⟩ := hl6.cons
  obtain ⟨_, _, rfl, ⟨z7, rfl, w7⟩, hl8⟩ := hl7.cons
  obtain ⟨_, _, rfl, ⟨z8, rfl, w8⟩, hl9⟩ := hl8.cons
  obtain ⟨_, _, rfl, ⟨z9, rfl, w9⟩, hl10⟩ := hl9.cons
  obtain ⟨_, _, rfl, ⟨z10, rfl, w10⟩, hl11⟩ := hl10.cons
  obtain rfl := hl11.nil
  obtain ⟨ts, a1, a2, a3⟩ := open_thrs ht
  refine ⟨⟨z0, z1, z2, z3, z4, z5, ts, z7, z8, z9, z10⟩, ⟨(i64_le w0).2, (i64_le w1).2, (i64_le w2).2, (i64_le w3).2, (i64_le w4).2, (i64_le w5).2, (i64_le w7).2, (i64_le w8).2, (i64_le w9).2, (i64_le w10).2, a1⟩, ?_⟩
  refine RelV.agg (cells false ⟨z0, z1, z2, z3, z4, z5, ts, z7, z8, z9, z10⟩) [.int .i64 z0, .int .i64 z1, .int .i64 z2, .int .i64 z3, .int .i64 z4, .int .i64 z5, vt, .int .i64 z7, .int .i64 z8, .int .i64 z9, .int .i64 z10] rfl fun j c x h1 h2 => ?_
  match j, h1, h2 with
  | 0, h1, h2 | 1, h1, h2 | 2, h1, h2 | 3, h1, h2 | 4, h1, h2 | 5, h1, h2 | 7, h1, h2 | 8, h1, h2 | 9, h1, h2 | 10, h1, h2 => cases h1; cases h2; exact .lit _
  | 6, h1, h2 => cases h1; cases h2; exact a3
  | _ + 11, h1, _ => cases h1
end
end
section
open Go.RowKit

theorem res_no {l : List UInt8} (h : readableB l = false) : AV.tuple [.list true 46 [], .lit (.int .i64 2)] = .tuple [.list true 46 ((lexLines l).map encL), .lit (.int .i64 (errI l))] := by simp [lexLines, errI, h]
theorem res_yes {l : List UInt8} {out : List (List Field)} (h : readableB l = true) (ho : out = lexFrom 1 (splitNl l)) : AV.tuple [.list true 46 (out.map encL), .lit (.int .i64 0)] = .tuple [.list true 46 ((lexLines l).map encL), .lit (.int .i64 (errI l))] := by simp [lexLines, errI, h, ho]

set_option maxRecDepth 20000 in
theorem blank_any (c : Int) (M : Nat → Option (List AV)) : ACall Tryz.prog 43 [.lit (.int .u8 c)] M (fun r M' => r = zB (blankB c) ∧ M = M') := by
  refine ACall.of Tryz.func43 rfl (n := 13) rfl rfl rfl ?_
  refine zg ?_
  refine zM (zB false) ?_
  refine zN ?_
  refine zj 2 [(0, .lit (.int .u8 c))] [] M (bif (c == 32) then true else (bif (c == 9) then true else (c == 13))) ?_ ?_
  · skip
    refine zM (.lit (.int .u8 c)) ?_
    refine zr (zi (c == 32)) ?_
    refine zM (zB (c == 32)) ?_
    refine AOps.splitJ (t := 5) (b := c == 32) (x := true) (y := (bif (c == 9) then true else (c == 13))) rfl (fun h1 => ?_) (fun h1 => ?_)
    · skip
      have h1' : c = 32 := (by have hh := eq_of_beq h1; omega)
      clear h1
      refine zs ?_
      refine zs ?_
      refine zr (zp true (zB true)) ?_
      refine zM (zB true) ?_
      refine zs ?_
      refine zs ?_
      refine zr (zp true (zB true)) ?_
      refine zM (zB true) ?_
      exact AOps.nil rfl
    · skip
      have h1' : ¬ (c = 32) := (by have hh := beq_eq_false_iff_ne.1 h1; omega)
      clear h1
      refine zM (.lit (.int .u8 c)) ?_
      refine zr (zi (c == 9)) ?_
      refine zr (zp false (zB (c == 9))) ?_
      refine zM (zB (c == 9)) ?_
      refine AOps.splitJ (t := 9) (b := c == 9) (x := true) (y := (c == 13)) rfl (fun h2 => ?_) (fun h2 => ?_)
      · skip
        have h2' : c = 9 := (by have hh := eq_of_beq h2; omega)
        clear h2
        refine zs ?_
        refine zs ?_
        refine zr (zp true (zB true)) ?_
        refine zM (zB true) ?_
        exact AOps.nil rfl
      · skip
        have h2' : ¬ (c = 9) := (by have hh := beq_eq_false_iff_ne.1 h2; omega)
        clear h2
        refine zM (.lit (.int .u8 c)) ?_
        refine zr (zi (c == 13)) ?_
        refine zr (zp false (zB (c == 13))) ?_
        refine zM (zB (c == 13)) ?_
        exact AOps.nil rfl
  refine AWp.ret ?_
  exact ⟨.inl rfl, _, ResOf.one 2 (zB (bif (c == 32) then true else (bif (c == 9) then true else (c == 13)))) rfl rfl, ⟨rfl, rfl⟩⟩

set_option maxRecDepth 20000 in
theorem readable_any (l : List UInt8) (hl : l.length ≤ 140737488355328) (M : Nat → Option (List AV)) : ACall Tryz.prog 41 [.list false 5 (byteAVs l)] M (fun r M' => r = zB (readableB l) ∧ M = M') := by
  refine ACall.of Tryz.func41 rfl (n := 30) rfl rfl rfl ?_
  refine zg ?_
  refine zM (zB false) ?_
  refine zN ?_
  refine AWp.seq ?_
  refine zg ?_
  refine zM (.list false 5 (byteAVs l)) ?_
  refine zr (zL (byteAVs l) l.length Tryz.underlying22 (byteAVs_len _)) ?_
  refine zM (zI 0) ?_
  refine zN ?_
  refine AWp.block ?_
  refine AWp.loopE [0, 5, 6, 7] [] (fun m s => ∃ (k : Nat), m = l.length - k ∧ s = ⟨[(0, .list false 5 (byteAVs l)), (5, .list false 5 (byteAVs l)), (6, zI (l.length : Int)), (7, zI (k : Int))], [], M⟩ ∧ (k ≤ l.length) ∧ (∀ j, j < k → okB ((l.getD j 0).toNat : Int) = true)) ?_ ?_
  · exact ⟨_, 0, rfl, rfl, Nat.zero_le _, fun j hj => by omega⟩
  · rintro _ _ ⟨k, rfl, rfl, hk, hall⟩
    refine zg ?_
    refine zr (zi (decide ((k : Int) < (l.length : Int)))) ?_
    refine zN ?_
    refine AWp.seq ?_
    refine zC (b := decide ((k : Int) < (l.length : Int))) rfl (fun h1 => ?_) (fun h1 => ?_)
    · skip
      have h1' : k < l.length := (by have hh := of_decide_eq_true h1; omega)
      clear h1
      refine AWp.skip ?_
      refine AWp.seq ?_
      refine AWp.block ?_
      refine zg ?_
      refine zr (zel k (.lit (.int .u8 ((l.getD k 0).toNat : Int))) Tryz.underlying22 sizeOf_5 (byteAVs_at (by first | omega | (simp; omega)))) ?_
      refine zr (zlE (.lit (.int .u8 ((l.getD k 0).toNat : Int))) Tryz.underlying5 sizeOf_5) ?_
      refine zM (.lit (.int .u8 ((l.getD k 0).toNat : Int))) ?_
      refine zN ?_
      refine zj 25 [(0, .list false 5 (byteAVs l)), (5, .list false 5 (byteAVs l)), (6, zI (l.length : Int)), (7, zI (k : Int)), (8, zB (decide ((k : Int) < (l.length : Int)))), (4, .lit (.int .u8 ((l.getD k 0).toNat : Int)))] [] M (bif (!(blankB ((l.getD k 0).toNat : Int))) then (bif (((l.getD k 0).toNat : Int) != 10) then (bif (decide (((l.getD k 0).toNat : Int) < 32)) then true else (decide (((l.getD k 0).toNat : Int) > 126))) else false) else false) ?_ ?_
      · skip
        refine zM (.lit (.int .u8 ((l.getD k 0).toNat : Int))) ?_
        refine zc [.lit (.int .u8 ((l.getD k 0).toNat : Int))] Tryz.call43 (blank_any ((l.getD k 0).toNat : Int) M) ?_
        rintro _ _ ⟨rfl, rfl⟩
        refine zr (zn (blankB ((l.getD k 0).toNat : Int))) ?_
        refine zM (zB (!(blankB ((l.getD k 0).toNat : Int)))) ?_
        refine AOps.splitJ (t := 14) (b := !(blankB ((l.getD k 0).toNat : Int))) (x := (bif (((l.getD k 0).toNat : Int) != 10) then (bif (decide (((l.getD k 0).toNat : Int) < 32)) then true else (decide (((l.getD k 0).toNat : Int) > 126))) else false)) (y := false) rfl (fun h2 => ?_) (fun h2 => ?_)
        · skip
          have h2' : blankB ((l.getD k 0).toNat : Int) = false := (bnot_t h2)
          clear h2
          refine zM (.lit (.int .u8 ((l.getD k 0).toNat : Int))) ?_
          refine zr (zi (((l.getD k 0).toNat : Int) != 10)) ?_
          refine zr (zp true (zB (((l.getD k 0).toNat : Int) != 10))) ?_
          refine zM (zB (((l.getD k 0).toNat : Int) != 10)) ?_
          refine AOps.splitJ (t := 18) (b := ((l.getD k 0).toNat : Int) != 10) (x := (bif (decide (((l.getD k 0).toNat : Int) < 32)) then true else (decide (((l.getD k 0).toNat : Int) > 126)))) (y := false) rfl (fun h3 => ?_) (fun h3 => ?_)
          · skip
            have h3' : ((l.getD k 0).toNat) ≠ 10 := (by have hh := bne_iff_ne.1 h3; omega)
            clear h3
            refine zM (.lit (.int .u8 ((l.getD k 0).toNat : Int))) ?_
            refine zr (zi (decide (((l.getD k 0).toNat : Int) < 32))) ?_
            refine zM (zB (decide (((l.getD k 0).toNat : Int) < 32))) ?_
            refine AOps.splitJ (t := 21) (b := decide (((l.getD k 0).toNat : Int) < 32)) (x := true) (y := (decide (((l.getD k 0).toNat : Int) > 126))) rfl (fun h4 => ?_) (fun h4 => ?_)
            · skip
              have h4' : ((l.getD k 0).toNat) < 32 := (by have hh := of_decide_eq_true h4; omega)
              clear h4
              refine zs ?_
              refine zs ?_
              refine zr (zp true (zB true)) ?_
              refine zr (zp true (zB true)) ?_
              exact AOps.nil rfl
            · skip
              have h4' : ¬ (((l.getD k 0).toNat) < 32) := (by have hh := of_decide_eq_false h4; omega)
              clear h4
              refine zM (.lit (.int .u8 ((l.getD k 0).toNat : Int))) ?_
              refine zr (zi (decide (((l.getD k 0).toNat : Int) > 126))) ?_
              refine zr (zp false (zB (decide (((l.getD k 0).toNat : Int) > 126)))) ?_
              refine zr (zp true (zB (decide (((l.getD k 0).toNat : Int) > 126)))) ?_
              exact AOps.nil rfl
          · skip
            have h3' : ¬ (((l.getD k 0).toNat) ≠ 10) := (by have hh := bne_eq_false_iff_eq.1 h3; omega)
            clear h3
            refine zs ?_
            refine zs ?_
            refine zs ?_
            refine zs ?_
            refine zs ?_
            refine zs ?_
            refine zr (zp false (zB false)) ?_
            exact AOps.nil rfl
        · skip
          have h2' : blankB ((l.getD k 0).toNat : Int) = true := (bnot_f h2)
          clear h2
          refine zs ?_
          refine zs ?_
          refine zr (zp false (zB false)) ?_
          refine zM (zB false) ?_
          refine zs ?_
          refine zs ?_
          refine zs ?_
          refine zs ?_
          refine zs ?_
          refine zs ?_
          refine zr (zp false (zB false)) ?_
          exact AOps.nil rfl
      refine zC (b := bif (!(blankB ((l.getD k 0).toNat : Int))) then (bif (((l.getD k 0).toNat : Int) != 10) then (bif (decide (((l.getD k 0).toNat : Int) < 32)) then true else (decide (((l.getD k 0).toNat : Int) > 126))) else false) else false) rfl (fun h5 => ?_) (fun h5 => ?_)
      · skip
        have h5' : okB ((l.getD k 0).toNat : Int) = false := (okB_no h5)
        clear h5
        refine zg ?_
        refine zM (zB false) ?_
        refine zN ?_
        refine AWp.ret ?_
        exact ⟨.inl rfl, _, ResOf.one 2 (zB false) rfl rfl, ⟨congrArg (fun b => AV.lit (.bool b)) (readable_no (k := k) (by omega) (by assumption)), rfl⟩⟩
      · skip
        have h5' : okB ((l.getD k 0).toNat : Int) = true := (okB_go h5)
        clear h5
        refine AWp.skip ?_
        refine AWp.region ?_
        refine zr (zw ((k : Int) + 1) ((k + 1 : Nat) : Int)) ?_
        refine zM (zI ((k + 1 : Nat) : Int)) ?_
        refine zN ?_
        exact ⟨_, by omega, k + 1, rfl, rfl, by omega, ext_0 hall (by assumption)⟩
    · skip
      have h1' : ¬ (k < l.length) := (by have hh := of_decide_eq_false h1; omega)
      clear h1
      refine AWp.exit ?_
      refine zg ?_
      refine zM (.list false 5 (byteAVs l)) ?_
      refine zr (zL (byteAVs l) l.length Tryz.underlying22 (byteAVs_len _)) ?_
      refine zr (zi (decide ((l.length : Int) ≤ 65536))) ?_
      refine zM (zB (decide ((l.length : Int) ≤ 65536))) ?_
      refine zN ?_
      refine AWp.ret ?_
      exact ⟨.inl rfl, _, ResOf.one 2 (zB (decide ((l.length : Int) ≤ 65536))) rfl rfl, ⟨congrArg (fun b => AV.lit (.bool b)) (readable_yes (fun j hj => hall j (by omega))), rfl⟩⟩

set_option maxRecDepth 20000 in
theorem lines_any (l : List UInt8) (hl : l.length ≤ 140737488355328) (M : Nat → Option (List AV)) : ACall Tryz.prog 19 [.list false 5 (byteAVs l)] M (fun r M' => r = .tuple [.list true 46 ((lexLines l).map encL), zI (errI l)] ∧ M = M') := by
  refine ACall.of Tryz.func19 rfl (n := 78) rfl rfl rfl ?_
  refine zg ?_
  refine AOps.nilList 46 trivial rfl (by decide) (.inl rfl) ?_
  refine zM (zI 0) ?_
  refine zN ?_
  refine AWp.scope ?_
  refine AWp.seq ?_
  refine zg ?_
  refine zM (.list false 5 (byteAVs l)) ?_
  refine zc [.list false 5 (byteAVs l)] Tryz.call41 (readable_any l (by first | assumption | omega) M) ?_
  rintro _ _ ⟨rfl, rfl⟩
  refine zr (zn (readableB l)) ?_
  refine zN ?_
  refine zC (b := !(readableB l)) rfl (fun h1 => ?_) (fun h1 => ?_)
  · skip
    have h1' : readableB l = false := (bnot_t h1)
    clear h1
    refine zg ?_
    refine AOps.nilList 46 trivial rfl (by decide) (.inl rfl) ?_
    refine zM (zI 2) ?_
    refine zN ?_
    refine AWp.ret ?_
    exact ⟨.inl rfl, _, ResOf.two 2 3 (.list true 46 []) (zI 2) rfl rfl (.inr ⟨_, _, rfl⟩) (.inl rfl) (by decide), ⟨res_no (by assumption), rfl⟩⟩
  · skip
    have h1' : readableB l = true := (bnot_f h1)
    clear h1
    refine AWp.skip ?_
    refine zg ?_
    refine AOps.nilList 46 trivial rfl (by decide) (.inl rfl) ?_
    refine zN ?_
    refine AWp.seq ?_
    refine AWp.label ?_
    refine AWp.seq ?_
    refine zg ?_
    refine zM (.list false 5 (byteAVs l)) ?_
    refine zr (Reader.ofBytes (l := l) rfl Tryz.underlying22 Tryz.underlying9 Tryz.underlying5 rfl) ?_
    refine zc [.str l, .str [10]] Tryz.call42 (splitNl_any l (by have := readable_len (l := l) (by assumption); omega) M) ?_
    rintro _ _ ⟨rfl, rfl⟩
    refine zr (zL ((splitNl l).map AV.str) ((splitNl l).length) Tryz.underlying38 (by simp)) ?_
    refine zM (zI 0) ?_
    refine zN ?_
    refine AWp.block ?_
    refine AWp.loopE [0, 4, 15, 16, 17] [] (fun m s => ∃ (k : Nat) (out : List (List Field)), m = (splitNl l).length - k ∧ s = ⟨[(0, .list false 5 (byteAVs l)), (4, .list true 46 (out.map encL)), (15, .list true 9 ((splitNl l).map AV.str)), (16, zI (((splitNl l).length : Nat) : Int)), (17, zI (k : Int))], [], M⟩ ∧ (k ≤ (splitNl l).length) ∧ (out.length ≤ k) ∧ (out ++ lexFrom (k + 1) ((splitNl l).drop k) = lexFrom 1 (splitNl l))) ?_ ?_
    · exact ⟨_, 0, [], rfl, rfl, Nat.zero_le _, Nat.zero_le _, rfl⟩
    · rintro _ _ ⟨k, out, rfl, rfl, hk, hol, hout⟩
      have hll := readable_len (l := l) (by assumption)
      have hsl := splitNl_le l
      refine zg ?_
      refine zr (zi (decide ((k : Int) < (((splitNl l).length : Nat) : Int)))) ?_
      refine zN ?_
      refine AWp.seq ?_
      refine zC (b := decide ((k : Int) < (((splitNl l).length : Nat) : Int))) rfl (fun h2 => ?_) (fun h2 => ?_)
      · skip
        have h2' : k < ((splitNl l).length) := (by have hh := of_decide_eq_true h2; omega)
        clear h2
        refine AWp.skip ?_
        refine AWp.seq ?_
        refine AWp.block ?_
        refine zg ?_
        refine zM (zI (k : Int)) ?_
        obtain ⟨s1, hs1⟩ : ∃ x, (splitNl l)[k]? = some x := ⟨_, List.getElem?_eq_getElem (by first | omega | (simp; omega))⟩
        refine zr (zel k (.str s1) Tryz.underlying38 sizeOf_9 (map_at hs1)) ?_
        refine zr (zlE (.str s1) Tryz.underlying9 sizeOf_9) ?_
        refine zM (zI (k : Int)) ?_
        refine zM (.str s1) ?_
        refine zN ?_
        refine zg ?_
        refine AOps.nilList 50 trivial rfl (by decide) (.inl rfl) ?_
        refine zN ?_
        refine AWp.seq ?_
        refine zg ?_
        refine zM (zI 0) ?_
        refine zN ?_
        refine AWp.block ?_
        refine AWp.loopE [0, 4, 15, 16, 17, 5, 6, 7, 8] [] (fun m s => ∃ (i : Nat) (fl : List Field), m = s1.length + 1 - i ∧ s = ⟨[(0, .list false 5 (byteAVs l)), (4, .list true 46 (out.map encL)), (15, .list true 9 ((splitNl l).map AV.str)), (16, zI (((splitNl l).length : Nat) : Int)), (17, zI (k : Int)), (5, zI (k : Int)), (6, .str s1), (7, .list true 50 (fl.map encF)), (8, zI (i : Int))], [], M⟩ ∧ (i ≤ s1.length + 1) ∧ (fl.length ≤ i) ∧ (fl ++ scan (k + 1) i (s1.drop i) = scan (k + 1) 0 s1)) ?_ ?_
        · exact ⟨_, 0, [], rfl, rfl, Nat.zero_le _, Nat.zero_le _, rfl⟩
        · rintro _ _ ⟨i, fl, rfl, rfl, hi, hfl, hscan⟩
          have hs1l := splitNl_mem l _ _ hs1
          refine AWp.seq ?_
          refine zg ?_
          refine zM (zI (i : Int)) ?_
          refine zM (.str s1) ?_
          refine zr (zS s1 s1.length Tryz.underlying9) ?_
          refine zr (zi (decide ((i : Int) < (s1.length : Int)))) ?_
          refine zN ?_
          refine zC (b := decide ((i : Int) < (s1.length : Int))) rfl (fun h3 => ?_) (fun h3 => ?_)
          · skip
            have h3' : i < s1.length := (by have hh := of_decide_eq_true h3; omega)
            clear h3
            refine AWp.skip ?_
            refine AWp.seq ?_
            refine AWp.block ?_
            refine AWp.seq ?_
            refine zg ?_
            refine zM (.str s1) ?_
            refine zM (zI (i : Int)) ?_
            refine zr (Reader.byte (m := i) (c := s1.getD i 0) rfl Tryz.underlying9 rfl rfl rfl (getD_some (by first | omega | (simp; omega)))) ?_
            refine zc [.lit (.int .u8 ((s1.getD i 0).toNat : Int))] Tryz.call43 (blank_any ((s1.getD i 0).toNat : Int) M) ?_
            rintro _ _ ⟨rfl, rfl⟩
            refine zN ?_
            refine zC (b := blankB ((s1.getD i 0).toNat : Int)) rfl (fun h4 => ?_) (fun h4 => ?_)
            · skip
              have h4' : blankB ((s1.getD i 0).toNat : Int) = true := h4
              clear h4
              refine AWp.exit ?_
              refine AWp.region ?_
              refine zM (zI (i : Int)) ?_
              refine zr (zw ((i : Int) + 1) ((i + 1 : Nat) : Int)) ?_
              refine zM (zI ((i + 1 : Nat) : Int)) ?_
              refine zN ?_
              first | exact ⟨_, by omega, i + 1, fl, rfl, rfl, by omega, by omega, scan_at_blank (by assumption) hscan⟩ | (have hwd := scan_at_word (j := j) (by assumption) (by assumption) (by assumption) hij hj hw (by assumption) hscan; exact ⟨_, by omega, j + 1, _, rfl, rfl, by omega, by simp; omega, hwd.1⟩)
            · skip
              have h4' : blankB ((s1.getD i 0).toNat : Int) = false := h4
              clear h4
              refine AWp.skip ?_
              refine AWp.seq ?_
              refine zg ?_
              refine zM (.str s1) ?_
              refine zM (zI (i : Int)) ?_
              refine zr (Reader.byte (m := i) (c := s1.getD i 0) rfl Tryz.underlying9 rfl rfl rfl (getD_some (by first | omega | (simp; omega)))) ?_
              refine zr (zi (((s1.getD i 0).toNat : Int) == 35)) ?_
              refine zN ?_
              refine zC (b := ((s1.getD i 0).toNat : Int) == 35) rfl (fun h5 => ?_) (fun h5 => ?_)
              · skip
                have h5' : ((s1.getD i 0).toNat) = 35 := (by have hh := eq_of_beq h5; omega)
                clear h5
                refine AWp.seq ?_
                refine zg ?_
                refine zM (.list false 50 (fl.map encF)) ?_
                refine zr (zL (fl.map encF) fl.length Tryz.underlying46 (by simp)) ?_
                refine zr (zi (decide ((fl.length : Int) > 0))) ?_
                refine zN ?_
                refine zC (b := decide ((fl.length : Int) > 0)) rfl (fun h6 => ?_) (fun h6 => ?_)
                · skip
                  have h6' : fl.length > 0 := (by have hh := of_decide_eq_true h6; omega)
                  clear h6
                  refine AWp.region ?_
                  refine zT (v := .list true 46 (out.map encL)) rfl ?_
                  refine zM (.list false 50 (fl.map encF)) ?_
                  refine zbS [50] [.list false 50 (fl.map encF)] Tryz.underlying42 Tryz.i46 ?_
                  refine zap (m1 := out.length) (m2 := 1) 24 (out.map encL) [.list false 50 (fl.map encF)] ((out ++ [fl]).map encL) Tryz.underlying42 Tryz.underlying42 Tryz.i46 (by simp) rfl (by simp [encL]) ?_
                  refine zT (v := .list true 46 ((out ++ [fl]).map encL)) rfl ?_
                  refine zN ?_
                  refine AWp.exit ?_
                  refine AWp.region ?_
                  refine zr (zw ((k : Int) + 1) ((k + 1 : Nat) : Int)) ?_
                  refine zM (zI ((k + 1 : Nat) : Int)) ?_
                  refine zN ?_
                  have hfs : fl = scan (k + 1) 0 s1 := by first | exact scan_at_end (by assumption) hscan | exact scan_at_hash (by assumption) (by assumption) (by assumption) hscan
                  first | exact ⟨_, by omega, k + 1, out ++ [fl], rfl, rfl, by omega, by simp; omega, lex_app hs1 hfs (by assumption) hout⟩ | exact ⟨_, by omega, k + 1, out, rfl, rfl, by omega, by omega, lex_skip hs1 hfs (by assumption) hout⟩
                · skip
                  have h6' : ¬ (fl.length > 0) := (by have hh := of_decide_eq_false h6; omega)
                  clear h6
                  refine AWp.skip ?_
                  refine AWp.exit ?_
                  refine AWp.region ?_
                  refine zr (zw ((k : Int) + 1) ((k + 1 : Nat) : Int)) ?_
                  refine zM (zI ((k + 1 : Nat) : Int)) ?_
                  refine zN ?_
                  have hfs : fl = scan (k + 1) 0 s1 := by first | exact scan_at_end (by assumption) hscan | exact scan_at_hash (by assumption) (by assumption) (by assumption) hscan
                  first | exact ⟨_, by omega, k + 1, out ++ [fl], rfl, rfl, by omega, by simp; omega, lex_app hs1 hfs (by assumption) hout⟩ | exact ⟨_, by omega, k + 1, out, rfl, rfl, by omega, by omega, lex_skip hs1 hfs (by assumption) hout⟩
              · skip
                have h5' : ¬ (((s1.getD i 0).toNat) = 35) := (by have hh := beq_eq_false_iff_ne.1 h5; omega)
                clear h5
                refine AWp.skip ?_
                refine zg ?_
                refine zM (zI (i : Int)) ?_
                refine zM (zI (i : Int)) ?_
                refine zN ?_
                refine AWp.seq ?_
                refine AWp.block ?_
                refine AWp.loopE [0, 4, 15, 16, 17, 5, 6, 7, 9, 8] [] (fun m s => ∃ (j : Nat), m = s1.length - j ∧ s = ⟨[(0, .list false 5 (byteAVs l)), (4, .list true 46 (out.map encL)), (15, .list true 9 ((splitNl l).map AV.str)), (16, zI (((splitNl l).length : Nat) : Int)), (17, zI (k : Int)), (5, zI (k : Int)), (6, .str s1), (7, .list true 50 (fl.map encF)), (9, zI (i : Int)), (8, zI (j : Int))], [], M⟩ ∧ (i ≤ j) ∧ (j ≤ s1.length) ∧ (∀ m, i ≤ m → m < j → blankB ((s1.getD m 0).toNat : Int) = false)) ?_ ?_
                · exact ⟨_, i, rfl, rfl, Nat.le_refl _, by omega, fun m h1 h2 => by omega⟩
                · rintro _ _ ⟨j, rfl, rfl, hij, hj, hw⟩
                  refine AWp.seq ?_
                  refine zj 54 [(0, .list false 5 (byteAVs l)), (4, .list true 46 (out.map encL)), (15, .list true 9 ((splitNl l).map AV.str)), (16, zI (((splitNl l).length : Nat) : Int)), (17, zI (k : Int)), (5, zI (k : Int)), (6, .str s1), (7, .list true 50 (fl.map encF)), (9, zI (i : Int)), (8, zI (j : Int))] [] M (bif (decide ((j : Int) < (s1.length : Int))) then (!(blankB ((s1.getD j 0).toNat : Int))) else false) ?_ ?_
                  · skip
                    refine zM (zI (j : Int)) ?_
                    refine zM (.str s1) ?_
                    refine zr (zS s1 s1.length Tryz.underlying9) ?_
                    refine zr (zi (decide ((j : Int) < (s1.length : Int)))) ?_
                    refine zM (zB (decide ((j : Int) < (s1.length : Int)))) ?_
                    refine AOps.splitJ (t := 48) (b := decide ((j : Int) < (s1.length : Int))) (x := (!(blankB ((s1.getD j 0).toNat : Int)))) (y := false) rfl (fun h7 => ?_) (fun h7 => ?_)
                    · skip
                      have h7' : j < s1.length := (by have hh := of_decide_eq_true h7; omega)
                      clear h7
                      refine zM (.str s1) ?_
                      refine zM (zI (j : Int)) ?_
                      refine zr (Reader.byte (m := j) (c := s1.getD j 0) rfl Tryz.underlying9 rfl rfl rfl (getD_some (by first | omega | (simp; omega)))) ?_
                      refine zc [.lit (.int .u8 ((s1.getD j 0).toNat : Int))] Tryz.call43 (blank_any ((s1.getD j 0).toNat : Int) M) ?_
                      rintro _ _ ⟨rfl, rfl⟩
                      refine zr (zn (blankB ((s1.getD j 0).toNat : Int))) ?_
                      refine zr (zp true (zB (!(blankB ((s1.getD j 0).toNat : Int))))) ?_
                      exact AOps.nil rfl
                    · skip
                      have h7' : ¬ (j < s1.length) := (by have hh := of_decide_eq_false h7; omega)
                      clear h7
                      refine zs ?_
                      refine zs ?_
                      refine zs ?_
                      refine zs ?_
                      refine zs ?_
                      refine zr (zp false (zB false)) ?_
                      exact AOps.nil rfl
                  refine zC (b := bif (decide ((j : Int) < (s1.length : Int))) then (!(blankB ((s1.getD j 0).toNat : Int))) else false) rfl (fun h8 => ?_) (fun h8 => ?_)
                  · skip
                    have h8' : ((j : Int) < (s1.length : Int)) ∧ (!(blankB ((s1.getD j 0).toNat : Int))) = true := (and_t h8)
                    clear h8
                    refine AWp.skip ?_
                    refine AWp.block ?_
                    refine AWp.region ?_
                    refine zM (zI (j : Int)) ?_
                    refine zr (zw ((j : Int) + 1) ((j + 1 : Nat) : Int)) ?_
                    refine zM (zI ((j + 1 : Nat) : Int)) ?_
                    refine zN ?_
                    obtain ⟨hgo1, hgo2⟩ := (by assumption : ((j : Int) < (s1.length : Int)) ∧ (!(blankB ((s1.getD j 0).toNat : Int))) = true)
                    exact ⟨_, by omega, j + 1, rfl, rfl, by omega, by omega, ext_lt hw (bnot_t hgo2)⟩
                  · skip
                    have h8' : (j : Int) < (s1.length : Int) → (!(blankB ((s1.getD j 0).toNat : Int))) = false := (and_f h8)
                    clear h8
                    refine AWp.exit ?_
                    refine AWp.region ?_
                    refine zT (v := .list true 50 (fl.map encF)) rfl ?_
                    refine zM (.str s1) ?_
                    refine zM (zI (i : Int)) ?_
                    refine zM (zI (j : Int)) ?_
                    refine zr (Reader.sub (i := i) (j := j) rfl Tryz.underlying9 rfl ⟨_, _, rfl, rfl⟩ ⟨_, _, rfl, rfl⟩ (by first | omega | (simp; omega)) (by first | omega | (simp; omega)) (m := (s1.take j).drop i) rfl) ?_
                    refine zM (zI (k : Int)) ?_
                    refine zr (zw ((k : Int) + 1) ((k + 1 : Nat) : Int)) ?_
                    refine zM (zI (i : Int)) ?_
                    refine zr (zw ((i : Int) + 1) ((i + 1 : Nat) : Int)) ?_
                    refine zr (Reader.build (xs := [(0, .str ((s1.take j).drop i)), (1, zI ((k + 1 : Nat) : Int)), (2, zI ((i + 1 : Nat) : Int))]) (Es := []) (places := places_50) rfl Tryz.underlying50 (by refine ⟨rfl, fun j p x hp hx => ?_⟩; match j, hp, hx with | 0, hp, hx => cases hp; cases hx; exact ⟨rfl, .inl ⟨rfl, rfl⟩, rfl, rfl⟩ | 1, hp, hx => cases hp; cases hx; exact ⟨rfl, .inl ⟨rfl, rfl⟩, rfl, rfl⟩ | 2, hp, hx => cases hp; cases hx; exact ⟨rfl, .inl ⟨rfl, rfl⟩, rfl, rfl⟩ | _ + 3, hp, hx => cases hp) zero_50 rfl places_50_ok (cs := [.str ((s1.take j).drop i), zI ((k + 1 : Nat) : Int), zI ((i + 1 : Nat) : Int)]) rfl) ?_
                    refine zbS [] [.agg [.str ((s1.take j).drop i), zI ((k + 1 : Nat) : Int), zI ((i + 1 : Nat) : Int)]] Tryz.underlying46 Tryz.i50 ?_
                    refine zap (m1 := fl.length) (m2 := 1) 32 (fl.map encF) [.agg [.str ((s1.take j).drop i), zI ((k + 1 : Nat) : Int), zI ((i + 1 : Nat) : Int)]] ((fl ++ [Field.mk ((s1.take j).drop i) (k + 1) (i + 1)]).map encF) Tryz.underlying46 Tryz.underlying46 Tryz.i50 (by simp) rfl (by rw [List.map_append]; rfl) ?_
                    refine zT (v := .list true 50 ((fl ++ [Field.mk ((s1.take j).drop i) (k + 1) (i + 1)]).map encF)) rfl ?_
                    refine zN ?_
                    refine AWp.region ?_
                    refine zM (zI (j : Int)) ?_
                    refine zr (zw ((j : Int) + 1) ((j + 1 : Nat) : Int)) ?_
                    refine zM (zI ((j + 1 : Nat) : Int)) ?_
                    refine zN ?_
                    first | exact ⟨_, by omega, i + 1, fl, rfl, rfl, by omega, by omega, scan_at_blank (by assumption) hscan⟩ | (have hwd := scan_at_word (j := j) (by assumption) (by assumption) (by assumption) hij hj hw (by assumption) hscan; exact ⟨_, by omega, j + 1, _, rfl, rfl, by omega, by simp; omega, hwd.1⟩)
          · skip
            have h3' : ¬ (i < s1.length) := (by have hh := of_decide_eq_false h3; omega)
            clear h3
            refine AWp.exit ?_
            refine zg ?_
            refine zM (.list false 50 (fl.map encF)) ?_
            refine zr (zL (fl.map encF) fl.length Tryz.underlying46 (by simp)) ?_
            refine zr (zi (decide ((fl.length : Int) > 0))) ?_
            refine zN ?_
            refine zC (b := decide ((fl.length : Int) > 0)) rfl (fun h9 => ?_) (fun h9 => ?_)
            · skip
              have h9' : fl.length > 0 := (by have hh := of_decide_eq_true h9; omega)
              clear h9
              refine AWp.region ?_
              refine zT (v := .list true 46 (out.map encL)) rfl ?_
              refine zM (.list false 50 (fl.map encF)) ?_
              refine zbS [50] [.list false 50 (fl.map encF)] Tryz.underlying42 Tryz.i46 ?_
              refine zap (m1 := out.length) (m2 := 1) 24 (out.map encL) [.list false 50 (fl.map encF)] ((out ++ [fl]).map encL) Tryz.underlying42 Tryz.underlying42 Tryz.i46 (by simp) rfl (by simp [encL]) ?_
              refine zT (v := .list true 46 ((out ++ [fl]).map encL)) rfl ?_
              refine zN ?_
              refine AWp.region ?_
              refine zr (zw ((k : Int) + 1) ((k + 1 : Nat) : Int)) ?_
              refine zM (zI ((k + 1 : Nat) : Int)) ?_
              refine zN ?_
              have hfs : fl = scan (k + 1) 0 s1 := by first | exact scan_at_end (by assumption) hscan | exact scan_at_hash (by assumption) (by assumption) (by assumption) hscan
              first | exact ⟨_, by omega, k + 1, out ++ [fl], rfl, rfl, by omega, by simp; omega, lex_app hs1 hfs (by assumption) hout⟩ | exact ⟨_, by omega, k + 1, out, rfl, rfl, by omega, by omega, lex_skip hs1 hfs (by assumption) hout⟩
            · skip
              have h9' : ¬ (fl.length > 0) := (by have hh := of_decide_eq_false h9; omega)
              clear h9
              refine AWp.skip ?_
              refine AWp.region ?_
              refine zr (zw ((k : Int) + 1) ((k + 1 : Nat) : Int)) ?_
              refine zM (zI ((k + 1 : Nat) : Int)) ?_
              refine zN ?_
              have hfs : fl = scan (k + 1) 0 s1 := by first | exact scan_at_end (by assumption) hscan | exact scan_at_hash (by assumption) (by assumption) (by assumption) hscan
              first | exact ⟨_, by omega, k + 1, out ++ [fl], rfl, rfl, by omega, by simp; omega, lex_app hs1 hfs (by assumption) hout⟩ | exact ⟨_, by omega, k + 1, out, rfl, rfl, by omega, by omega, lex_skip hs1 hfs (by assumption) hout⟩
      · skip
        have h2' : ¬ (k < ((splitNl l).length)) := (by have hh := of_decide_eq_false h2; omega)
        clear h2
        refine AWp.exit ?_
        refine zg ?_
        refine zT (v := .list true 46 (out.map encL)) rfl ?_
        refine zT (v := .list true 46 (out.map encL)) rfl ?_
        refine zM (zI 0) ?_
        refine zN ?_
        refine AWp.ret ?_
        exact ⟨.inl rfl, _, ResOf.two 2 3 (.list true 46 (out.map encL)) (zI 0) rfl rfl (.inr ⟨_, _, rfl⟩) (.inl rfl) (by decide), ⟨res_yes (by assumption) (lex_done (by assumption) hout), rfl⟩⟩
end
section
open Go.RowKit
end
section
open Go.RowKit
end
section
open Go.RowKit

set_option maxRecDepth 20000 in
theorem join_any (x : List (List Field)) (hx : Small x) (hne : ∀ i k, i < x.length → k < (x.getD i []).length → ((x.getD i []).getD k f0).text ≠ []) (hb : (joinT x).length ≤ 140737488355328) (M : Nat → Option (List AV)) : ACall Tryz.prog 32 [.list false 46 (x.map encL)] M (fun r M' => r = .str (joinT x) ∧ M = M') := by
  have hx1 := hx.1
  refine ACall.of Tryz.func32 rfl (n := 31) rfl rfl rfl ?_
  refine zg ?_
  refine zM (.str []) ?_
  refine zN ?_
  refine zg ?_
  refine AOps.allocG (Es := [0]) trivial rfl (by decide) rfl (by decide) zero_88 rfl (cells := [.lit (.pointer none), .lit (.slice none 0 0)]) rfl (all_scalar rfl) (all_flat rfl) ?_
  intro id1 hid1n hid1t
  refine zN ?_
  refine AWp.seq ?_
  refine zg ?_
  refine zM (.list false 46 (x.map encL)) ?_
  refine zr (zL (x.map encL) x.length Tryz.underlying42 (by simp)) ?_
  refine zM (zI 0) ?_
  refine zN ?_
  refine AWp.block ?_
  refine AWp.loopE [0, 3, 8, 9, 10] [] (fun m s => ∃ (i : Nat) (p : AV), m = x.length - i ∧ s = ⟨[(0, .list false 46 (x.map encL)), (3, .gptr id1 0), (8, .list false 46 (x.map encL)), (9, zI (x.length : Int)), (10, zI (i : Int))], [], (setM M id1 [p, bufAV (joinT (x.take i))])⟩ ∧ (i ≤ x.length) ∧ (p = .lit (.pointer none) ∨ p = .gptr id1 0)) ?_ ?_
  · exact ⟨_, 0, _, rfl, rfl, Nat.zero_le _, .inl rfl⟩
  · rintro _ _ ⟨i, p, rfl, rfl, hi, hp⟩
    have hxi := hx.2 i
    refine zg ?_
    refine zr (zi (decide ((i : Int) < (x.length : Int)))) ?_
    refine zN ?_
    refine AWp.seq ?_
    refine zC (b := decide ((i : Int) < (x.length : Int))) rfl (fun h1 => ?_) (fun h1 => ?_)
    · skip
      have h1' : i < x.length := (by have hh := of_decide_eq_true h1; omega)
      clear h1
      refine AWp.skip ?_
      refine AWp.seq ?_
      refine AWp.block ?_
      refine zg ?_
      refine zr (zel i (.list false 50 ((x.getD i []).map encF)) Tryz.underlying42 sizeOf_46 (getD_map (l := x) (j := i) (by first | assumption | omega))) ?_
      refine zr (zlE (.list false 50 ((x.getD i []).map encF)) Tryz.underlying46 sizeOf_46) ?_
      refine zM (.list false 50 ((x.getD i []).map encF)) ?_
      refine zN ?_
      refine AWp.seq ?_
      refine zg ?_
      refine zM (.list false 50 ((x.getD i []).map encF)) ?_
      refine zr (zL ((x.getD i []).map encF) ((x.getD i []).length) Tryz.underlying46 (by simp)) ?_
      refine zM (zI 0) ?_
      refine zN ?_
      refine AWp.block ?_
      refine AWp.loopE [0, 3, 8, 9, 10, 5, 14, 15, 16] [] (fun m s => ∃ (k : Nat) (p : AV), m = (x.getD i []).length - k ∧ s = ⟨[(0, .list false 46 (x.map encL)), (3, .gptr id1 0), (8, .list false 46 (x.map encL)), (9, zI (x.length : Int)), (10, zI (i : Int)), (5, .list false 50 ((x.getD i []).map encF)), (14, .list false 50 ((x.getD i []).map encF)), (15, zI (((x.getD i []).length : Nat) : Int)), (16, zI (k : Int))], [], (setM M id1 [p, bufAV (joinAt x i k)])⟩ ∧ (k ≤ (x.getD i []).length) ∧ (i < x.length) ∧ (p = .lit (.pointer none) ∨ p = .gptr id1 0)) ?_ ?_
      · exact ⟨_, 0, _, rfl, (by rw [joinAt_0]; rfl), Nat.zero_le _, by assumption, hp⟩
      · rintro _ _ ⟨k, p, rfl, rfl, hk, hi2, hp⟩
        refine zg ?_
        refine zr (zi (decide ((k : Int) < (((x.getD i []).length : Nat) : Int)))) ?_
        refine zN ?_
        refine AWp.seq ?_
        refine zC (b := decide ((k : Int) < (((x.getD i []).length : Nat) : Int))) rfl (fun h2 => ?_) (fun h2 => ?_)
        · skip
          have h2' : k < ((x.getD i []).length) := (by have hh := of_decide_eq_true h2; omega)
          clear h2
          refine AWp.skip ?_
          refine AWp.seq ?_
          refine AWp.block ?_
          refine zg ?_
          refine zM (zI (k : Int)) ?_
          refine zr (zel k (encF ((x.getD i []).getD k f0)) Tryz.underlying46 sizeOf_50 (getD_map (l := (x.getD i [])) (j := k) (by first | assumption | omega))) ?_
          refine zr (zlE (encF ((x.getD i []).getD k f0)) Tryz.underlying50 sizeOf_50) ?_
          refine zal [] zero_50 [.str [], zI 0, zI 0] ?_
          refine zM (zI (k : Int)) ?_
          refine zst sizeOf_50 (encF ((x.getD i []).getD k f0)) ?_
          refine zN ?_
          refine AWp.seq ?_
          refine zg ?_
          refine zM (zI (k : Int)) ?_
          refine zr (zi (decide ((k : Int) > 0))) ?_
          refine zN ?_
          refine zC (b := decide ((k : Int) > 0)) rfl (fun h3 => ?_) (fun h3 => ?_)
          · skip
            have h3' : k > 0 := (by have hh := of_decide_eq_true h3; omega)
            clear h3
            refine AWp.region ?_
            refine zc [.gptr id1 0, .lit (.int .u8 32)] Tryz.call55 (WriteByte_to id1 (by assumption) (joinAt x i k) ((joinAt x i k) ++ [(32 : UInt8)]) (32 : UInt8) rfl (by have hj1 := joinAt_le (x := x) hi2 hk; omega) p (by assumption) (setM M id1 [p, bufAV (joinAt x i k)]) (setM M id1 [.gptr id1 0, bufAV ((joinAt x i k) ++ [(32 : UInt8)])]) setM_get setM_setM) ?_
            rintro _ _ ⟨rfl, rfl⟩
            refine zN ?_
            refine AWp.region ?_
            refine zr (zfL Tryz.underlying50 sizeOf_9) ?_
            refine zr (zlL (.str (((x.getD i []).getD k f0).text)) Tryz.underlying9 sizeOf_9) ?_
            refine zc [.gptr id1 0, .str (((x.getD i []).getD k f0).text)] Tryz.call56 (WriteString_to id1 (by assumption) ((joinAt x i k) ++ [(32 : UInt8)]) (((x.getD i []).getD k f0).text) (joinAt x i (k + 1)) (joinAt_pos (by assumption) (by assumption)) (fun e => hne i k hi2 (by assumption) (List.append_eq_nil_iff.1 e).2) (by have hj2 := joinAt_le2 (x := x) (i := i) (k := k) hi2 (by assumption); split at hj2 <;> (first | omega | (rw [List.length_append]; simp only [List.length_cons, List.length_nil]; omega))) (.gptr id1 0) (.inr rfl) (setM M id1 [.gptr id1 0, bufAV ((joinAt x i k) ++ [(32 : UInt8)])]) (setM M id1 [.gptr id1 0, bufAV (joinAt x i (k + 1))]) setM_get setM_setM) ?_
            rintro _ _ ⟨rfl, rfl⟩
            refine zN ?_
            refine AWp.region ?_
            refine zr (zw ((k : Int) + 1) ((k + 1 : Nat) : Int)) ?_
            refine zM (zI ((k + 1 : Nat) : Int)) ?_
            refine zN ?_
            exact ⟨_, by omega, k + 1, _, rfl, rfl, by omega, by omega, .inr rfl⟩
          · skip
            have h3' : ¬ (k > 0) := (by have hh := of_decide_eq_false h3; omega)
            clear h3
            refine AWp.skip ?_
            refine AWp.region ?_
            refine zr (zfL Tryz.underlying50 sizeOf_9) ?_
            refine zr (zlL (.str (((x.getD i []).getD k f0).text)) Tryz.underlying9 sizeOf_9) ?_
            refine zc [.gptr id1 0, .str (((x.getD i []).getD k f0).text)] Tryz.call56 (WriteString_to id1 (by assumption) (joinAt x i k) (((x.getD i []).getD k f0).text) (joinAt x i (k + 1)) (joinAt_neg (by assumption) (by assumption)) (fun e => hne i k hi2 (by assumption) (List.append_eq_nil_iff.1 e).2) (by have hj2 := joinAt_le2 (x := x) (i := i) (k := k) hi2 (by assumption); split at hj2 <;> (first | omega | (rw [List.length_append]; simp only [List.length_cons, List.length_nil]; omega))) p (by assumption) (setM M id1 [p, bufAV (joinAt x i k)]) (setM M id1 [.gptr id1 0, bufAV (joinAt x i (k + 1))]) setM_get setM_setM) ?_
            rintro _ _ ⟨rfl, rfl⟩
            refine zN ?_
            refine AWp.region ?_
            refine zr (zw ((k : Int) + 1) ((k + 1 : Nat) : Int)) ?_
            refine zM (zI ((k + 1 : Nat) : Int)) ?_
            refine zN ?_
            exact ⟨_, by omega, k + 1, _, rfl, rfl, by omega, by omega, .inr rfl⟩
        · skip
          have h2' : ¬ (k < ((x.getD i []).length)) := (by have hh := of_decide_eq_false h2; omega)
          clear h2
          refine AWp.exit ?_
          refine AWp.region ?_
          refine zc [.gptr id1 0, .lit (.int .u8 10)] Tryz.call55 (WriteByte_to id1 (by assumption) (joinAt x i k) (joinT (x.take (i + 1))) (10 : UInt8) (joinAt_end hi2 hk (by assumption)) (by have hj1 := joinAt_le (x := x) hi2 hk; omega) p (by assumption) (setM M id1 [p, bufAV (joinAt x i k)]) (setM M id1 [.gptr id1 0, bufAV (joinT (x.take (i + 1)))]) setM_get setM_setM) ?_
          rintro _ _ ⟨rfl, rfl⟩
          refine zN ?_
          refine AWp.region ?_
          refine zr (zw ((i : Int) + 1) ((i + 1 : Nat) : Int)) ?_
          refine zM (zI ((i + 1 : Nat) : Int)) ?_
          refine zN ?_
          exact ⟨_, by omega, i + 1, _, rfl, rfl, by omega, .inr rfl⟩
    · skip
      have h1' : ¬ (i < x.length) := (by have hh := of_decide_eq_false h1; omega)
      clear h1
      refine AWp.exit ?_
      refine zg ?_
      refine zc [.gptr id1 0] Tryz.call57 (String_any id1 (by assumption) (joinT (x.take i)) (by rw [join_done (by assumption) (by assumption)]; exact hb) p (setM M id1 [p, bufAV (joinT (x.take i))]) M setM_get (delM_set hid1n)) ?_
      rintro _ _ ⟨rfl, rfl⟩
      refine zM (.str (joinT (x.take i))) ?_
      refine zN ?_
      refine AWp.ret ?_
      exact ⟨.inl rfl, _, ResOf.one 2 (.str (joinT (x.take i))) rfl rfl, ⟨congrArg AV.str (join_done (by assumption) (by assumption)), rfl⟩⟩
end
end Go.Proofs.YtmmfkpbkacfegaaGreatDoor
