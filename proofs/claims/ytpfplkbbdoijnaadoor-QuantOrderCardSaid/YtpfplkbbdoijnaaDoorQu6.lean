/- Walks over abstract values, printed by my program av.py. -/
import Derived.Test.YtpfplkbbdoijnaaDoorQu4
import Derived.Test.YtpfplkbbdoijnaaDoorAvAny2
namespace Go.Proofs.YtpfplkbbdoijnaaDoor
open Go.RowKit

theorem order_z {eA eB eC : Int} {xA xB xC a b : Nat} (h1 : eA = 0) (h2 : eB = 0) (h3 : eC = 0) (h4 : xA ≤ xB) (h5 : a ≤ b → xC ≤ xA) :
    (bif eA != 0 then true else (bif eB != 0 then true else (bif eC != 0 then true else (bif decide ((xB : Int) < (xA : Int)) then true else (bif decide ((a : Int) ≤ (b : Int)) then decide ((xC : Int) > (xA : Int)) else false))))) = false := by
  subst h1; subst h2; subst h3
  rw [decide_eq_false (show ¬ (xB : Int) < (xA : Int) by omega)]
  by_cases h : a ≤ b
  · have := h5 h
    rw [decide_eq_true (show (a : Int) ≤ (b : Int) by omega), decide_eq_false (show ¬ (xC : Int) > (xA : Int) by omega)]; rfl
  · rw [decide_eq_false (show ¬ (a : Int) ≤ (b : Int) by omega)]; rfl
theorem order_dec (n d : Nat) : decV (digs n ++ digs (d % 10)) = satN (satN n * 10 + d % 10) := by
  rw [digs_small (show d % 10 < 10 by omega), decV_snoc, decV_digs]
  have : (UInt8.ofNat (48 + d % 10)).toNat = 48 + d % 10 := UInt8.toNat_ofNat_of_lt' (by show 48 + d % 10 < 256; omega)
  rw [this]; congr 1; omega
theorem order_b (n d : Nat) {k : Nat} (hk : k < 8) : qv ((digs n ++ digs (d % 10)) ++ namesL.getD k []) = satN (satN (satN n * 10 + d % 10) * unitOf (namesL.getD k [])) ∧ qe ((digs n ++ digs (d % 10)) ++ namesL.getD k []) = 0 := by
  have hu := nm_unit hk
  have hd : ∀ c ∈ digs n ++ digs (d % 10), isD c = true := by
    intro c hc
    rcases List.mem_append.1 hc with h | h
    · exact digs_isD _ c h
    · exact digs_isD _ c h
  have := quantV_app (nm := namesL.getD k []) hd (by simp [digs_ne]) (by rw [name_unit hk]; exact unit_head (unit_mem hk)) (by omega)
  rw [order_dec] at this
  exact q_some this
theorem order_1 (n d : Nat) {k : Nat} (hk : k < 8) : qv (digs n ++ namesL.getD k []) ≤ qv ((digs n ++ digs (d % 10)) ++ namesL.getD k []) := by
  rw [(quant_name n hk).1, (order_b n d hk).1, satN_mul (satN n * 10 + d % 10)]
  refine satN_mono ?_
  exact Nat.mul_le_mul_right _ (by generalize satN n = x; omega)
theorem names_mono : ∀ a b, a < 8 → b < 8 → a ≤ b → unitOf (namesL.getD b []) ≤ unitOf (namesL.getD a []) := by
  intro a b ha hb
  have key : ((List.range 8).all fun a => (List.range 8).all fun b => !(decide (a ≤ b)) || decide (unitOf (namesL.getD b []) ≤ unitOf (namesL.getD a []))) = true := by decide +kernel
  have := List.all_eq_true.1 (List.all_eq_true.1 key a (List.mem_range.2 ha)) b (List.mem_range.2 hb)
  intro h
  simpa [h] using this
theorem order_2 (n : Nat) {a b : Nat} (h : a < 8 ∧ b < 8) : a ≤ b → qv (digs n ++ namesL.getD b []) ≤ qv (digs n ++ namesL.getD a []) := by
  intro hab
  rw [(quant_name n h.1).1, (quant_name n h.2).1]
  exact satN_mono (Nat.mul_le_mul_left _ (names_mono a b h.1 h.2 hab))
/-- A digit or a letter. -/
def AlNum (c : UInt8) : Prop := (48 ≤ c.toNat ∧ c.toNat ≤ 57) ∨ (65 ≤ c.toNat ∧ c.toNat ≤ 90) ∨ (97 ≤ c.toNat ∧ c.toNat ≤ 122)
instance (c : UInt8) : Decidable (AlNum c) := by unfold AlNum; infer_instance
theorem aln_eq {c : UInt8} : (bif decide ((c.toNat : Int) ≥ 48) then (bif decide ((c.toNat : Int) ≤ 57) then true else (bif decide ((c.toNat : Int) ≥ 65) then (bif decide ((c.toNat : Int) ≤ 90) then true else (bif decide ((c.toNat : Int) ≥ 97) then decide ((c.toNat : Int) ≤ 122) else false)) else (bif decide ((c.toNat : Int) ≥ 97) then decide ((c.toNat : Int) ≤ 122) else false))) else (bif decide ((c.toNat : Int) ≥ 65) then (bif decide ((c.toNat : Int) ≤ 90) then true else (bif decide ((c.toNat : Int) ≥ 97) then decide ((c.toNat : Int) ≤ 122) else false)) else (bif decide ((c.toNat : Int) ≥ 97) then decide ((c.toNat : Int) ≤ 122) else false))) = decide (AlNum c) := by
  rw [Bool.eq_iff_iff, decide_eq_true_iff]; unfold AlNum
  simp only [Bool.cond_eq_ite]
  constructor
  · intro h
    repeat' split at h
    all_goals simp_all
    all_goals omega
  · intro h
    repeat' split
    all_goals simp_all
    all_goals omega
theorem aln_t {c : UInt8} (h : (bif decide ((c.toNat : Int) ≥ 48) then (bif decide ((c.toNat : Int) ≤ 57) then true else (bif decide ((c.toNat : Int) ≥ 65) then (bif decide ((c.toNat : Int) ≤ 90) then true else (bif decide ((c.toNat : Int) ≥ 97) then decide ((c.toNat : Int) ≤ 122) else false)) else (bif decide ((c.toNat : Int) ≥ 97) then decide ((c.toNat : Int) ≤ 122) else false))) else (bif decide ((c.toNat : Int) ≥ 65) then (bif decide ((c.toNat : Int) ≤ 90) then true else (bif decide ((c.toNat : Int) ≥ 97) then decide ((c.toNat : Int) ≤ 122) else false)) else (bif decide ((c.toNat : Int) ≥ 97) then decide ((c.toNat : Int) ≤ 122) else false))) = true) : AlNum c := by rw [aln_eq] at h; exact of_decide_eq_true h
theorem aln_f {c : UInt8} (h : (bif decide ((c.toNat : Int) ≥ 48) then (bif decide ((c.toNat : Int) ≤ 57) then true else (bif decide ((c.toNat : Int) ≥ 65) then (bif decide ((c.toNat : Int) ≤ 90) then true else (bif decide ((c.toNat : Int) ≥ 97) then decide ((c.toNat : Int) ≤ 122) else false)) else (bif decide ((c.toNat : Int) ≥ 97) then decide ((c.toNat : Int) ≤ 122) else false))) else (bif decide ((c.toNat : Int) ≥ 65) then (bif decide ((c.toNat : Int) ≤ 90) then true else (bif decide ((c.toNat : Int) ≥ 97) then decide ((c.toNat : Int) ≤ 122) else false)) else (bif decide ((c.toNat : Int) ≥ 97) then decide ((c.toNat : Int) ≤ 122) else false))) = false) : ¬ AlNum c := by rw [aln_eq] at h; exact of_decide_eq_false h
theorem quant_aln {t : List UInt8} (h : quantV t ≠ none) : ∀ x ∈ t, AlNum x := by
  intro x hx
  unfold quantV at h
  by_cases hc : t.takeWhile isD = [] ∨ unitOf (t.dropWhile isD) = 0
  · rw [if_pos hc] at h; exact absurd rfl h
  · have hx' : x ∈ t.takeWhile isD ++ t.dropWhile isD := by rw [List.takeWhile_append_dropWhile]; exact hx
    rcases List.mem_append.1 hx' with h1 | h1
    · have : isD x = true := by
        have key : ∀ l : List UInt8, ∀ x ∈ l.takeWhile isD, isD x = true := by
          intro l
          induction l with
          | nil => intro x hx; cases hx
          | cons b r ih =>
            intro x hx
            rw [List.takeWhile_cons] at hx
            split at hx
            · rename_i hb
              rcases List.mem_cons.1 hx with rfl | hx
              · exact hb
              · exact ih x hx
            · cases hx
        exact key t x h1
      rw [isD_iff] at this
      simp only [Bool.and_eq_true, decide_eq_true_eq] at this
      exact .inl this
    · have hu : unitOf (t.dropWhile isD) ≠ 0 := fun e => hc (.inr e)
      generalize t.dropWhile isD = s at h1 hu
      unfold unitOf at hu
      by_cases h0 : s = []
      · rw [h0] at h1; cases h1
      · rw [if_neg h0] at hu
        split at hu
        · rename_i u hf
          have hm := List.mem_of_find?_eq_some hf
          have he := List.find?_some hf
          have hall : ∀ u ∈ unitL, ∀ c ∈ u.1, AlNum c := by decide
          exact hall u hm x (by rw [eq_of_beq he]; exact h1)
        · exact absurd rfl hu
theorem order_last {c : UInt8} {a b : List UInt8} (h : ¬ AlNum c) : (qe ((a ++ [c]) ++ b) == 2) = true := by
  rw [qe_eq2]
  cases hq : quantV ((a ++ [c]) ++ b) with
  | none => rfl
  | some v => exact absurd (quant_aln (by rw [hq]; simp) c (by simp)) h

set_option maxRecDepth 20000 in
theorem QuantOrder_any (n d i j : Nat) (c : UInt8) (q : Nat) (hn : n ≤ 4294967295) (hd : d ≤ 255) (hi : i ≤ 255) (hj : j ≤ 255) (hq : q ≤ 255) (M : Nat → Option (List AV)) : ACall Tryd.prog 7 [.lit (.int .u32 (n : Int)), .lit (.int .u8 (d : Int)), .lit (.int .u8 (i : Int)), .lit (.int .u8 (j : Int)), .lit (.int .u8 (c.toNat : Int)), .lit (.int .u8 (q : Int))] M (fun r M' => r = .lit (.bool true) ∧ M = M') := by
  have hd1 := digs_len20 n (by omega)
  have hd2 := digs_len20 (d % 10) (by omega)
  have hn1 := name_len (i % 8)
  have hn2 := name_len (j % 8)
  have hq1 := Nat.mod_lt q (show 0 < (digs n).length + 1 by omega)
  refine ACall.of Tryd.func7 rfl (n := 143) rfl rfl rfl ?_
  refine AWp.seq (AWp.region ?_)
  refine AOps.read trivial rfl (by decide) (Reader.move (.inr rfl) (ok_const rfl) (v := .lit (.bool false)) rfl) ?_
  refine AOps.nil ?_
  refine AWp.seq ?_
  refine AWp.seq (AWp.region ?_)
  refine AOps.call (args := []) trivial rfl (by decide) rfl rfl Tryd.call8 (args_ok rfl) rfl (by intro j x v hx hv; match j, hx, hv with  | _ + 0, hx, hv => cases hx) (awake_any M) ?_
  rintro _ _ ⟨rfl, rfl⟩
  refine AOps.read trivial rfl (by decide) (Reader.not (b := true) rfl rfl) ?_
  refine AOps.nil ?_
  refine AWp.cond (b := false) rfl (fun hx => by cases hx) (fun hx => ?_)
  refine AWp.skip ?_
  refine AWp.seq (AWp.region ?_)
  refine AOps.call (args := []) trivial rfl (by decide) rfl rfl Tryd.call15 (args_ok rfl) rfl (by intro j x v hx hv; match j, hx, hv with  | _ + 0, hx, hv => cases hx) (Units_any M) ?_
  rintro _ _ ⟨rfl, rfl⟩
  refine AOps.steal trivial rfl (by decide) (by decide) (.inr rfl) (v := .list true 9 (namesL.map AV.str)) rfl ?_
  refine AOps.nil ?_
  refine AWp.seq (AWp.region ?_)
  refine AOps.read trivial rfl (by decide) (Reader.move (.inl rfl) (ok_const rfl) (v := .lit (.int .u32 (n : Int))) rfl) ?_
  refine AOps.read trivial rfl (by decide) (Reader.conv rfl Tryd.underlying32 Tryd.underlying3 (by simp) rfl (c := (n : Int)) (by first | exact IntWalk.i64_in _ (by omega) | exact IntWalk.i64_in _ (by constructor <;> omega) | (simp only [];omega))) ?_
  refine AOps.call (args := [.lit (.int .i64 (n : Int))]) trivial rfl (by decide) rfl rfl Tryd.call17 (args_ok rfl) rfl (by intro j x v hx hv; match j, hx, hv with | 0, hx, hv => cases hx; cases hv; exact .inl ⟨rfl, rfl⟩ | _ + 1, hx, hv => cases hx) (Digits_any n (by omega) M) ?_
  rintro _ _ ⟨rfl, rfl⟩
  refine AOps.read trivial rfl (by decide) (Reader.move (.inr rfl) (ok_const rfl) (v := .str (digs n)) rfl) ?_
  refine AOps.nil ?_
  refine AWp.seq (AWp.region ?_)
  refine AOps.read trivial rfl (by decide) (Reader.move (.inl rfl) (ok_const rfl) (v := .str (digs n)) rfl) ?_
  refine AOps.read trivial rfl (by decide) (Reader.move (.inl rfl) (ok_const rfl) (v := .list false 9 (namesL.map AV.str)) rfl) ?_
  refine AOps.read trivial rfl (by decide) (Reader.move (.inl rfl) (ok_const rfl) (v := .lit (.int .u8 (i : Int))) rfl) ?_
  refine AOps.read trivial rfl (by decide) (Reader.rem rfl rfl rfl (by decide) (c := ((i % 8 : Nat) : Int)) (by first | rfl | exact nat_rem _ _)) ?_
  refine AOps.read trivial rfl (by decide) (Reader.conv rfl Tryd.underlying5 Tryd.underlying3 (by simp) rfl (c := ((i % 8 : Nat) : Int)) (by first | exact IntWalk.i64_in _ (by omega) | exact IntWalk.i64_in _ (by constructor <;> omega) | (simp only [];omega))) ?_
  refine AOps.read trivial rfl (by decide) (Reader.elemAddr (m := i % 8) rfl Tryd.underlying33 sizeOf_9 rfl rfl rfl (e := .str (namesL.getD (i % 8) [])) (name_at (by omega))) ?_
  refine AOps.read trivial rfl (by decide) (Reader.loadE rfl Tryd.underlying9 sizeOf_9 rfl (v := .str (namesL.getD (i % 8) [])) rfl rfl) ?_
  refine AOps.read trivial rfl (by decide) (Reader.cat rfl rfl rfl (by first | omega | (simp only [List.length_append, List.length_cons, List.length_nil]; omega) | (simp; omega)) (c := (digs n) ++ (namesL.getD (i % 8) [])) rfl) ?_
  refine AOps.call (args := [.str ((digs n) ++ (namesL.getD (i % 8) []))]) trivial rfl (by decide) rfl rfl Tryd.call9 (args_ok rfl) rfl (by intro j x v hx hv; match j, hx, hv with | 0, hx, hv => cases hx; cases hv; exact .inl ⟨rfl, rfl⟩ | _ + 1, hx, hv => cases hx) (Read_any ((digs n) ++ (namesL.getD (i % 8) [])) (by first | omega | (simp only [List.length_append, List.length_cons, List.length_nil, List.length_take, List.length_drop]; omega)) M) ?_
  rintro _ _ ⟨rfl, rfl⟩
  refine AOps.read trivial rfl (by decide) (Reader.move (.inl rfl) (ok_const rfl) (v := .tuple [.lit (.int .i64 ((qv ((digs n) ++ (namesL.getD (i % 8) [])) : Nat) : Int)), .lit (.int .i64 (qe ((digs n) ++ (namesL.getD (i % 8) []))))]) rfl) ?_
  refine AOps.read trivial rfl (by decide) (Reader.extract (v := .lit (.int .i64 ((qv ((digs n) ++ (namesL.getD (i % 8) [])) : Nat) : Int))) rfl rfl rfl rfl) ?_
  refine AOps.read trivial rfl (by decide) (Reader.extract (v := .lit (.int .i64 (qe ((digs n) ++ (namesL.getD (i % 8) []))))) rfl rfl rfl rfl) ?_
  refine AOps.read trivial rfl (by decide) (Reader.move (.inr rfl) (ok_const rfl) (v := .lit (.int .i64 ((qv ((digs n) ++ (namesL.getD (i % 8) [])) : Nat) : Int))) rfl) ?_
  refine AOps.read trivial rfl (by decide) (Reader.move (.inr rfl) (ok_const rfl) (v := .lit (.int .i64 (qe ((digs n) ++ (namesL.getD (i % 8) []))))) rfl) ?_
  refine AOps.nil ?_
  refine AWp.seq (AWp.drawnAll (by kernel_rfl) (by kernel_rfl) ?_)
  refine AOpsE.read trivial rfl (by decide) (Reader.move (.inl rfl) (ok_const rfl) (v := .str (digs n)) rfl) ?_
  refine AOpsE.read trivial rfl (by decide) (Reader.move (.inl rfl) (ok_const rfl) (v := .lit (.int .u8 (d : Int))) rfl) ?_
  refine AOpsE.read trivial rfl (by decide) (Reader.rem rfl rfl rfl (by decide) (c := ((d % 10 : Nat) : Int)) (by first | rfl | exact nat_rem _ _)) ?_
  refine AOpsE.read trivial rfl (by decide) (Reader.conv rfl Tryd.underlying5 Tryd.underlying3 (by simp) rfl (c := ((d % 10 : Nat) : Int)) (by first | exact IntWalk.i64_in _ (by omega) | exact IntWalk.i64_in _ (by constructor <;> omega) | (simp only [];omega))) ?_
  refine AOpsE.call (args := [.lit (.int .i64 ((d % 10 : Nat) : Int))]) (v := .str (digs (d % 10))) trivial rfl (by decide) rfl rfl Tryd.call17 (args_ok rfl) rfl (by intro j x v hx hv; match j, hx, hv with | 0, hx, hv => cases hx; cases hv; exact .inl ⟨rfl, rfl⟩ | _ + 1, hx, hv => cases hx) (Digits_any (d % 10) (by omega) noM) rfl ?_
  refine AOpsE.read trivial rfl (by decide) (Reader.cat rfl rfl rfl (by first | omega | (simp only [List.length_append, List.length_cons, List.length_nil]; omega) | (simp; omega)) (c := (digs n) ++ (digs (d % 10))) rfl) ?_
  refine AOpsE.read trivial rfl (by decide) (Reader.move (.inl rfl) (ok_const rfl) (v := .list false 9 (namesL.map AV.str)) rfl) ?_
  refine AOpsE.read trivial rfl (by decide) (Reader.move (.inl rfl) (ok_const rfl) (v := .lit (.int .u8 (i : Int))) rfl) ?_
  refine AOpsE.read trivial rfl (by decide) (Reader.rem rfl rfl rfl (by decide) (c := ((i % 8 : Nat) : Int)) (by first | rfl | exact nat_rem _ _)) ?_
  refine AOpsE.read trivial rfl (by decide) (Reader.conv rfl Tryd.underlying5 Tryd.underlying3 (by simp) rfl (c := ((i % 8 : Nat) : Int)) (by first | exact IntWalk.i64_in _ (by omega) | exact IntWalk.i64_in _ (by constructor <;> omega) | (simp only [];omega))) ?_
  refine AOpsE.read trivial rfl (by decide) (Reader.elemAddr (m := i % 8) rfl Tryd.underlying33 sizeOf_9 rfl rfl rfl (e := .str (namesL.getD (i % 8) [])) (name_at (by omega))) ?_
  refine AOpsE.read trivial rfl (by decide) (Reader.loadE rfl Tryd.underlying9 sizeOf_9 rfl (v := .str (namesL.getD (i % 8) [])) rfl rfl) ?_
  refine AOpsE.read trivial rfl (by decide) (Reader.cat rfl rfl rfl (by first | omega | (simp only [List.length_append, List.length_cons, List.length_nil]; omega) | (simp; omega)) (c := ((digs n) ++ (digs (d % 10))) ++ (namesL.getD (i % 8) [])) rfl) ?_
  refine AOpsE.call (args := [.str (((digs n) ++ (digs (d % 10))) ++ (namesL.getD (i % 8) []))]) (v := .tuple [.lit (.int .i64 ((qv (((digs n) ++ (digs (d % 10))) ++ (namesL.getD (i % 8) [])) : Nat) : Int)), .lit (.int .i64 (qe (((digs n) ++ (digs (d % 10))) ++ (namesL.getD (i % 8) []))))]) trivial rfl (by decide) rfl rfl Tryd.call9 (args_ok rfl) rfl (by intro j x v hx hv; match j, hx, hv with | 0, hx, hv => cases hx; cases hv; exact .inl ⟨rfl, rfl⟩ | _ + 1, hx, hv => cases hx) (Read_any (((digs n) ++ (digs (d % 10))) ++ (namesL.getD (i % 8) [])) (by first | omega | (simp only [List.length_append, List.length_cons, List.length_nil, List.length_take, List.length_drop]; omega)) noM) rfl ?_
  refine AOpsE.read trivial rfl (by decide) (Reader.move (.inl rfl) (ok_const rfl) (v := .tuple [.lit (.int .i64 ((qv (((digs n) ++ (digs (d % 10))) ++ (namesL.getD (i % 8) [])) : Nat) : Int)), .lit (.int .i64 (qe (((digs n) ++ (digs (d % 10))) ++ (namesL.getD (i % 8) []))))]) rfl) ?_
  refine AOpsE.read trivial rfl (by decide) (Reader.extract (v := .lit (.int .i64 ((qv (((digs n) ++ (digs (d % 10))) ++ (namesL.getD (i % 8) [])) : Nat) : Int))) rfl rfl rfl rfl) ?_
  refine AOpsE.read trivial rfl (by decide) (Reader.extract (v := .lit (.int .i64 (qe (((digs n) ++ (digs (d % 10))) ++ (namesL.getD (i % 8) []))))) rfl rfl rfl rfl) ?_
  refine AOpsE.read trivial rfl (by decide) (Reader.move (.inr rfl) (ok_const rfl) (v := .lit (.int .i64 ((qv (((digs n) ++ (digs (d % 10))) ++ (namesL.getD (i % 8) [])) : Nat) : Int))) rfl) ?_
  refine AOpsE.read trivial rfl (by decide) (Reader.move (.inr rfl) (ok_const rfl) (v := .lit (.int .i64 (qe (((digs n) ++ (digs (d % 10))) ++ (namesL.getD (i % 8) []))))) rfl) ?_
  refine AOpsE.nil ?_
  refine AWp.seq (AWp.region ?_)
  refine AOps.read trivial rfl (by decide) (Reader.move (.inl rfl) (ok_const rfl) (v := .str (digs n)) rfl) ?_
  refine AOps.read trivial rfl (by decide) (Reader.move (.inl rfl) (ok_const rfl) (v := .list false 9 (namesL.map AV.str)) rfl) ?_
  refine AOps.read trivial rfl (by decide) (Reader.move (.inl rfl) (ok_const rfl) (v := .lit (.int .u8 (j : Int))) rfl) ?_
  refine AOps.read trivial rfl (by decide) (Reader.rem rfl rfl rfl (by decide) (c := ((j % 8 : Nat) : Int)) (by first | rfl | exact nat_rem _ _)) ?_
  refine AOps.read trivial rfl (by decide) (Reader.conv rfl Tryd.underlying5 Tryd.underlying3 (by simp) rfl (c := ((j % 8 : Nat) : Int)) (by first | exact IntWalk.i64_in _ (by omega) | exact IntWalk.i64_in _ (by constructor <;> omega) | (simp only [];omega))) ?_
  refine AOps.read trivial rfl (by decide) (Reader.elemAddr (m := j % 8) rfl Tryd.underlying33 sizeOf_9 rfl rfl rfl (e := .str (namesL.getD (j % 8) [])) (name_at (by omega))) ?_
  refine AOps.read trivial rfl (by decide) (Reader.loadE rfl Tryd.underlying9 sizeOf_9 rfl (v := .str (namesL.getD (j % 8) [])) rfl rfl) ?_
  refine AOps.read trivial rfl (by decide) (Reader.cat rfl rfl rfl (by first | omega | (simp only [List.length_append, List.length_cons, List.length_nil]; omega) | (simp; omega)) (c := (digs n) ++ (namesL.getD (j % 8) [])) rfl) ?_
  refine AOps.call (args := [.str ((digs n) ++ (namesL.getD (j % 8) []))]) trivial rfl (by decide) rfl rfl Tryd.call9 (args_ok rfl) rfl (by intro j x v hx hv; match j, hx, hv with | 0, hx, hv => cases hx; cases hv; exact .inl ⟨rfl, rfl⟩ | _ + 1, hx, hv => cases hx) (Read_any ((digs n) ++ (namesL.getD (j % 8) [])) (by first | omega | (simp only [List.length_append, List.length_cons, List.length_nil, List.length_take, List.length_drop]; omega)) M) ?_
  rintro _ _ ⟨rfl, rfl⟩
  refine AOps.read trivial rfl (by decide) (Reader.move (.inl rfl) (ok_const rfl) (v := .tuple [.lit (.int .i64 ((qv ((digs n) ++ (namesL.getD (j % 8) [])) : Nat) : Int)), .lit (.int .i64 (qe ((digs n) ++ (namesL.getD (j % 8) []))))]) rfl) ?_
  refine AOps.read trivial rfl (by decide) (Reader.extract (v := .lit (.int .i64 ((qv ((digs n) ++ (namesL.getD (j % 8) [])) : Nat) : Int))) rfl rfl rfl rfl) ?_
  refine AOps.read trivial rfl (by decide) (Reader.extract (v := .lit (.int .i64 (qe ((digs n) ++ (namesL.getD (j % 8) []))))) rfl rfl rfl rfl) ?_
  refine AOps.read trivial rfl (by decide) (Reader.move (.inr rfl) (ok_const rfl) (v := .lit (.int .i64 ((qv ((digs n) ++ (namesL.getD (j % 8) [])) : Nat) : Int))) rfl) ?_
  refine AOps.read trivial rfl (by decide) (Reader.move (.inr rfl) (ok_const rfl) (v := .lit (.int .i64 (qe ((digs n) ++ (namesL.getD (j % 8) []))))) rfl) ?_
  refine AOps.nil ?_
  refine AWp.seq ?_
  refine AWp.regionJ [97, 0, 1, 2, 3, 4, 5, 12, 25, 13, 14, 15, 16, 17, 18, 19, 20] [] (fun z => ⟨(97, .lit (.bool z)) :: [(0, .lit (.int .u32 (n : Int))), (1, .lit (.int .u8 (d : Int))), (2, .lit (.int .u8 (i : Int))), (3, .lit (.int .u8 (j : Int))), (4, .lit (.int .u8 (c.toNat : Int))), (5, .lit (.int .u8 (q : Int))), (12, .lit (.bool false)), (25, .lit (.bool false)), (13, .list true 9 (namesL.map AV.str)), (14, .str (digs n)), (15, .lit (.int .i64 ((qv ((digs n) ++ (namesL.getD (i % 8) [])) : Nat) : Int))), (16, .lit (.int .i64 (qe ((digs n) ++ (namesL.getD (i % 8) []))))), (17, .lit (.int .i64 ((qv (((digs n) ++ (digs (d % 10))) ++ (namesL.getD (i % 8) [])) : Nat) : Int))), (18, .lit (.int .i64 (qe (((digs n) ++ (digs (d % 10))) ++ (namesL.getD (i % 8) []))))), (19, .lit (.int .i64 ((qv ((digs n) ++ (namesL.getD (j % 8) [])) : Nat) : Int))), (20, .lit (.int .i64 (qe ((digs n) ++ (namesL.getD (j % 8) [])))))], [], M⟩) (z := bif ((qe ((digs n) ++ (namesL.getD (i % 8) []))) != 0) then true else (bif ((qe (((digs n) ++ (digs (d % 10))) ++ (namesL.getD (i % 8) []))) != 0) then true else (bif ((qe ((digs n) ++ (namesL.getD (j % 8) []))) != 0) then true else (bif (decide (((qv (((digs n) ++ (digs (d % 10))) ++ (namesL.getD (i % 8) [])) : Nat) : Int) < ((qv ((digs n) ++ (namesL.getD (i % 8) [])) : Nat) : Int))) then true else (bif (decide (((i % 8 : Nat) : Int) ≤ ((j % 8 : Nat) : Int))) then (decide (((qv ((digs n) ++ (namesL.getD (j % 8) [])) : Nat) : Int) > ((qv ((digs n) ++ (namesL.getD (i % 8) [])) : Nat) : Int))) else false))))) ?_ ?_
  · skip
    refine AOps.read trivial rfl (by decide) (Reader.move (.inl rfl) (ok_const rfl) (v := .lit (.int .i64 (qe ((digs n) ++ (namesL.getD (i % 8) []))))) rfl) ?_
    refine AOps.read trivial rfl (by decide) (Reader.int rfl rfl rfl (r := .bool ((qe ((digs n) ++ (namesL.getD (i % 8) []))) != 0)) rfl) ?_
    refine AOps.read trivial rfl (by decide) (Reader.move (.inl rfl) (ok_const rfl) (v := .lit (.bool ((qe ((digs n) ++ (namesL.getD (i % 8) []))) != 0))) rfl) ?_
    refine AOps.splitJ (t := 73) (b := (qe ((digs n) ++ (namesL.getD (i % 8) []))) != 0) (x := true) (y := (bif ((qe (((digs n) ++ (digs (d % 10))) ++ (namesL.getD (i % 8) []))) != 0) then true else (bif ((qe ((digs n) ++ (namesL.getD (j % 8) []))) != 0) then true else (bif (decide (((qv (((digs n) ++ (digs (d % 10))) ++ (namesL.getD (i % 8) [])) : Nat) : Int) < ((qv ((digs n) ++ (namesL.getD (i % 8) [])) : Nat) : Int))) then true else (bif (decide (((i % 8 : Nat) : Int) ≤ ((j % 8 : Nat) : Int))) then (decide (((qv ((digs n) ++ (namesL.getD (j % 8) [])) : Nat) : Int) > ((qv ((digs n) ++ (namesL.getD (i % 8) [])) : Nat) : Int))) else false))))) rfl (fun h1 => ?_) (fun h1 => ?_)
    · skip
      have h1' : (qe ((digs n) ++ (namesL.getD (i % 8) []))) ≠ 0 := (by have hh := bne_iff_ne.1 h1; omega)
      clear h1
      refine AOps.skip ⟨2, false, 73, _, rfl, rfl, rfl, by simp⟩ rfl (by decide) ?_
      refine AOps.skip ⟨2, false, 73, _, rfl, rfl, rfl, by simp⟩ rfl (by decide) ?_
      refine AOps.read trivial rfl (by decide) (Reader.pick rfl (b := true) rfl (ok_const rfl) (ok_const rfl) (v := .lit (.bool true)) rfl) ?_
      refine AOps.read trivial rfl (by decide) (Reader.move (.inl rfl) (ok_const rfl) (v := .lit (.bool true)) rfl) ?_
      refine AOps.skip ⟨6, false, 77, _, rfl, rfl, rfl, by simp⟩ rfl (by decide) ?_
      refine AOps.skip ⟨6, false, 77, _, rfl, rfl, rfl, by simp⟩ rfl (by decide) ?_
      refine AOps.read trivial rfl (by decide) (Reader.pick rfl (b := true) rfl (ok_const rfl) (ok_const rfl) (v := .lit (.bool true)) rfl) ?_
      refine AOps.read trivial rfl (by decide) (Reader.move (.inl rfl) (ok_const rfl) (v := .lit (.bool true)) rfl) ?_
      refine AOps.skip ⟨10, false, 81, _, rfl, rfl, rfl, by simp⟩ rfl (by decide) ?_
      refine AOps.skip ⟨10, false, 81, _, rfl, rfl, rfl, by simp⟩ rfl (by decide) ?_
      refine AOps.skip ⟨10, false, 81, _, rfl, rfl, rfl, by simp⟩ rfl (by decide) ?_
      refine AOps.read trivial rfl (by decide) (Reader.pick rfl (b := true) rfl (ok_const rfl) (ok_const rfl) (v := .lit (.bool true)) rfl) ?_
      refine AOps.read trivial rfl (by decide) (Reader.move (.inl rfl) (ok_const rfl) (v := .lit (.bool true)) rfl) ?_
      refine AOps.skip ⟨15, false, 86, _, rfl, rfl, rfl, by simp⟩ rfl (by decide) ?_
      refine AOps.skip ⟨15, false, 86, _, rfl, rfl, rfl, by simp⟩ rfl (by decide) ?_
      refine AOps.skip ⟨15, false, 86, _, rfl, rfl, rfl, by simp⟩ rfl (by decide) ?_
      refine AOps.skip ⟨15, false, 86, _, rfl, rfl, rfl, by simp⟩ rfl (by decide) ?_
      refine AOps.skip ⟨15, false, 86, _, rfl, rfl, rfl, by simp⟩ rfl (by decide) ?_
      refine AOps.skip ⟨15, false, 86, _, rfl, rfl, rfl, by simp⟩ rfl (by decide) ?_
      refine AOps.skip ⟨21, true, 92, _, rfl, rfl, rfl, by simp [undef]⟩ rfl (by decide) ?_
      refine AOps.skip ⟨21, true, 92, _, rfl, rfl, rfl, by simp [undef]⟩ rfl (by decide) ?_
      refine AOps.skip ⟨21, true, 92, _, rfl, rfl, rfl, by simp [undef]⟩ rfl (by decide) ?_
      refine AOps.skip ⟨15, false, 86, _, rfl, rfl, rfl, by simp⟩ rfl (by decide) ?_
      refine AOps.read trivial rfl (by decide) (Reader.pick rfl (b := true) rfl (ok_const rfl) (ok_const rfl) (v := .lit (.bool true)) rfl) ?_
      exact AOps.nil rfl
    · skip
      have h1' : ¬ ((qe ((digs n) ++ (namesL.getD (i % 8) []))) ≠ 0) := (by have hh := bne_eq_false_iff_eq.1 h1; omega)
      clear h1
      refine AOps.read ⟨73, rfl, rfl⟩ rfl (by decide) (Reader.move (.inl rfl) (ok_const rfl) (v := .lit (.int .i64 (qe (((digs n) ++ (digs (d % 10))) ++ (namesL.getD (i % 8) []))))) rfl) ?_
      refine AOps.read ⟨73, rfl, rfl⟩ rfl (by decide) (Reader.int rfl rfl rfl (r := .bool ((qe (((digs n) ++ (digs (d % 10))) ++ (namesL.getD (i % 8) []))) != 0)) rfl) ?_
      refine AOps.read trivial rfl (by decide) (Reader.pick rfl (b := false) rfl (ok_const rfl) (ok_const rfl) (v := .lit (.bool ((qe (((digs n) ++ (digs (d % 10))) ++ (namesL.getD (i % 8) []))) != 0))) rfl) ?_
      refine AOps.read trivial rfl (by decide) (Reader.move (.inl rfl) (ok_const rfl) (v := .lit (.bool ((qe (((digs n) ++ (digs (d % 10))) ++ (namesL.getD (i % 8) []))) != 0))) rfl) ?_
      refine AOps.splitJ (t := 77) (b := (qe (((digs n) ++ (digs (d % 10))) ++ (namesL.getD (i % 8) []))) != 0) (x := true) (y := (bif ((qe ((digs n) ++ (namesL.getD (j % 8) []))) != 0) then true else (bif (decide (((qv (((digs n) ++ (digs (d % 10))) ++ (namesL.getD (i % 8) [])) : Nat) : Int) < ((qv ((digs n) ++ (namesL.getD (i % 8) [])) : Nat) : Int))) then true else (bif (decide (((i % 8 : Nat) : Int) ≤ ((j % 8 : Nat) : Int))) then (decide (((qv ((digs n) ++ (namesL.getD (j % 8) [])) : Nat) : Int) > ((qv ((digs n) ++ (namesL.getD (i % 8) [])) : Nat) : Int))) else false)))) rfl (fun h2 => ?_) (fun h2 => ?_)
      · skip
        have h2' : (qe (((digs n) ++ (digs (d % 10))) ++ (namesL.getD (i % 8) []))) ≠ 0 := (by have hh := bne_iff_ne.1 h2; omega)
        clear h2
        refine AOps.skip ⟨6, false, 77, _, rfl, rfl, rfl, by simp⟩ rfl (by decide) ?_
        refine AOps.skip ⟨6, false, 77, _, rfl, rfl, rfl, by simp⟩ rfl (by decide) ?_
        refine AOps.read trivial rfl (by decide) (Reader.pick rfl (b := true) rfl (ok_const rfl) (ok_const rfl) (v := .lit (.bool true)) rfl) ?_
        refine AOps.read trivial rfl (by decide) (Reader.move (.inl rfl) (ok_const rfl) (v := .lit (.bool true)) rfl) ?_
        refine AOps.skip ⟨10, false, 81, _, rfl, rfl, rfl, by simp⟩ rfl (by decide) ?_
        refine AOps.skip ⟨10, false, 81, _, rfl, rfl, rfl, by simp⟩ rfl (by decide) ?_
        refine AOps.skip ⟨10, false, 81, _, rfl, rfl, rfl, by simp⟩ rfl (by decide) ?_
        refine AOps.read trivial rfl (by decide) (Reader.pick rfl (b := true) rfl (ok_const rfl) (ok_const rfl) (v := .lit (.bool true)) rfl) ?_
        refine AOps.read trivial rfl (by decide) (Reader.move (.inl rfl) (ok_const rfl) (v := .lit (.bool true)) rfl) ?_
        refine AOps.skip ⟨15, false, 86, _, rfl, rfl, rfl, by simp⟩ rfl (by decide) ?_
        refine AOps.skip ⟨15, false, 86, _, rfl, rfl, rfl, by simp⟩ rfl (by decide) ?_
        refine AOps.skip ⟨15, false, 86, _, rfl, rfl, rfl, by simp⟩ rfl (by decide) ?_
        refine AOps.skip ⟨15, false, 86, _, rfl, rfl, rfl, by simp⟩ rfl (by decide) ?_
        refine AOps.skip ⟨15, false, 86, _, rfl, rfl, rfl, by simp⟩ rfl (by decide) ?_
        refine AOps.skip ⟨15, false, 86, _, rfl, rfl, rfl, by simp⟩ rfl (by decide) ?_
        refine AOps.skip ⟨21, true, 92, _, rfl, rfl, rfl, by simp [undef]⟩ rfl (by decide) ?_
        refine AOps.skip ⟨21, true, 92, _, rfl, rfl, rfl, by simp [undef]⟩ rfl (by decide) ?_
        refine AOps.skip ⟨21, true, 92, _, rfl, rfl, rfl, by simp [undef]⟩ rfl (by decide) ?_
        refine AOps.skip ⟨15, false, 86, _, rfl, rfl, rfl, by simp⟩ rfl (by decide) ?_
        refine AOps.read trivial rfl (by decide) (Reader.pick rfl (b := true) rfl (ok_const rfl) (ok_const rfl) (v := .lit (.bool true)) rfl) ?_
        exact AOps.nil rfl
      · skip
        have h2' : ¬ ((qe (((digs n) ++ (digs (d % 10))) ++ (namesL.getD (i % 8) []))) ≠ 0) := (by have hh := bne_eq_false_iff_eq.1 h2; omega)
        clear h2
        refine AOps.read ⟨77, rfl, rfl⟩ rfl (by decide) (Reader.move (.inl rfl) (ok_const rfl) (v := .lit (.int .i64 (qe ((digs n) ++ (namesL.getD (j % 8) []))))) rfl) ?_
        refine AOps.read ⟨77, rfl, rfl⟩ rfl (by decide) (Reader.int rfl rfl rfl (r := .bool ((qe ((digs n) ++ (namesL.getD (j % 8) []))) != 0)) rfl) ?_
        refine AOps.read trivial rfl (by decide) (Reader.pick rfl (b := false) rfl (ok_const rfl) (ok_const rfl) (v := .lit (.bool ((qe ((digs n) ++ (namesL.getD (j % 8) []))) != 0))) rfl) ?_
        refine AOps.read trivial rfl (by decide) (Reader.move (.inl rfl) (ok_const rfl) (v := .lit (.bool ((qe ((digs n) ++ (namesL.getD (j % 8) []))) != 0))) rfl) ?_
        refine AOps.splitJ (t := 81) (b := (qe ((digs n) ++ (namesL.getD (j % 8) []))) != 0) (x := true) (y := (bif (decide (((qv (((digs n) ++ (digs (d % 10))) ++ (namesL.getD (i % 8) [])) : Nat) : Int) < ((qv ((digs n) ++ (namesL.getD (i % 8) [])) : Nat) : Int))) then true else (bif (decide (((i % 8 : Nat) : Int) ≤ ((j % 8 : Nat) : Int))) then (decide (((qv ((digs n) ++ (namesL.getD (j % 8) [])) : Nat) : Int) > ((qv ((digs n) ++ (namesL.getD (i % 8) [])) : Nat) : Int))) else false))) rfl (fun h3 => ?_) (fun h3 => ?_)
        · skip
          have h3' : (qe ((digs n) ++ (namesL.getD (j % 8) []))) ≠ 0 := (by have hh := bne_iff_ne.1 h3; omega)
          clear h3
          refine AOps.skip ⟨10, false, 81, _, rfl, rfl, rfl, by simp⟩ rfl (by decide) ?_
          refine AOps.skip ⟨10, false, 81, _, rfl, rfl, rfl, by simp⟩ rfl (by decide) ?_
          refine AOps.skip ⟨10, false, 81, _, rfl, rfl, rfl, by simp⟩ rfl (by decide) ?_
          refine AOps.read trivial rfl (by decide) (Reader.pick rfl (b := true) rfl (ok_const rfl) (ok_const rfl) (v := .lit (.bool true)) rfl) ?_
          refine AOps.read trivial rfl (by decide) (Reader.move (.inl rfl) (ok_const rfl) (v := .lit (.bool true)) rfl) ?_
          refine AOps.skip ⟨15, false, 86, _, rfl, rfl, rfl, by simp⟩ rfl (by decide) ?_
          refine AOps.skip ⟨15, false, 86, _, rfl, rfl, rfl, by simp⟩ rfl (by decide) ?_
          refine AOps.skip ⟨15, false, 86, _, rfl, rfl, rfl, by simp⟩ rfl (by decide) ?_
          refine AOps.skip ⟨15, false, 86, _, rfl, rfl, rfl, by simp⟩ rfl (by decide) ?_
          refine AOps.skip ⟨15, false, 86, _, rfl, rfl, rfl, by simp⟩ rfl (by decide) ?_
          refine AOps.skip ⟨15, false, 86, _, rfl, rfl, rfl, by simp⟩ rfl (by decide) ?_
          refine AOps.skip ⟨21, true, 92, _, rfl, rfl, rfl, by simp [undef]⟩ rfl (by decide) ?_
          refine AOps.skip ⟨21, true, 92, _, rfl, rfl, rfl, by simp [undef]⟩ rfl (by decide) ?_
          refine AOps.skip ⟨21, true, 92, _, rfl, rfl, rfl, by simp [undef]⟩ rfl (by decide) ?_
          refine AOps.skip ⟨15, false, 86, _, rfl, rfl, rfl, by simp⟩ rfl (by decide) ?_
          refine AOps.read trivial rfl (by decide) (Reader.pick rfl (b := true) rfl (ok_const rfl) (ok_const rfl) (v := .lit (.bool true)) rfl) ?_
          exact AOps.nil rfl
        · skip
          have h3' : ¬ ((qe ((digs n) ++ (namesL.getD (j % 8) []))) ≠ 0) := (by have hh := bne_eq_false_iff_eq.1 h3; omega)
          clear h3
          refine AOps.read ⟨81, rfl, rfl⟩ rfl (by decide) (Reader.move (.inl rfl) (ok_const rfl) (v := .lit (.int .i64 ((qv (((digs n) ++ (digs (d % 10))) ++ (namesL.getD (i % 8) [])) : Nat) : Int))) rfl) ?_
          refine AOps.read ⟨81, rfl, rfl⟩ rfl (by decide) (Reader.move (.inl rfl) (ok_const rfl) (v := .lit (.int .i64 ((qv ((digs n) ++ (namesL.getD (i % 8) [])) : Nat) : Int))) rfl) ?_
          refine AOps.read ⟨81, rfl, rfl⟩ rfl (by decide) (Reader.int rfl rfl rfl (r := .bool (decide (((qv (((digs n) ++ (digs (d % 10))) ++ (namesL.getD (i % 8) [])) : Nat) : Int) < ((qv ((digs n) ++ (namesL.getD (i % 8) [])) : Nat) : Int)))) rfl) ?_
          refine AOps.read trivial rfl (by decide) (Reader.pick rfl (b := false) rfl (ok_const rfl) (ok_const rfl) (v := .lit (.bool (decide (((qv (((digs n) ++ (digs (d % 10))) ++ (namesL.getD (i % 8) [])) : Nat) : Int) < ((qv ((digs n) ++ (namesL.getD (i % 8) [])) : Nat) : Int))))) rfl) ?_
          refine AOps.read trivial rfl (by decide) (Reader.move (.inl rfl) (ok_const rfl) (v := .lit (.bool (decide (((qv (((digs n) ++ (digs (d % 10))) ++ (namesL.getD (i % 8) [])) : Nat) : Int) < ((qv ((digs n) ++ (namesL.getD (i % 8) [])) : Nat) : Int))))) rfl) ?_
          refine AOps.splitJ (t := 86) (b := decide (((qv (((digs n) ++ (digs (d % 10))) ++ (namesL.getD (i % 8) [])) : Nat) : Int) < ((qv ((digs n) ++ (namesL.getD (i % 8) [])) : Nat) : Int))) (x := true) (y := (bif (decide (((i % 8 : Nat) : Int) ≤ ((j % 8 : Nat) : Int))) then (decide (((qv ((digs n) ++ (namesL.getD (j % 8) [])) : Nat) : Int) > ((qv ((digs n) ++ (namesL.getD (i % 8) [])) : Nat) : Int))) else false)) rfl (fun h4 => ?_) (fun h4 => ?_)
          · skip
            have h4' : (qv (((digs n) ++ (digs (d % 10))) ++ (namesL.getD (i % 8) []))) < (qv ((digs n) ++ (namesL.getD (i % 8) []))) := (by have hh := of_decide_eq_true h4; omega)
            clear h4
            refine AOps.skip ⟨15, false, 86, _, rfl, rfl, rfl, by simp⟩ rfl (by decide) ?_
            refine AOps.skip ⟨15, false, 86, _, rfl, rfl, rfl, by simp⟩ rfl (by decide) ?_
            refine AOps.skip ⟨15, false, 86, _, rfl, rfl, rfl, by simp⟩ rfl (by decide) ?_
            refine AOps.skip ⟨15, false, 86, _, rfl, rfl, rfl, by simp⟩ rfl (by decide) ?_
            refine AOps.skip ⟨15, false, 86, _, rfl, rfl, rfl, by simp⟩ rfl (by decide) ?_
            refine AOps.skip ⟨15, false, 86, _, rfl, rfl, rfl, by simp⟩ rfl (by decide) ?_
            refine AOps.skip ⟨21, true, 92, _, rfl, rfl, rfl, by simp [undef]⟩ rfl (by decide) ?_
            refine AOps.skip ⟨21, true, 92, _, rfl, rfl, rfl, by simp [undef]⟩ rfl (by decide) ?_
            refine AOps.skip ⟨21, true, 92, _, rfl, rfl, rfl, by simp [undef]⟩ rfl (by decide) ?_
            refine AOps.skip ⟨15, false, 86, _, rfl, rfl, rfl, by simp⟩ rfl (by decide) ?_
            refine AOps.read trivial rfl (by decide) (Reader.pick rfl (b := true) rfl (ok_const rfl) (ok_const rfl) (v := .lit (.bool true)) rfl) ?_
            exact AOps.nil rfl
          · skip
            have h4' : ¬ ((qv (((digs n) ++ (digs (d % 10))) ++ (namesL.getD (i % 8) []))) < (qv ((digs n) ++ (namesL.getD (i % 8) [])))) := (by have hh := of_decide_eq_false h4; omega)
            clear h4
            refine AOps.read ⟨86, rfl, rfl⟩ rfl (by decide) (Reader.move (.inl rfl) (ok_const rfl) (v := .lit (.int .u8 (i : Int))) rfl) ?_
            refine AOps.read ⟨86, rfl, rfl⟩ rfl (by decide) (Reader.rem rfl rfl rfl (by decide) (c := ((i % 8 : Nat) : Int)) (by first | rfl | exact nat_rem _ _)) ?_
            refine AOps.read ⟨86, rfl, rfl⟩ rfl (by decide) (Reader.move (.inl rfl) (ok_const rfl) (v := .lit (.int .u8 (j : Int))) rfl) ?_
            refine AOps.read ⟨86, rfl, rfl⟩ rfl (by decide) (Reader.rem rfl rfl rfl (by decide) (c := ((j % 8 : Nat) : Int)) (by first | rfl | exact nat_rem _ _)) ?_
            refine AOps.read ⟨86, rfl, rfl⟩ rfl (by decide) (Reader.int rfl rfl rfl (r := .bool (decide (((i % 8 : Nat) : Int) ≤ ((j % 8 : Nat) : Int)))) rfl) ?_
            refine AOps.read ⟨86, rfl, rfl⟩ rfl (by decide) (Reader.move (.inl rfl) (ok_const rfl) (v := .lit (.bool (decide (((i % 8 : Nat) : Int) ≤ ((j % 8 : Nat) : Int))))) rfl) ?_
            refine AOps.splitJ (t := 92) (b := decide (((i % 8 : Nat) : Int) ≤ ((j % 8 : Nat) : Int))) (x := (decide (((qv ((digs n) ++ (namesL.getD (j % 8) [])) : Nat) : Int) > ((qv ((digs n) ++ (namesL.getD (i % 8) [])) : Nat) : Int)))) (y := false) rfl (fun h5 => ?_) (fun h5 => ?_)
            · skip
              have h5' : (i % 8) ≤ (j % 8) := (by have hh := of_decide_eq_true h5; omega)
              clear h5
              refine AOps.read ⟨92, rfl, rfl⟩ rfl (by decide) (Reader.move (.inl rfl) (ok_const rfl) (v := .lit (.int .i64 ((qv ((digs n) ++ (namesL.getD (j % 8) [])) : Nat) : Int))) rfl) ?_
              refine AOps.read ⟨92, rfl, rfl⟩ rfl (by decide) (Reader.move (.inl rfl) (ok_const rfl) (v := .lit (.int .i64 ((qv ((digs n) ++ (namesL.getD (i % 8) [])) : Nat) : Int))) rfl) ?_
              refine AOps.read ⟨92, rfl, rfl⟩ rfl (by decide) (Reader.int rfl rfl rfl (r := .bool (decide (((qv ((digs n) ++ (namesL.getD (j % 8) [])) : Nat) : Int) > ((qv ((digs n) ++ (namesL.getD (i % 8) [])) : Nat) : Int)))) rfl) ?_
              refine AOps.read ⟨86, rfl, rfl⟩ rfl (by decide) (Reader.pick rfl (b := true) rfl (ok_const rfl) (ok_const rfl) (v := .lit (.bool (decide (((qv ((digs n) ++ (namesL.getD (j % 8) [])) : Nat) : Int) > ((qv ((digs n) ++ (namesL.getD (i % 8) [])) : Nat) : Int))))) rfl) ?_
              refine AOps.read trivial rfl (by decide) (Reader.pick rfl (b := false) rfl (ok_const rfl) (ok_const rfl) (v := .lit (.bool (decide (((qv ((digs n) ++ (namesL.getD (j % 8) [])) : Nat) : Int) > ((qv ((digs n) ++ (namesL.getD (i % 8) [])) : Nat) : Int))))) rfl) ?_
              exact AOps.nil rfl
            · skip
              have h5' : ¬ ((i % 8) ≤ (j % 8)) := (by have hh := of_decide_eq_false h5; omega)
              clear h5
              refine AOps.skip ⟨21, true, 92, _, rfl, rfl, rfl, by simp⟩ rfl (by decide) ?_
              refine AOps.skip ⟨21, true, 92, _, rfl, rfl, rfl, by simp⟩ rfl (by decide) ?_
              refine AOps.skip ⟨21, true, 92, _, rfl, rfl, rfl, by simp⟩ rfl (by decide) ?_
              refine AOps.read ⟨86, rfl, rfl⟩ rfl (by decide) (Reader.pick rfl (b := false) rfl (ok_const rfl) (ok_const rfl) (v := .lit (.bool false)) rfl) ?_
              refine AOps.read trivial rfl (by decide) (Reader.pick rfl (b := false) rfl (ok_const rfl) (ok_const rfl) (v := .lit (.bool false)) rfl) ?_
              exact AOps.nil rfl
  have hz : (bif ((qe ((digs n) ++ (namesL.getD (i % 8) []))) != 0) then true else (bif ((qe (((digs n) ++ (digs (d % 10))) ++ (namesL.getD (i % 8) []))) != 0) then true else (bif ((qe ((digs n) ++ (namesL.getD (j % 8) []))) != 0) then true else (bif (decide (((qv (((digs n) ++ (digs (d % 10))) ++ (namesL.getD (i % 8) [])) : Nat) : Int) < ((qv ((digs n) ++ (namesL.getD (i % 8) [])) : Nat) : Int))) then true else (bif (decide (((i % 8 : Nat) : Int) ≤ ((j % 8 : Nat) : Int))) then (decide (((qv ((digs n) ++ (namesL.getD (j % 8) [])) : Nat) : Int) > ((qv ((digs n) ++ (namesL.getD (i % 8) [])) : Nat) : Int))) else false))))) = false := order_z (quant_name n (by omega)).2 (order_b n d (by omega)).2 (quant_name n (by omega)).2 (order_1 n d (by omega)) (order_2 n (by omega))
  refine AWp.cond (b := bif ((qe ((digs n) ++ (namesL.getD (i % 8) []))) != 0) then true else (bif ((qe (((digs n) ++ (digs (d % 10))) ++ (namesL.getD (i % 8) []))) != 0) then true else (bif ((qe ((digs n) ++ (namesL.getD (j % 8) []))) != 0) then true else (bif (decide (((qv (((digs n) ++ (digs (d % 10))) ++ (namesL.getD (i % 8) [])) : Nat) : Int) < ((qv ((digs n) ++ (namesL.getD (i % 8) [])) : Nat) : Int))) then true else (bif (decide (((i % 8 : Nat) : Int) ≤ ((j % 8 : Nat) : Int))) then (decide (((qv ((digs n) ++ (namesL.getD (j % 8) [])) : Nat) : Int) > ((qv ((digs n) ++ (namesL.getD (i % 8) [])) : Nat) : Int))) else false))))) rfl (fun h6 => ?_) (fun h6 => ?_)
  · skip
    have h6' : False := (by rw [hz] at h6; cases h6)
    clear h6
    refine AWp.seq (AWp.region ?_)
    refine AOps.read trivial rfl (by decide) (Reader.move (.inr rfl) (ok_const rfl) (v := .lit (.bool false)) rfl) ?_
    refine AOps.nil ?_
    refine AWp.ret ?_
    exact ⟨.inl rfl, _, ResOf.one 12 (.lit (.bool false)) rfl rfl, ⟨False.elim (by assumption), rfl⟩⟩
  · skip
    have h6' : True := trivial
    clear h6
    refine AWp.skip ?_
    refine AWp.seq ?_
    refine AWp.regionJ [119, 97, 0, 1, 2, 3, 4, 5, 12, 25, 13, 14, 15, 16, 17, 18, 19, 20] [] (fun z => ⟨(119, .lit (.bool z)) :: [(97, .lit (.bool (bif ((qe ((digs n) ++ (namesL.getD (i % 8) []))) != 0) then true else (bif ((qe (((digs n) ++ (digs (d % 10))) ++ (namesL.getD (i % 8) []))) != 0) then true else (bif ((qe ((digs n) ++ (namesL.getD (j % 8) []))) != 0) then true else (bif (decide (((qv (((digs n) ++ (digs (d % 10))) ++ (namesL.getD (i % 8) [])) : Nat) : Int) < ((qv ((digs n) ++ (namesL.getD (i % 8) [])) : Nat) : Int))) then true else (bif (decide (((i % 8 : Nat) : Int) ≤ ((j % 8 : Nat) : Int))) then (decide (((qv ((digs n) ++ (namesL.getD (j % 8) [])) : Nat) : Int) > ((qv ((digs n) ++ (namesL.getD (i % 8) [])) : Nat) : Int))) else false))))))), (0, .lit (.int .u32 (n : Int))), (1, .lit (.int .u8 (d : Int))), (2, .lit (.int .u8 (i : Int))), (3, .lit (.int .u8 (j : Int))), (4, .lit (.int .u8 (c.toNat : Int))), (5, .lit (.int .u8 (q : Int))), (12, .lit (.bool false)), (25, .lit (.bool false)), (13, .list true 9 (namesL.map AV.str)), (14, .str (digs n)), (15, .lit (.int .i64 ((qv ((digs n) ++ (namesL.getD (i % 8) [])) : Nat) : Int))), (16, .lit (.int .i64 (qe ((digs n) ++ (namesL.getD (i % 8) []))))), (17, .lit (.int .i64 ((qv (((digs n) ++ (digs (d % 10))) ++ (namesL.getD (i % 8) [])) : Nat) : Int))), (18, .lit (.int .i64 (qe (((digs n) ++ (digs (d % 10))) ++ (namesL.getD (i % 8) []))))), (19, .lit (.int .i64 ((qv ((digs n) ++ (namesL.getD (j % 8) [])) : Nat) : Int))), (20, .lit (.int .i64 (qe ((digs n) ++ (namesL.getD (j % 8) [])))))], [], M⟩) (z := bif (decide ((c.toNat : Int) ≥ 48)) then (bif (decide ((c.toNat : Int) ≤ 57)) then true else (bif (decide ((c.toNat : Int) ≥ 65)) then (bif (decide ((c.toNat : Int) ≤ 90)) then true else (bif (decide ((c.toNat : Int) ≥ 97)) then (decide ((c.toNat : Int) ≤ 122)) else false)) else (bif (decide ((c.toNat : Int) ≥ 97)) then (decide ((c.toNat : Int) ≤ 122)) else false))) else (bif (decide ((c.toNat : Int) ≥ 65)) then (bif (decide ((c.toNat : Int) ≤ 90)) then true else (bif (decide ((c.toNat : Int) ≥ 97)) then (decide ((c.toNat : Int) ≤ 122)) else false)) else (bif (decide ((c.toNat : Int) ≥ 97)) then (decide ((c.toNat : Int) ≤ 122)) else false))) ?_ ?_
    · skip
      refine AOps.read trivial rfl (by decide) (Reader.move (.inl rfl) (ok_const rfl) (v := .lit (.int .u8 (c.toNat : Int))) rfl) ?_
      refine AOps.read trivial rfl (by decide) (Reader.int rfl rfl rfl (r := .bool (decide ((c.toNat : Int) ≥ 48))) rfl) ?_
      refine AOps.read trivial rfl (by decide) (Reader.move (.inl rfl) (ok_const rfl) (v := .lit (.bool (decide ((c.toNat : Int) ≥ 48)))) rfl) ?_
      refine AOps.splitJ (t := 100) (b := decide ((c.toNat : Int) ≥ 48)) (x := (bif (decide ((c.toNat : Int) ≤ 57)) then true else (bif (decide ((c.toNat : Int) ≥ 65)) then (bif (decide ((c.toNat : Int) ≤ 90)) then true else (bif (decide ((c.toNat : Int) ≥ 97)) then (decide ((c.toNat : Int) ≤ 122)) else false)) else (bif (decide ((c.toNat : Int) ≥ 97)) then (decide ((c.toNat : Int) ≤ 122)) else false)))) (y := (bif (decide ((c.toNat : Int) ≥ 65)) then (bif (decide ((c.toNat : Int) ≤ 90)) then true else (bif (decide ((c.toNat : Int) ≥ 97)) then (decide ((c.toNat : Int) ≤ 122)) else false)) else (bif (decide ((c.toNat : Int) ≥ 97)) then (decide ((c.toNat : Int) ≤ 122)) else false))) rfl (fun h7 => ?_) (fun h7 => ?_)
      · skip
        have h7' : c.toNat ≥ 48 := (by have hh := of_decide_eq_true h7; omega)
        clear h7
        refine AOps.read ⟨100, rfl, rfl⟩ rfl (by decide) (Reader.move (.inl rfl) (ok_const rfl) (v := .lit (.int .u8 (c.toNat : Int))) rfl) ?_
        refine AOps.read ⟨100, rfl, rfl⟩ rfl (by decide) (Reader.int rfl rfl rfl (r := .bool (decide ((c.toNat : Int) ≤ 57))) rfl) ?_
        refine AOps.read trivial rfl (by decide) (Reader.pick rfl (b := true) rfl (ok_const rfl) (ok_const rfl) (v := .lit (.bool (decide ((c.toNat : Int) ≤ 57)))) rfl) ?_
        refine AOps.read trivial rfl (by decide) (Reader.move (.inl rfl) (ok_const rfl) (v := .lit (.bool (decide ((c.toNat : Int) ≤ 57)))) rfl) ?_
        refine AOps.splitJ (t := 104) (b := decide ((c.toNat : Int) ≤ 57)) (x := true) (y := (bif (decide ((c.toNat : Int) ≥ 65)) then (bif (decide ((c.toNat : Int) ≤ 90)) then true else (bif (decide ((c.toNat : Int) ≥ 97)) then (decide ((c.toNat : Int) ≤ 122)) else false)) else (bif (decide ((c.toNat : Int) ≥ 97)) then (decide ((c.toNat : Int) ≤ 122)) else false))) rfl (fun h8 => ?_) (fun h8 => ?_)
        · skip
          have h8' : c.toNat ≤ 57 := (by have hh := of_decide_eq_true h8; omega)
          clear h8
          refine AOps.skip ⟨6, false, 104, _, rfl, rfl, rfl, by simp⟩ rfl (by decide) ?_
          refine AOps.skip ⟨6, false, 104, _, rfl, rfl, rfl, by simp⟩ rfl (by decide) ?_
          refine AOps.skip ⟨6, false, 104, _, rfl, rfl, rfl, by simp⟩ rfl (by decide) ?_
          refine AOps.skip ⟨9, true, 107, _, rfl, rfl, rfl, by simp [undef]⟩ rfl (by decide) ?_
          refine AOps.skip ⟨9, true, 107, _, rfl, rfl, rfl, by simp [undef]⟩ rfl (by decide) ?_
          refine AOps.skip ⟨6, false, 104, _, rfl, rfl, rfl, by simp⟩ rfl (by decide) ?_
          refine AOps.read trivial rfl (by decide) (Reader.pick rfl (b := true) rfl (ok_const rfl) (ok_const rfl) (v := .lit (.bool true)) rfl) ?_
          refine AOps.read trivial rfl (by decide) (Reader.move (.inl rfl) (ok_const rfl) (v := .lit (.bool true)) rfl) ?_
          refine AOps.skip ⟨14, false, 112, _, rfl, rfl, rfl, by simp⟩ rfl (by decide) ?_
          refine AOps.skip ⟨14, false, 112, _, rfl, rfl, rfl, by simp⟩ rfl (by decide) ?_
          refine AOps.skip ⟨14, false, 112, _, rfl, rfl, rfl, by simp⟩ rfl (by decide) ?_
          refine AOps.skip ⟨17, true, 115, _, rfl, rfl, rfl, by simp [undef]⟩ rfl (by decide) ?_
          refine AOps.skip ⟨17, true, 115, _, rfl, rfl, rfl, by simp [undef]⟩ rfl (by decide) ?_
          refine AOps.skip ⟨14, false, 112, _, rfl, rfl, rfl, by simp⟩ rfl (by decide) ?_
          refine AOps.read trivial rfl (by decide) (Reader.pick rfl (b := true) rfl (ok_const rfl) (ok_const rfl) (v := .lit (.bool true)) rfl) ?_
          exact AOps.nil rfl
        · skip
          have h8' : ¬ (c.toNat ≤ 57) := (by have hh := of_decide_eq_false h8; omega)
          clear h8
          refine AOps.read ⟨104, rfl, rfl⟩ rfl (by decide) (Reader.move (.inl rfl) (ok_const rfl) (v := .lit (.int .u8 (c.toNat : Int))) rfl) ?_
          refine AOps.read ⟨104, rfl, rfl⟩ rfl (by decide) (Reader.int rfl rfl rfl (r := .bool (decide ((c.toNat : Int) ≥ 65))) rfl) ?_
          refine AOps.read ⟨104, rfl, rfl⟩ rfl (by decide) (Reader.move (.inl rfl) (ok_const rfl) (v := .lit (.bool (decide ((c.toNat : Int) ≥ 65)))) rfl) ?_
          refine AOps.splitJ (t := 107) (b := decide ((c.toNat : Int) ≥ 65)) (x := (bif (decide ((c.toNat : Int) ≤ 90)) then true else (bif (decide ((c.toNat : Int) ≥ 97)) then (decide ((c.toNat : Int) ≤ 122)) else false))) (y := (bif (decide ((c.toNat : Int) ≥ 97)) then (decide ((c.toNat : Int) ≤ 122)) else false)) rfl (fun h9 => ?_) (fun h9 => ?_)
          · skip
            have h9' : c.toNat ≥ 65 := (by have hh := of_decide_eq_true h9; omega)
            clear h9
            refine AOps.read ⟨107, rfl, rfl⟩ rfl (by decide) (Reader.move (.inl rfl) (ok_const rfl) (v := .lit (.int .u8 (c.toNat : Int))) rfl) ?_
            refine AOps.read ⟨107, rfl, rfl⟩ rfl (by decide) (Reader.int rfl rfl rfl (r := .bool (decide ((c.toNat : Int) ≤ 90))) rfl) ?_
            refine AOps.read ⟨104, rfl, rfl⟩ rfl (by decide) (Reader.pick rfl (b := true) rfl (ok_const rfl) (ok_const rfl) (v := .lit (.bool (decide ((c.toNat : Int) ≤ 90)))) rfl) ?_
            refine AOps.read trivial rfl (by decide) (Reader.pick rfl (b := false) rfl (ok_const rfl) (ok_const rfl) (v := .lit (.bool (decide ((c.toNat : Int) ≤ 90)))) rfl) ?_
            refine AOps.read trivial rfl (by decide) (Reader.move (.inl rfl) (ok_const rfl) (v := .lit (.bool (decide ((c.toNat : Int) ≤ 90)))) rfl) ?_
            refine AOps.splitJ (t := 112) (b := decide ((c.toNat : Int) ≤ 90)) (x := true) (y := (bif (decide ((c.toNat : Int) ≥ 97)) then (decide ((c.toNat : Int) ≤ 122)) else false)) rfl (fun h10 => ?_) (fun h10 => ?_)
            · skip
              have h10' : c.toNat ≤ 90 := (by have hh := of_decide_eq_true h10; omega)
              clear h10
              refine AOps.skip ⟨14, false, 112, _, rfl, rfl, rfl, by simp⟩ rfl (by decide) ?_
              refine AOps.skip ⟨14, false, 112, _, rfl, rfl, rfl, by simp⟩ rfl (by decide) ?_
              refine AOps.skip ⟨14, false, 112, _, rfl, rfl, rfl, by simp⟩ rfl (by decide) ?_
              refine AOps.skip ⟨17, true, 115, _, rfl, rfl, rfl, by simp [undef]⟩ rfl (by decide) ?_
              refine AOps.skip ⟨17, true, 115, _, rfl, rfl, rfl, by simp [undef]⟩ rfl (by decide) ?_
              refine AOps.skip ⟨14, false, 112, _, rfl, rfl, rfl, by simp⟩ rfl (by decide) ?_
              refine AOps.read trivial rfl (by decide) (Reader.pick rfl (b := true) rfl (ok_const rfl) (ok_const rfl) (v := .lit (.bool true)) rfl) ?_
              exact AOps.nil rfl
            · skip
              have h10' : ¬ (c.toNat ≤ 90) := (by have hh := of_decide_eq_false h10; omega)
              clear h10
              refine AOps.read ⟨112, rfl, rfl⟩ rfl (by decide) (Reader.move (.inl rfl) (ok_const rfl) (v := .lit (.int .u8 (c.toNat : Int))) rfl) ?_
              refine AOps.read ⟨112, rfl, rfl⟩ rfl (by decide) (Reader.int rfl rfl rfl (r := .bool (decide ((c.toNat : Int) ≥ 97))) rfl) ?_
              refine AOps.read ⟨112, rfl, rfl⟩ rfl (by decide) (Reader.move (.inl rfl) (ok_const rfl) (v := .lit (.bool (decide ((c.toNat : Int) ≥ 97)))) rfl) ?_
              refine AOps.splitJ (t := 115) (b := decide ((c.toNat : Int) ≥ 97)) (x := (decide ((c.toNat : Int) ≤ 122))) (y := false) rfl (fun h11 => ?_) (fun h11 => ?_)
              · skip
                have h11' : c.toNat ≥ 97 := (by have hh := of_decide_eq_true h11; omega)
                clear h11
                refine AOps.read ⟨115, rfl, rfl⟩ rfl (by decide) (Reader.move (.inl rfl) (ok_const rfl) (v := .lit (.int .u8 (c.toNat : Int))) rfl) ?_
                refine AOps.read ⟨115, rfl, rfl⟩ rfl (by decide) (Reader.int rfl rfl rfl (r := .bool (decide ((c.toNat : Int) ≤ 122))) rfl) ?_
                refine AOps.read ⟨112, rfl, rfl⟩ rfl (by decide) (Reader.pick rfl (b := true) rfl (ok_const rfl) (ok_const rfl) (v := .lit (.bool (decide ((c.toNat : Int) ≤ 122)))) rfl) ?_
                refine AOps.read trivial rfl (by decide) (Reader.pick rfl (b := false) rfl (ok_const rfl) (ok_const rfl) (v := .lit (.bool (decide ((c.toNat : Int) ≤ 122)))) rfl) ?_
                exact AOps.nil rfl
              · skip
                have h11' : ¬ (c.toNat ≥ 97) := (by have hh := of_decide_eq_false h11; omega)
                clear h11
                refine AOps.skip ⟨17, true, 115, _, rfl, rfl, rfl, by simp⟩ rfl (by decide) ?_
                refine AOps.skip ⟨17, true, 115, _, rfl, rfl, rfl, by simp⟩ rfl (by decide) ?_
                refine AOps.read ⟨112, rfl, rfl⟩ rfl (by decide) (Reader.pick rfl (b := false) rfl (ok_const rfl) (ok_const rfl) (v := .lit (.bool false)) rfl) ?_
                refine AOps.read trivial rfl (by decide) (Reader.pick rfl (b := false) rfl (ok_const rfl) (ok_const rfl) (v := .lit (.bool false)) rfl) ?_
                exact AOps.nil rfl
          · skip
            have h9' : ¬ (c.toNat ≥ 65) := (by have hh := of_decide_eq_false h9; omega)
            clear h9
            refine AOps.skip ⟨9, true, 107, _, rfl, rfl, rfl, by simp⟩ rfl (by decide) ?_
            refine AOps.skip ⟨9, true, 107, _, rfl, rfl, rfl, by simp⟩ rfl (by decide) ?_
            refine AOps.read ⟨104, rfl, rfl⟩ rfl (by decide) (Reader.pick rfl (b := false) rfl (ok_const rfl) (ok_const rfl) (v := .lit (.bool false)) rfl) ?_
            refine AOps.read trivial rfl (by decide) (Reader.pick rfl (b := false) rfl (ok_const rfl) (ok_const rfl) (v := .lit (.bool false)) rfl) ?_
            refine AOps.read trivial rfl (by decide) (Reader.move (.inl rfl) (ok_const rfl) (v := .lit (.bool false)) rfl) ?_
            refine AOps.read ⟨112, rfl, rfl⟩ rfl (by decide) (Reader.move (.inl rfl) (ok_const rfl) (v := .lit (.int .u8 (c.toNat : Int))) rfl) ?_
            refine AOps.read ⟨112, rfl, rfl⟩ rfl (by decide) (Reader.int rfl rfl rfl (r := .bool (decide ((c.toNat : Int) ≥ 97))) rfl) ?_
            refine AOps.read ⟨112, rfl, rfl⟩ rfl (by decide) (Reader.move (.inl rfl) (ok_const rfl) (v := .lit (.bool (decide ((c.toNat : Int) ≥ 97)))) rfl) ?_
            refine AOps.splitJ (t := 115) (b := decide ((c.toNat : Int) ≥ 97)) (x := (decide ((c.toNat : Int) ≤ 122))) (y := false) rfl (fun h12 => ?_) (fun h12 => ?_)
            · skip
              have h12' : c.toNat ≥ 97 := (by have hh := of_decide_eq_true h12; omega)
              clear h12
              refine AOps.read ⟨115, rfl, rfl⟩ rfl (by decide) (Reader.move (.inl rfl) (ok_const rfl) (v := .lit (.int .u8 (c.toNat : Int))) rfl) ?_
              refine AOps.read ⟨115, rfl, rfl⟩ rfl (by decide) (Reader.int rfl rfl rfl (r := .bool (decide ((c.toNat : Int) ≤ 122))) rfl) ?_
              refine AOps.read ⟨112, rfl, rfl⟩ rfl (by decide) (Reader.pick rfl (b := true) rfl (ok_const rfl) (ok_const rfl) (v := .lit (.bool (decide ((c.toNat : Int) ≤ 122)))) rfl) ?_
              refine AOps.read trivial rfl (by decide) (Reader.pick rfl (b := false) rfl (ok_const rfl) (ok_const rfl) (v := .lit (.bool (decide ((c.toNat : Int) ≤ 122)))) rfl) ?_
              exact AOps.nil rfl
            · skip
              have h12' : ¬ (c.toNat ≥ 97) := (by have hh := of_decide_eq_false h12; omega)
              clear h12
              refine AOps.skip ⟨17, true, 115, _, rfl, rfl, rfl, by simp⟩ rfl (by decide) ?_
              refine AOps.skip ⟨17, true, 115, _, rfl, rfl, rfl, by simp⟩ rfl (by decide) ?_
              refine AOps.read ⟨112, rfl, rfl⟩ rfl (by decide) (Reader.pick rfl (b := false) rfl (ok_const rfl) (ok_const rfl) (v := .lit (.bool false)) rfl) ?_
              refine AOps.read trivial rfl (by decide) (Reader.pick rfl (b := false) rfl (ok_const rfl) (ok_const rfl) (v := .lit (.bool false)) rfl) ?_
              exact AOps.nil rfl
      · skip
        have h7' : ¬ (c.toNat ≥ 48) := (by have hh := of_decide_eq_false h7; omega)
        clear h7
        refine AOps.skip ⟨2, true, 100, _, rfl, rfl, rfl, by simp⟩ rfl (by decide) ?_
        refine AOps.skip ⟨2, true, 100, _, rfl, rfl, rfl, by simp⟩ rfl (by decide) ?_
        refine AOps.read trivial rfl (by decide) (Reader.pick rfl (b := false) rfl (ok_const rfl) (ok_const rfl) (v := .lit (.bool false)) rfl) ?_
        refine AOps.read trivial rfl (by decide) (Reader.move (.inl rfl) (ok_const rfl) (v := .lit (.bool false)) rfl) ?_
        refine AOps.read ⟨104, rfl, rfl⟩ rfl (by decide) (Reader.move (.inl rfl) (ok_const rfl) (v := .lit (.int .u8 (c.toNat : Int))) rfl) ?_
        refine AOps.read ⟨104, rfl, rfl⟩ rfl (by decide) (Reader.int rfl rfl rfl (r := .bool (decide ((c.toNat : Int) ≥ 65))) rfl) ?_
        refine AOps.read ⟨104, rfl, rfl⟩ rfl (by decide) (Reader.move (.inl rfl) (ok_const rfl) (v := .lit (.bool (decide ((c.toNat : Int) ≥ 65)))) rfl) ?_
        refine AOps.splitJ (t := 107) (b := decide ((c.toNat : Int) ≥ 65)) (x := (bif (decide ((c.toNat : Int) ≤ 90)) then true else (bif (decide ((c.toNat : Int) ≥ 97)) then (decide ((c.toNat : Int) ≤ 122)) else false))) (y := (bif (decide ((c.toNat : Int) ≥ 97)) then (decide ((c.toNat : Int) ≤ 122)) else false)) rfl (fun h13 => ?_) (fun h13 => ?_)
        · skip
          have h13' : c.toNat ≥ 65 := (by have hh := of_decide_eq_true h13; omega)
          clear h13
          refine AOps.read ⟨107, rfl, rfl⟩ rfl (by decide) (Reader.move (.inl rfl) (ok_const rfl) (v := .lit (.int .u8 (c.toNat : Int))) rfl) ?_
          refine AOps.read ⟨107, rfl, rfl⟩ rfl (by decide) (Reader.int rfl rfl rfl (r := .bool (decide ((c.toNat : Int) ≤ 90))) rfl) ?_
          refine AOps.read ⟨104, rfl, rfl⟩ rfl (by decide) (Reader.pick rfl (b := true) rfl (ok_const rfl) (ok_const rfl) (v := .lit (.bool (decide ((c.toNat : Int) ≤ 90)))) rfl) ?_
          refine AOps.read trivial rfl (by decide) (Reader.pick rfl (b := false) rfl (ok_const rfl) (ok_const rfl) (v := .lit (.bool (decide ((c.toNat : Int) ≤ 90)))) rfl) ?_
          refine AOps.read trivial rfl (by decide) (Reader.move (.inl rfl) (ok_const rfl) (v := .lit (.bool (decide ((c.toNat : Int) ≤ 90)))) rfl) ?_
          refine AOps.splitJ (t := 112) (b := decide ((c.toNat : Int) ≤ 90)) (x := true) (y := (bif (decide ((c.toNat : Int) ≥ 97)) then (decide ((c.toNat : Int) ≤ 122)) else false)) rfl (fun h14 => ?_) (fun h14 => ?_)
          · skip
            have h14' : c.toNat ≤ 90 := (by have hh := of_decide_eq_true h14; omega)
            clear h14
            refine AOps.skip ⟨14, false, 112, _, rfl, rfl, rfl, by simp⟩ rfl (by decide) ?_
            refine AOps.skip ⟨14, false, 112, _, rfl, rfl, rfl, by simp⟩ rfl (by decide) ?_
            refine AOps.skip ⟨14, false, 112, _, rfl, rfl, rfl, by simp⟩ rfl (by decide) ?_
            refine AOps.skip ⟨17, true, 115, _, rfl, rfl, rfl, by simp [undef]⟩ rfl (by decide) ?_
            refine AOps.skip ⟨17, true, 115, _, rfl, rfl, rfl, by simp [undef]⟩ rfl (by decide) ?_
            refine AOps.skip ⟨14, false, 112, _, rfl, rfl, rfl, by simp⟩ rfl (by decide) ?_
            refine AOps.read trivial rfl (by decide) (Reader.pick rfl (b := true) rfl (ok_const rfl) (ok_const rfl) (v := .lit (.bool true)) rfl) ?_
            exact AOps.nil rfl
          · skip
            have h14' : ¬ (c.toNat ≤ 90) := (by have hh := of_decide_eq_false h14; omega)
            clear h14
            refine AOps.read ⟨112, rfl, rfl⟩ rfl (by decide) (Reader.move (.inl rfl) (ok_const rfl) (v := .lit (.int .u8 (c.toNat : Int))) rfl) ?_
            refine AOps.read ⟨112, rfl, rfl⟩ rfl (by decide) (Reader.int rfl rfl rfl (r := .bool (decide ((c.toNat : Int) ≥ 97))) rfl) ?_
            refine AOps.read ⟨112, rfl, rfl⟩ rfl (by decide) (Reader.move (.inl rfl) (ok_const rfl) (v := .lit (.bool (decide ((c.toNat : Int) ≥ 97)))) rfl) ?_
            refine AOps.splitJ (t := 115) (b := decide ((c.toNat : Int) ≥ 97)) (x := (decide ((c.toNat : Int) ≤ 122))) (y := false) rfl (fun h15 => ?_) (fun h15 => ?_)
            · skip
              have h15' : c.toNat ≥ 97 := (by have hh := of_decide_eq_true h15; omega)
              clear h15
              refine AOps.read ⟨115, rfl, rfl⟩ rfl (by decide) (Reader.move (.inl rfl) (ok_const rfl) (v := .lit (.int .u8 (c.toNat : Int))) rfl) ?_
              refine AOps.read ⟨115, rfl, rfl⟩ rfl (by decide) (Reader.int rfl rfl rfl (r := .bool (decide ((c.toNat : Int) ≤ 122))) rfl) ?_
              refine AOps.read ⟨112, rfl, rfl⟩ rfl (by decide) (Reader.pick rfl (b := true) rfl (ok_const rfl) (ok_const rfl) (v := .lit (.bool (decide ((c.toNat : Int) ≤ 122)))) rfl) ?_
              refine AOps.read trivial rfl (by decide) (Reader.pick rfl (b := false) rfl (ok_const rfl) (ok_const rfl) (v := .lit (.bool (decide ((c.toNat : Int) ≤ 122)))) rfl) ?_
              exact AOps.nil rfl
            · skip
              have h15' : ¬ (c.toNat ≥ 97) := (by have hh := of_decide_eq_false h15; omega)
              clear h15
              refine AOps.skip ⟨17, true, 115, _, rfl, rfl, rfl, by simp⟩ rfl (by decide) ?_
              refine AOps.skip ⟨17, true, 115, _, rfl, rfl, rfl, by simp⟩ rfl (by decide) ?_
              refine AOps.read ⟨112, rfl, rfl⟩ rfl (by decide) (Reader.pick rfl (b := false) rfl (ok_const rfl) (ok_const rfl) (v := .lit (.bool false)) rfl) ?_
              refine AOps.read trivial rfl (by decide) (Reader.pick rfl (b := false) rfl (ok_const rfl) (ok_const rfl) (v := .lit (.bool false)) rfl) ?_
              exact AOps.nil rfl
        · skip
          have h13' : ¬ (c.toNat ≥ 65) := (by have hh := of_decide_eq_false h13; omega)
          clear h13
          refine AOps.skip ⟨9, true, 107, _, rfl, rfl, rfl, by simp⟩ rfl (by decide) ?_
          refine AOps.skip ⟨9, true, 107, _, rfl, rfl, rfl, by simp⟩ rfl (by decide) ?_
          refine AOps.read ⟨104, rfl, rfl⟩ rfl (by decide) (Reader.pick rfl (b := false) rfl (ok_const rfl) (ok_const rfl) (v := .lit (.bool false)) rfl) ?_
          refine AOps.read trivial rfl (by decide) (Reader.pick rfl (b := false) rfl (ok_const rfl) (ok_const rfl) (v := .lit (.bool false)) rfl) ?_
          refine AOps.read trivial rfl (by decide) (Reader.move (.inl rfl) (ok_const rfl) (v := .lit (.bool false)) rfl) ?_
          refine AOps.read ⟨112, rfl, rfl⟩ rfl (by decide) (Reader.move (.inl rfl) (ok_const rfl) (v := .lit (.int .u8 (c.toNat : Int))) rfl) ?_
          refine AOps.read ⟨112, rfl, rfl⟩ rfl (by decide) (Reader.int rfl rfl rfl (r := .bool (decide ((c.toNat : Int) ≥ 97))) rfl) ?_
          refine AOps.read ⟨112, rfl, rfl⟩ rfl (by decide) (Reader.move (.inl rfl) (ok_const rfl) (v := .lit (.bool (decide ((c.toNat : Int) ≥ 97)))) rfl) ?_
          refine AOps.splitJ (t := 115) (b := decide ((c.toNat : Int) ≥ 97)) (x := (decide ((c.toNat : Int) ≤ 122))) (y := false) rfl (fun h16 => ?_) (fun h16 => ?_)
          · skip
            have h16' : c.toNat ≥ 97 := (by have hh := of_decide_eq_true h16; omega)
            clear h16
            refine AOps.read ⟨115, rfl, rfl⟩ rfl (by decide) (Reader.move (.inl rfl) (ok_const rfl) (v := .lit (.int .u8 (c.toNat : Int))) rfl) ?_
            refine AOps.read ⟨115, rfl, rfl⟩ rfl (by decide) (Reader.int rfl rfl rfl (r := .bool (decide ((c.toNat : Int) ≤ 122))) rfl) ?_
            refine AOps.read ⟨112, rfl, rfl⟩ rfl (by decide) (Reader.pick rfl (b := true) rfl (ok_const rfl) (ok_const rfl) (v := .lit (.bool (decide ((c.toNat : Int) ≤ 122)))) rfl) ?_
            refine AOps.read trivial rfl (by decide) (Reader.pick rfl (b := false) rfl (ok_const rfl) (ok_const rfl) (v := .lit (.bool (decide ((c.toNat : Int) ≤ 122)))) rfl) ?_
            exact AOps.nil rfl
          · skip
            have h16' : ¬ (c.toNat ≥ 97) := (by have hh := of_decide_eq_false h16; omega)
            clear h16
            refine AOps.skip ⟨17, true, 115, _, rfl, rfl, rfl, by simp⟩ rfl (by decide) ?_
            refine AOps.skip ⟨17, true, 115, _, rfl, rfl, rfl, by simp⟩ rfl (by decide) ?_
            refine AOps.read ⟨112, rfl, rfl⟩ rfl (by decide) (Reader.pick rfl (b := false) rfl (ok_const rfl) (ok_const rfl) (v := .lit (.bool false)) rfl) ?_
            refine AOps.read trivial rfl (by decide) (Reader.pick rfl (b := false) rfl (ok_const rfl) (ok_const rfl) (v := .lit (.bool false)) rfl) ?_
            exact AOps.nil rfl
    refine AWp.cond (b := bif (decide ((c.toNat : Int) ≥ 48)) then (bif (decide ((c.toNat : Int) ≤ 57)) then true else (bif (decide ((c.toNat : Int) ≥ 65)) then (bif (decide ((c.toNat : Int) ≤ 90)) then true else (bif (decide ((c.toNat : Int) ≥ 97)) then (decide ((c.toNat : Int) ≤ 122)) else false)) else (bif (decide ((c.toNat : Int) ≥ 97)) then (decide ((c.toNat : Int) ≤ 122)) else false))) else (bif (decide ((c.toNat : Int) ≥ 65)) then (bif (decide ((c.toNat : Int) ≤ 90)) then true else (bif (decide ((c.toNat : Int) ≥ 97)) then (decide ((c.toNat : Int) ≤ 122)) else false)) else (bif (decide ((c.toNat : Int) ≥ 97)) then (decide ((c.toNat : Int) ≤ 122)) else false))) rfl (fun h17 => ?_) (fun h17 => ?_)
    · skip
      have h17' : AlNum c := (aln_t h17)
      clear h17
      refine AWp.seq (AWp.region ?_)
      refine AOps.read trivial rfl (by decide) (Reader.move (.inr rfl) (ok_const rfl) (v := .lit (.bool true)) rfl) ?_
      refine AOps.nil ?_
      refine AWp.ret ?_
      exact ⟨.inl rfl, _, ResOf.one 12 (.lit (.bool true)) rfl rfl, ⟨rfl, rfl⟩⟩
    · skip
      have h17' : ¬ AlNum c := (aln_f h17)
      clear h17
      refine AWp.skip ?_
      refine AWp.seq (AWp.region ?_)
      refine AOps.read trivial rfl (by decide) (Reader.move (.inl rfl) (ok_const rfl) (v := .lit (.int .u8 (q : Int))) rfl) ?_
      refine AOps.read trivial rfl (by decide) (Reader.conv rfl Tryd.underlying5 Tryd.underlying3 (by simp) rfl (c := (q : Int)) (by first | exact IntWalk.i64_in _ (by omega) | exact IntWalk.i64_in _ (by constructor <;> omega) | (simp only [];omega))) ?_
      refine AOps.read trivial rfl (by decide) (Reader.move (.inl rfl) (ok_const rfl) (v := .str (digs n)) rfl) ?_
      refine AOps.read trivial rfl (by decide) (Reader.lenStr' (l := digs n) rfl rfl rfl rfl Tryd.underlying9 rfl (m := (digs n).length) (by first | rfl | simp)) ?_
      refine AOps.read trivial rfl (by decide) (Reader.sum rfl rfl rfl (m := (((digs n).length : Nat) : Int) + 1) (c := ((((digs n).length) + 1 : Nat) : Int)) rfl (by first | exact IntWalk.i64_in _ (by omega) | exact IntWalk.i64_in _ (by constructor <;> omega) | (simp only [];omega))) ?_
      refine AOps.read trivial rfl (by decide) (Reader.rem rfl rfl rfl (by omega) (c := ((q % (((digs n).length) + 1) : Nat) : Int)) (nat_rem _ _)) ?_
      refine AOps.read trivial rfl (by decide) (Reader.move (.inr rfl) (ok_const rfl) (v := .lit (.int .i64 ((q % (((digs n).length) + 1) : Nat) : Int))) rfl) ?_
      refine AOps.nil ?_
      refine AWp.seq (AWp.anyR [119, 97, 0, 1, 2, 3, 4, 5, 12, 25, 13, 14, 15, 16, 17, 18, 19, 20, 21, 23] [] (⟨[(119, .lit (.bool (bif (decide ((c.toNat : Int) ≥ 48)) then (bif (decide ((c.toNat : Int) ≤ 57)) then true else (bif (decide ((c.toNat : Int) ≥ 65)) then (bif (decide ((c.toNat : Int) ≤ 90)) then true else (bif (decide ((c.toNat : Int) ≥ 97)) then (decide ((c.toNat : Int) ≤ 122)) else false)) else (bif (decide ((c.toNat : Int) ≥ 97)) then (decide ((c.toNat : Int) ≤ 122)) else false))) else (bif (decide ((c.toNat : Int) ≥ 65)) then (bif (decide ((c.toNat : Int) ≤ 90)) then true else (bif (decide ((c.toNat : Int) ≥ 97)) then (decide ((c.toNat : Int) ≤ 122)) else false)) else (bif (decide ((c.toNat : Int) ≥ 97)) then (decide ((c.toNat : Int) ≤ 122)) else false))))), (97, .lit (.bool (bif ((qe ((digs n) ++ (namesL.getD (i % 8) []))) != 0) then true else (bif ((qe (((digs n) ++ (digs (d % 10))) ++ (namesL.getD (i % 8) []))) != 0) then true else (bif ((qe ((digs n) ++ (namesL.getD (j % 8) []))) != 0) then true else (bif (decide (((qv (((digs n) ++ (digs (d % 10))) ++ (namesL.getD (i % 8) [])) : Nat) : Int) < ((qv ((digs n) ++ (namesL.getD (i % 8) [])) : Nat) : Int))) then true else (bif (decide (((i % 8 : Nat) : Int) ≤ ((j % 8 : Nat) : Int))) then (decide (((qv ((digs n) ++ (namesL.getD (j % 8) [])) : Nat) : Int) > ((qv ((digs n) ++ (namesL.getD (i % 8) [])) : Nat) : Int))) else false))))))), (0, .lit (.int .u32 (n : Int))), (1, .lit (.int .u8 (d : Int))), (2, .lit (.int .u8 (i : Int))), (3, .lit (.int .u8 (j : Int))), (4, .lit (.int .u8 (c.toNat : Int))), (5, .lit (.int .u8 (q : Int))), (12, .lit (.bool false)), (25, .lit (.bool false)), (13, .list true 9 (namesL.map AV.str)), (14, .str (digs n)), (15, .lit (.int .i64 ((qv ((digs n) ++ (namesL.getD (i % 8) [])) : Nat) : Int))), (16, .lit (.int .i64 (qe ((digs n) ++ (namesL.getD (i % 8) []))))), (17, .lit (.int .i64 ((qv (((digs n) ++ (digs (d % 10))) ++ (namesL.getD (i % 8) [])) : Nat) : Int))), (18, .lit (.int .i64 (qe (((digs n) ++ (digs (d % 10))) ++ (namesL.getD (i % 8) []))))), (19, .lit (.int .i64 ((qv ((digs n) ++ (namesL.getD (j % 8) [])) : Nat) : Int))), (20, .lit (.int .i64 (qe ((digs n) ++ (namesL.getD (j % 8) []))))), (21, .lit (.int .i64 ((q % (((digs n).length) + 1) : Nat) : Int))), (23, .lit (.int .i64 (qe (((((digs n).take (q % (((digs n).length) + 1))).drop 0) ++ [c]) ++ ((digs n).drop (q % (((digs n).length) + 1)))))))], [], M⟩) (by kernel_rfl) ?_ ?_)
      · skip
        skip
        refine SAny.take 0 rfl (by kernel_rfl) (by kernel_rfl) (by kernel_rfl) trivial rfl (by decide) (PReader.move (.inl rfl) (ok_const rfl) (v := .str (digs n)) rfl) ?_
        refine SAny.take 1 rfl (by kernel_rfl) (by kernel_rfl) (by kernel_rfl) trivial rfl (by decide) (PReader.move (.inl rfl) (ok_const rfl) (v := .lit (.int .i64 ((q % (((digs n).length) + 1) : Nat) : Int))) rfl) ?_
        refine SAny.take 2 rfl (by kernel_rfl) (by kernel_rfl) (by kernel_rfl) trivial rfl (by decide) (PReader.sub (i := 0) (j := q % (((digs n).length) + 1)) rfl Tryd.underlying9 rfl rfl ⟨_, _, rfl, rfl⟩ (by first | omega | (simp; omega)) (by first | omega | (simp; omega)) (m := ((digs n).take (q % (((digs n).length) + 1))).drop 0) rfl) ?_
        refine SAny.take 3 rfl (by kernel_rfl) (by kernel_rfl) (by kernel_rfl) trivial rfl (by decide) (PReader.move (.inl rfl) (ok_const rfl) (v := .lit (.int .u8 (c.toNat : Int))) rfl) ?_
        refine SAny.take 7 rfl (by kernel_rfl) (by kernel_rfl) (by kernel_rfl) trivial rfl (by decide) (PReader.move (.inl rfl) (ok_const rfl) (v := .str (digs n)) rfl) ?_
        refine SAny.take 8 rfl (by kernel_rfl) (by kernel_rfl) (by kernel_rfl) trivial rfl (by decide) (PReader.move (.inl rfl) (ok_const rfl) (v := .lit (.int .i64 ((q % (((digs n).length) + 1) : Nat) : Int))) rfl) ?_
        refine SAny.take 9 rfl (by kernel_rfl) (by kernel_rfl) (by kernel_rfl) trivial rfl (by decide) (PReader.sub (i := q % (((digs n).length) + 1)) (j := (digs n).length) rfl Tryd.underlying9 rfl ⟨_, _, rfl, rfl⟩ rfl (by first | omega | (simp; omega)) (by first | omega | (simp; omega)) (m := (digs n).drop (q % (((digs n).length) + 1))) (by rw [List.take_length])) ?_
        refine SAny.step [4] (by kernel_rfl) (by decide) ?_
        intro iq hq; simp only [List.mem_cons, List.mem_nil_iff, or_false] at hq
        rcases hq with rfl
        · refine ⟨_, rfl, ?_⟩
          refine AOps.buildSlice (ys := [(0, .lit (.int .u8 (c.toNat : Int)))]) (Es := []) (cs := [.lit (.int .u8 (c.toNat : Int))]) (xs := (byteAVs [c])) trivial rfl (by decide) rfl Tryd.underlying37 Tryd.i5 rfl rfl rfl (by decide) (by refine ⟨rfl, fun j p x hp hx => ?_⟩; match j, hp, hx with | 0, hp, hx => cases hp; cases hx; exact ⟨rfl, .inl ⟨rfl, rfl⟩, rfl, rfl⟩ | _ + 1, hp, hx => cases hp) rfl rfl rfl (all_len rfl) (all_sc rfl) rfl ?_
          refine AOps.nil ?_
          refine SAny.step [5] (by kernel_rfl) (by decide) ?_
          intro iq hq; simp only [List.mem_cons, List.mem_nil_iff, or_false] at hq
          rcases hq with rfl
          · refine ⟨_, rfl, ?_⟩
            refine AOps.read trivial rfl (by decide) (Reader.ofBytes (l := [c]) rfl Tryd.underlying37 Tryd.underlying9 Tryd.underlying5 rfl) ?_
            refine AOps.nil ?_
            refine SAny.take 6 rfl (by kernel_rfl) (by kernel_rfl) (by kernel_rfl) trivial rfl (by decide) (PReader.cat rfl rfl rfl (by first | omega | (simp only [List.length_append, List.length_cons, List.length_nil]; omega) | (simp; omega)) (c := (((digs n).take (q % (((digs n).length) + 1))).drop 0) ++ [c]) rfl) ?_
            refine SAny.take 10 rfl (by kernel_rfl) (by kernel_rfl) (by kernel_rfl) trivial rfl (by decide) (PReader.cat rfl rfl rfl (by first | omega | (simp only [List.length_append, List.length_cons, List.length_nil]; omega) | (simp; omega)) (c := ((((digs n).take (q % (((digs n).length) + 1))).drop 0) ++ [c]) ++ ((digs n).drop (q % (((digs n).length) + 1)))) rfl) ?_
            refine SAny.step [11] (by kernel_rfl) (by decide) ?_
            intro iq hq; simp only [List.mem_cons, List.mem_nil_iff, or_false] at hq
            rcases hq with rfl
            · refine ⟨_, rfl, ?_⟩
              refine AOps.call (args := [.str (((((digs n).take (q % (((digs n).length) + 1))).drop 0) ++ [c]) ++ ((digs n).drop (q % (((digs n).length) + 1))))]) trivial rfl (by decide) rfl rfl Tryd.call9 (args_ok rfl) rfl (by intro j x v hx hv; match j, hx, hv with | 0, hx, hv => cases hx; cases hv; exact .inl ⟨rfl, rfl⟩ | _ + 1, hx, hv => cases hx) (Read_any (((((digs n).take (q % (((digs n).length) + 1))).drop 0) ++ [c]) ++ ((digs n).drop (q % (((digs n).length) + 1)))) (by first | omega | (simp only [List.length_append, List.length_cons, List.length_nil, List.length_take, List.length_drop]; omega)) M) ?_
              rintro _ _ ⟨rfl, rfl⟩
              refine AOps.nil ?_
              refine SAny.take 12 rfl (by kernel_rfl) (by kernel_rfl) (by kernel_rfl) trivial rfl (by decide) (PReader.move (.inl rfl) (ok_const rfl) (v := .tuple [.lit (.int .i64 ((qv (((((digs n).take (q % (((digs n).length) + 1))).drop 0) ++ [c]) ++ ((digs n).drop (q % (((digs n).length) + 1)))) : Nat) : Int)), .lit (.int .i64 (qe (((((digs n).take (q % (((digs n).length) + 1))).drop 0) ++ [c]) ++ ((digs n).drop (q % (((digs n).length) + 1))))))]) rfl) ?_
              refine SAny.take 13 rfl (by kernel_rfl) (by kernel_rfl) (by kernel_rfl) trivial rfl (by decide) (PReader.extract (v := .lit (.int .i64 ((qv (((((digs n).take (q % (((digs n).length) + 1))).drop 0) ++ [c]) ++ ((digs n).drop (q % (((digs n).length) + 1)))) : Nat) : Int))) rfl rfl rfl rfl) ?_
              refine SAny.take 14 rfl (by kernel_rfl) (by kernel_rfl) (by kernel_rfl) trivial rfl (by decide) (PReader.extract (v := .lit (.int .i64 (qe (((((digs n).take (q % (((digs n).length) + 1))).drop 0) ++ [c]) ++ ((digs n).drop (q % (((digs n).length) + 1))))))) rfl rfl rfl rfl) ?_
              refine SAny.take 15 rfl (by kernel_rfl) (by kernel_rfl) (by kernel_rfl) trivial rfl (by decide) (PReader.move (.inr rfl) (ok_const rfl) (v := .lit (.int .i64 ((qv (((((digs n).take (q % (((digs n).length) + 1))).drop 0) ++ [c]) ++ ((digs n).drop (q % (((digs n).length) + 1)))) : Nat) : Int))) rfl) ?_
              refine SAny.take 16 rfl (by kernel_rfl) (by kernel_rfl) (by kernel_rfl) trivial rfl (by decide) (PReader.move (.inr rfl) (ok_const rfl) (v := .lit (.int .i64 (qe (((((digs n).take (q % (((digs n).length) + 1))).drop 0) ++ [c]) ++ ((digs n).drop (q % (((digs n).length) + 1))))))) rfl) ?_
              exact SAny.done (by kernel_rfl) rfl
      refine AWp.seq (AWp.region ?_)
      refine AOps.read trivial rfl (by decide) (Reader.move (.inl rfl) (ok_const rfl) (v := .lit (.int .i64 (qe (((((digs n).take (q % (((digs n).length) + 1))).drop 0) ++ [c]) ++ ((digs n).drop (q % (((digs n).length) + 1))))))) rfl) ?_
      refine AOps.read trivial rfl (by decide) (Reader.int rfl rfl rfl (r := .bool ((qe (((((digs n).take (q % (((digs n).length) + 1))).drop 0) ++ [c]) ++ ((digs n).drop (q % (((digs n).length) + 1))))) == 2)) rfl) ?_
      refine AOps.read trivial rfl (by decide) (Reader.move (.inr rfl) (ok_const rfl) (v := .lit (.bool ((qe (((((digs n).take (q % (((digs n).length) + 1))).drop 0) ++ [c]) ++ ((digs n).drop (q % (((digs n).length) + 1))))) == 2))) rfl) ?_
      refine AOps.nil ?_
      refine AWp.ret ?_
      exact ⟨.inl rfl, _, ResOf.one 12 (.lit (.bool ((qe (((((digs n).take (q % (((digs n).length) + 1))).drop 0) ++ [c]) ++ ((digs n).drop (q % (((digs n).length) + 1))))) == 2))) rfl rfl, ⟨congrArg (fun b => AV.lit (.bool b)) (order_last (by assumption)), rfl⟩⟩

theorem QuantOrder_nat (n d i j c q : Nat) (hn : n ≤ 4294967295) (hd : d ≤ 255) (hi : i ≤ 255) (hj : j ≤ 255) (hc : c ≤ 255) (hq : q ≤ 255) : ACall Tryd.prog 7 [.lit (.int .u32 (n : Int)), .lit (.int .u8 (d : Int)), .lit (.int .u8 (i : Int)), .lit (.int .u8 (j : Int)), .lit (.int .u8 (c : Int)), .lit (.int .u8 (q : Int))] noM (fun r M' => r = .lit (.bool true) ∧ noM = M') := by
  have e : (UInt8.ofNat c).toNat = c := UInt8.toNat_ofNat_of_lt' (by show c < 256; omega)
  have := QuantOrder_any n d i j (UInt8.ofNat c) q hn hd hi hj hq noM
  rw [e] at this
  exact this

end Go.Proofs.YtpfplkbbdoijnaaDoor
