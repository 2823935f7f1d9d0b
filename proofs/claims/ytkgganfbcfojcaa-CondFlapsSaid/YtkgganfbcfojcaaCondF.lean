/- CondFlaps: whatever the input, the law returns true. -/
import Derived.Test.YtkgganfbcfojcaaCondT
namespace Go.Proofs.Ytkgganfbcfojcaa
open Go.RowKit

/-- What the last time that it turned on is good for. -/
def FJ (on : Bool) (calm k last n : Int) : Prop := (last = -1 ∧ on = false) ∨ (0 ≤ last ∧ last < k ∧ (on = true → calm ≤ k - 1 - last) ∧ (on = false → n + 1 ≤ k - last))

theorem flap_on (on : Bool) (calm n k last : Int) (h m f : Bool) (h0 : 0 ≤ calm) (hk : 0 ≤ k) (hj : FJ on calm k last n) (hd : (stepF ⟨on, calm⟩ h m f n).on = true) (ho : on = false) :
    (last = -1 ∨ 0 ≤ last ∧ n < k - last) ∧ FJ true (stepF ⟨on, calm⟩ h m f n).calm (k + 1) k n := by
  subst ho
  unfold FJ at *
  cases h <;> cases m <;> cases f <;> simp [stepF] at hd hj ⊢ <;> omega

theorem flap_same (on : Bool) (calm n k last : Int) (h m f : Bool) (h0 : 0 ≤ calm) (hk : 0 ≤ k) (hn : 1 ≤ n) (hj : FJ on calm k last n) (hd : (stepF ⟨on, calm⟩ h m f n).on = false ∨ on = true) :
    FJ (stepF ⟨on, calm⟩ h m f n).on (stepF ⟨on, calm⟩ h m f n).calm (k + 1) last n := by
  unfold FJ at *
  by_cases hc : n ≤ calm + 1 <;> cases on <;> cases h <;> cases m <;> cases f <;> simp [stepF, hc] at hd hj ⊢ <;> omega

structure FInv (w : World) (B : Nat) (n : Int) (k : Nat) (on : Bool) (calm last : Int) (wr : World) : Prop where
  blk : Blk wr B #[.bool on, .int .i64 calm] 23
  right : rightF ⟨on, calm⟩ n = true
  fj : FJ on calm k last n
  keep : Below w.heap.size w wr

theorem FInv.step {w : World} {B b : Nat} {n : Int} {k : Nat} {on : Bool} {calm last : Int} {wr : World} (inv : FInv w B n k on calm last wr) (hB : w.heap.size ≤ B) (hp : periodF n = true) (h m f : Bool) (y : Ext wr) (hb : wr.heap.size ≤ b) {v0 v1 : Value}
    {dn : Bool} {dc last' : Int} (hd : dn = (stepF ⟨on, calm⟩ h m f n).on) (hc : dc = (stepF ⟨on, calm⟩ h m f n).calm) (hj : FJ dn dc (k + 1) last' n) :
    FInv w B n (k + 1) dn dc last' ((((y.val.setCell ⟨b, 0, none⟩ v0).setCell ⟨b, 1, none⟩ v1).setCell ⟨B, 0, none⟩ (.bool dn)).setCell ⟨B, 1, none⟩ (.int .i64 dc)) := by
  have hl := inv.blk.lt
  refine ⟨?_, ?_, hj, ?_⟩
  · exact ((((inv.blk.ext y).set_ne (by omega) _ _).set_ne (by omega) _ _).set 0 _).set 1 _
  · subst hd; subst hc; exact step_right hp inv.right
  · haveI : Keeps w wr := ⟨inv.keep⟩
    haveI : GeW w B := ⟨hB⟩
    haveI : GeW w b := ⟨Nat.le_trans inv.keep.size hb⟩
    exact Keeps.out


set_option maxRecDepth 100000 in
set_option maxHeartbeats 2000000 in
theorem flaps_any (v : Value) (len : Nat) (hh mm ff : Nat → Bool) (n : Int) (w : World) (hv : RoundsAt w v len hh mm ff) :
    Calls Try.prog 6 #[v, .int .i64 n] w (RetE w (.bool true)) := by
  obtain ⟨hm, hv⟩ := hv
  unfold maxLen at hm
  have hpp := fun W => period_any n W
  cases hp : periodF n
  · simp only [hp] at hpp
    have HP := Lib.hid hpp
    clear hp hpp
    rcases hv with ⟨rfl, rfl⟩ | ⟨a, cap, rfl, _, _⟩
    all_goals
      go_enter Try.func6, Try.ntmps6
      go_wp2_with (first | (go_at_call 10; refine (awake_any _).mono ?_; rintro e w1 ⟨rfl, x1, rfl⟩) | (go_at_call 13; refine (HP.out _).mono ?_; rintro e w1 ⟨rfl, x1, rfl⟩))
      refine fin_ret (v := .bool _) ?_ rfl ?_
      · refine (results_tmp rfl _ _ _).trans ?_
        refine congrArg (fun b => Result.ok (Value.bool b) _) ?_
        rfl
      · exact Keeps.out
  · simp only [hp] at hpp
    have HP := Lib.hid hpp
    have HPP := Lib.hid hp
    clear hp hpp
    rcases Nat.eq_zero_or_pos len with h0 | h0
    · have hv' : v = .slice none 0 0 ∨ ∃ a cap, v = .slice (some a) 0 cap := by
        rcases hv with ⟨h, _⟩ | ⟨a, cap, h, _⟩
        · exact .inl h
        · exact .inr ⟨a, cap, by rw [h, h0]⟩
      clear hv h0 hm
      rcases hv' with rfl | ⟨a, cap, rfl⟩
      all_goals
        go_enter Try.func6, Try.ntmps6
        go_wp2_with (first | (go_at_call 10; refine (awake_any _).mono ?_; rintro e w1 ⟨rfl, x1, rfl⟩) | (go_at_call 13; refine (HP.out _).mono ?_; rintro e w1 ⟨rfl, x1, rfl⟩))
        refine wp_loop_rounds 1 ?_
        rw [rounds_succ]
        go_wp2_with fail
        refine fin_ret (v := .bool _) ?_ rfl ?_
        · refine (results_tmp rfl _ _ _).trans ?_
          refine congrArg (fun b => Result.ok (Value.bool b) _) ?_
          rfl
        · exact Keeps.out
    · obtain ⟨a, cap, rfl, hcap, hcell⟩ := hv.resolve_left (by omega)
      obtain ⟨ab, ao, asp⟩ := a
      obtain rfl : asp = none := (hcell 0 h0).1
      have hab := (hcell 0 h0).2.1
      have HC := Lib.hid hcell
      clear hcell hv
      by_cases hlen : 300 < len
      · go_enter Try.func6, Try.ntmps6
        go_wp2_with (first | (go_at_call 10; refine (awake_any _).mono ?_; rintro e w1 ⟨rfl, x1, rfl⟩) | (go_at_call 13; refine (HP.out _).mono ?_; rintro e w1 ⟨rfl, x1, rfl⟩))
        refine fin_ret (v := .bool _) ?_ rfl ?_
        · refine (results_tmp rfl _ _ _).trans ?_
          refine congrArg (fun b => Result.ok (Value.bool b) _) ?_
          rfl
        · exact Keeps.out
      · go_enter Try.func6, Try.ntmps6
        go_wp2_with (first | (go_at_call 10; refine (awake_any _).mono ?_; rintro e w1 ⟨rfl, x1, rfl⟩) | (go_at_call 13; refine (HP.out _).mono ?_; rintro e w1 ⟨rfl, x1, rfl⟩))
        have hge : w.heap.size ≤ x1.val.heap.size := (Keeps.out : Below w.heap.size w x1.val).size
        go_loopw [6, 7] (fun r i wr => ∃ (k : Nat) (on : Bool) (calm last : Int), k ≤ len ∧ i = .int .i64 k ∧ r = .int .i64 last ∧ FInv w x1.val.heap.size n k on calm last wr) (fun _ i _ => len - (intOf i).toNat)
        case atStart => exact ⟨0, false, 0, -1, by omega, rfl, rfl, Blk.new _ _ _, by simp [rightF], .inl ⟨rfl, rfl⟩, Keeps.out⟩
        case round =>
          obtain ⟨k, on, calm, last, hk, rfl, rfl, inv⟩ := hrel
          haveI : LtW ab w := ⟨hab⟩
          haveI : Keeps w wr := ⟨inv.keep⟩
          have hkw : ∀ o, wr.cell? ⟨ab, o, none⟩ = w.cell? ⟨ab, o, none⟩ := fun o => inv.keep.cell (p := ⟨ab, o, none⟩) hab
          haveI : LtW ab wr := ⟨Nat.lt_of_lt_of_le hab inv.keep.size⟩
          have hC := inv.blk.cell
          have hF := inv.blk.frozen
          haveI := inv.blk.ltw
          have hBl := inv.blk.lt
          obtain ⟨hb0, hb1'⟩ := step_bd HPP.out inv.right
          have HFJ := Lib.hid inv.fj
          have hn1 : 1 ≤ n := by have := HPP.out; simp only [periodF, Bool.and_eq_true, decide_eq_true_eq] at this; exact this.1
          try simp only at hb0 hb1'
          have HINV := Lib.hid inv
          clear inv
          by_cases hlt : k < len
          · obtain ⟨_, _, g0, g1, g2⟩ := HC.out k hlt
            try simp only at g0 g1 g2
            generalize hh k = h at g0
            generalize mm k = m at g1
            generalize ff k = f at g2
            have HST := Lib.hid (fun W => step_any ⟨on, calm⟩ h m f n W hb0 hb1')
            go_wp2_with fail
            refine wp_region_E1 18 (.cells #[.bool false, .int .i64 0] 23) _ rfl (by kernel_rfl) (by kernel_rfl) ?fl ?_
            case fl => intro ρ w; go_simp
            simp only [List.take_succ_cons, List.take_zero, List.drop_succ_cons, List.drop_zero]
            repeat
              refine wpE_step (fun K hK => ?_)
              go_simp
              first
                | (refine hK _ ?_; clear hK K)
                | (apply Exists.intro; refine ⟨fun x => ?_, hK _ ?_⟩; (focus ((go_at_call 14; exact HST.out _))); clear hK K)
            refine wpE_nil (fun y b hb1 hb2 hb3 => ?_)
            simp only [Act.put, List.setIfInBounds_toArray, List.set_cons_zero, List.set_cons_succ]
            have hbb : Blk y.val b #[.bool false, .int .i64 0] 23 := hb3
            have hCb := hbb.cell
            have hFb := hbb.frozen
            haveI := hbb.ltw
            have hne1 : (x1.val.heap.size = b) = False := by simp; omega
            have hne2 : (b = x1.val.heap.size) = False := by simp; omega
            clear hb3 hbb HST
            rcases Bool.eq_false_or_eq_true (stepF ⟨on, calm⟩ h m f n).on with hdn | hdn
            · cases on
              · have hfo := flap_on false calm n k last h m f hb0 (by omega) HFJ.out hdn rfl
                have HFO := Lib.hid hfo.2
                rcases hfo.1 with rfl | ⟨hl0, hlt2⟩
                · clear hfo
                  go_wp2_with fail
                  go_roundw
                  case rel => exact ⟨k + 1, _, _, _, by omega, by go_num, rfl, HINV.out.step hge HPP.out _ _ _ y hb1 hdn.symm rfl (HFO.out)⟩
                  case measure => simp [intOf]; omega
                · clear hfo
                  go_wp2_with fail
                  go_roundw
                  case rel => exact ⟨k + 1, _, _, _, by omega, by go_num, rfl, HINV.out.step hge HPP.out _ _ _ y hb1 hdn.symm rfl (HFO.out)⟩
                  case measure => simp [intOf]; omega
              · have HFO := Lib.hid (flap_same true calm n k last h m f hb0 (by omega) hn1 HFJ.out (.inr rfl))
                go_wp2_with fail
                go_roundw
                case rel => exact ⟨k + 1, _, _, _, by omega, by go_num, rfl, HINV.out.step hge HPP.out _ _ _ y hb1 hdn.symm rfl ((by have := HFO.out; rw [hdn] at this; exact this))⟩
                case measure => simp [intOf]; omega
            · have HFO := Lib.hid (flap_same on calm n k last h m f hb0 (by omega) hn1 HFJ.out (.inl hdn))
              go_wp2_with fail
              go_roundw
              case rel => exact ⟨k + 1, _, _, _, by omega, by go_num, rfl, HINV.out.step hge HPP.out _ _ _ y hb1 hdn.symm rfl ((by have := HFO.out; rw [hdn] at this; exact this))⟩
              case measure => simp [intOf]; omega
          · go_wp2_with fail
            refine fin_ret (v := .bool _) ?_ rfl ?_
            · refine (results_tmp rfl _ _ _).trans ?_
              refine congrArg (fun b => Result.ok (Value.bool b) _) ?_
              rfl
            · exact Keeps.out

section
open Go.ChangeShapes Go.WideShapes Go.ChangeAt
open Go.ChangeMaps (open_string shut_string)
set_option maxRecDepth 100000 in
theorem CondFlaps_lifted (os : Os) (started : os.Started) (H : Type) (enc : TypeId × Value → H) :
    ReturnsInHanded {} Try.checked os 6 .any (Rows.condFlapsSpec.pre6 enc Try.prog Try.f6 Rows.condFlapsRow.domain false) (Rows.condFlapsSpec.post enc Try.prog Try.f6 false true false false) := by
  refine returnsInHanded_of_change (C := Try.checked) own started (by kernel_rfl) Try.func6
    (ChangeSpec.witness6 (enc := enc) (C := Try.checked) false ⟨#[], #[.slice none 0 0, .int .i64 0], []⟩ 8 (by kernel_rfl) (by kernel_rfl) (by kernel_rfl) (by kernel_rfl)) ?_
  intro W base args ds gs before hval0 hW hcnd _
  have hval : ∀ (j : Nat) t v, Try.f6.params[j]? = some t → args[j]? = some v → Value.okWide Try.prog W .any base t v := hval0
  have hW' := hW
  obtain ⟨p, q, hA0, hV, rfl, hfz, hnd⟩ := hW
  have hA : DataW.TrodAll enc Try.prog W 0 (fun _ => true) true Try.f6.params.toList args.toList ds p := hA0
  rw [Try.params6] at hA hval
  obtain ⟨v0, vs0, d0, ds0, p0, q0, hargs, rfl, rfl, h0, r0⟩ := trodAll_cons hA
  obtain ⟨v1, vs1, d1, ds1, p1, q1, rfl, rfl, rfl, h1, r1⟩ := trodAll_cons r0
  obtain ⟨rfl, rfl, rfl⟩ := trodAll_nil r1
  obtain rfl : args = #[v0, v1] := by cases args; simp_all
  obtain ⟨rfl, rfl⟩ := trodVars_none hV
  have k0 := h0
  have lt0 : ∀ x ∈ p0, x.block < W.heap.size := by obtain ⟨m, hm⟩ := k0; exact DataW.trod_lt m _ _ _ hm
  have k1 := h1
  have lt1 : ∀ x ∈ p1, x.block < W.heap.size := by obtain ⟨m, hm⟩ := k1; exact DataW.trod_lt m _ _ _ hm
  obtain ⟨len, hh, mm, ff, hrd⟩ := open_rounds Try.underlying29 Try.underlying31 Try.underlying4 Try.underlying4 Try.underlying4 ⟨rfl, rfl, rfl, by kernel_rfl, by kernel_rfl, by kernel_rfl⟩ (by kernel_rfl) (hval 0 29 v0 rfl rfl) h0
  obtain ⟨n, rfl, rfl, rfl, wn⟩ := open_int Try.underlying3 (hval 1 3 v1 rfl rfl) h1
  clear hA0 hval0
  refine (flaps_any _ len hh mm ff n W hrd).mono fun e W' ⟨he, x, hx⟩ => ?_
  subst he
  subst hx
  have bel := x.below
  exact ⟨_, rfl, _, _, _, [], _, [], hW', trodAll_mk1 (shut_bool Try.underlying4 _), (trodAll_cons_mk (Below.trod laidOut (by kernel_rfl) (of_decide_eq_true (by kernel_rfl)) k0 bel lt0) (trodAll_cons_mk (Below.trod laidOut (by kernel_rfl) (of_decide_eq_true (by kernel_rfl)) k1 bel lt1) trodAll_mk0)), rfl, bel.frame _, fun h => by cases h⟩
/-- CondFlaps: whatever the input, the law returns true, and each argument reads as it did. -/
theorem CondFlaps_holds : Rows.CondFlapsSaid :=
  OpenClaim.holds_of_wide 6 Try.f6 rfl rfl rfl rfl rfl rfl rfl ⟨rfl, rfl, rfl, rfl, rfl⟩ rfl rfl rfl rfl rfl (by kernel_rfl) Try.func6 (by kernel_rfl)
    (of_decide_eq_true (by kernel_rfl)) (by unfold Func.isWrapper; first | (rw [if_pos (by decide +kernel)]; kernel_rfl) | (rw [if_neg (by decide +kernel)]; exact ⟨rfl, rfl⟩))
    (fun os started H enc _ => CondFlaps_lifted os started H enc)
#print axioms CondFlaps_holds
end
end Go.Proofs.Ytkgganfbcfojcaa
