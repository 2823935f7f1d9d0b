/- CondTurns: whatever the input, the law returns true. -/
import Derived.Test.YtkgganfbcfojcaaCondL
import Derived.Test.YtkgganfbcfojcaaMem2
import Derived.Test.YtkgganfbcfojcaaOpen2
namespace Go.Proofs.Ytkgganfbcfojcaa
open Go.RowKit

def calmF (h m f : Bool) : Bool := f && !m && !h

theorem calm_any (h m f : Bool) (w : World) :
    Calls Try.prog 16 #[.agg #[.bool h, .bool m, .bool f]] w (RetE w (.bool (calmF h m f))) := by
  unfold calmF
  cases f
  · go_enter Try.func16, Try.ntmps16
    go_wp2
    refine fin_ret (v := .bool _) ?_ rfl ?_
    · refine (results_tmp rfl _ _ _).trans ?_
      refine congrArg (fun b => Result.ok (Value.bool b) _) ?_
      rfl
    · exact Keeps.out
  · cases m
    · go_enter Try.func16, Try.ntmps16
      go_wp2
      refine fin_ret (v := .bool _) ?_ rfl ?_
      · refine (results_tmp rfl _ _ _).trans ?_
        refine congrArg (fun b => Result.ok (Value.bool b) _) ?_
        rfl
      · exact Keeps.out
    · go_enter Try.func16, Try.ntmps16
      go_wp2
      refine fin_ret (v := .bool _) ?_ rfl ?_
      · refine (results_tmp rfl _ _ _).trans ?_
        refine congrArg (fun b => Result.ok (Value.bool b) _) ?_
        rfl
      · exact Keeps.out

/-- The ways that a round may go. -/
theorem turn_paths (on : Bool) (calm n : Int) (h m f : Bool) :
    ((stepF ⟨on, calm⟩ h m f n).on = true ∧ on = true) ∨ ((stepF ⟨on, calm⟩ h m f n).on = true ∧ on = false ∧ f = true ∧ h = true) ∨
    ((stepF ⟨on, calm⟩ h m f n).on = false ∧ on = false ∧ f = false) ∨ ((stepF ⟨on, calm⟩ h m f n).on = false ∧ on = false ∧ f = true ∧ h = false) ∨
    ((stepF ⟨on, calm⟩ h m f n).on = false ∧ on = true ∧ f = true ∧ h = false ∧ m = false ∧ n ≤ calm + 1) := by
  by_cases hn : n ≤ calm + 1 <;> cases on <;> cases h <;> cases m <;> cases f <;> simp [stepF, hn]

theorem step_calm_le (on : Bool) (calm n r : Int) (h m f : Bool) (h0 : 0 ≤ calm) (hr : calm ≤ r) :
    (stepF ⟨on, calm⟩ h m f n).calm ≤ (if calmF h m f then r + 1 else 0) ∧ 0 ≤ (stepF ⟨on, calm⟩ h m f n).calm := by
  by_cases hn : n ≤ calm + 1 <;> cases on <;> cases h <;> cases m <;> cases f <;> simp [stepF, calmF, hn] <;> omega

structure TInv (w : World) (B : Nat) (n : Int) (k : Nat) (on : Bool) (calm r : Int) (wr : World) : Prop where
  blk : Blk wr B #[.bool on, .int .i64 calm] 23
  right : rightF ⟨on, calm⟩ n = true
  cr : calm ≤ r
  r0 : 0 ≤ r
  rk : r ≤ k
  keep : Below w.heap.size w wr

theorem TInv.step {w : World} {B b : Nat} {n : Int} {k : Nat} {on : Bool} {calm r : Int} {wr : World} (inv : TInv w B n k on calm r wr) (hB : w.heap.size ≤ B) (hp : periodF n = true) (h m f : Bool) (y : Ext wr) (hb : wr.heap.size ≤ b) {v0 v1 : Value}
    {dn : Bool} {dc r' : Int} (hd : dn = (stepF ⟨on, calm⟩ h m f n).on) (hc : dc = (stepF ⟨on, calm⟩ h m f n).calm) (hr : r' = if calmF h m f then r + 1 else 0)
    (z : Ext ((y.val.setCell ⟨b, 0, none⟩ v0).setCell ⟨b, 1, none⟩ v1)) :
    TInv w B n (k + 1) dn dc r' ((z.val.setCell ⟨B, 0, none⟩ (.bool dn)).setCell ⟨B, 1, none⟩ (.int .i64 dc)) := by
  have hbd := step_bd hp inv.right
  have hcl := step_calm_le on calm n r h m f hbd.1 inv.cr
  subst hd; subst hc; subst hr
  have hl := inv.blk.lt
  refine ⟨?_, step_right hp inv.right, hcl.1, ?_, ?_, ?_⟩
  · exact (((((inv.blk.ext y).set_ne (by omega) _ _).set_ne (by omega) _ _).ext z).set 0 _).set 1 _
  · have := inv.r0; split <;> omega
  · have := inv.rk; have := inv.r0; split <;> omega
  · haveI : Keeps w wr := ⟨inv.keep⟩
    haveI : GeW w B := ⟨hB⟩
    haveI : GeW w b := ⟨Nat.le_trans inv.keep.size hb⟩
    exact Keeps.out


set_option maxRecDepth 100000 in
set_option maxHeartbeats 2000000 in
theorem turns_any (v : Value) (len : Nat) (hh mm ff : Nat → Bool) (n : Int) (w : World) (hv : RoundsAt w v len hh mm ff) :
    Calls Try.prog 5 #[v, .int .i64 n] w (RetE w (.bool true)) := by
  obtain ⟨hm, hv⟩ := hv
  unfold maxLen at hm
  have hpp := fun W => period_any n W
  cases hp : periodF n
  · simp only [hp] at hpp
    have HP := Lib.hid hpp
    clear hp hpp
    rcases hv with ⟨rfl, rfl⟩ | ⟨a, cap, rfl, _, _⟩
    all_goals
      go_enter Try.func5, Try.ntmps5
      go_wp2_with (first | (go_at_call 10; refine (awake_any _).mono ?_; rintro e w1 ⟨rfl, x1, rfl⟩) | (go_at_call 13; refine (HP.out _).mono ?_; rintro e w1 ⟨rfl, x1, rfl⟩))
      refine fin_ret (v := .bool _) ?_ rfl ?_
      · refine (results_tmp rfl _ _ _).trans ?_
        refine congrArg (fun b => Result.ok (Value.bool b) _) ?_
        rfl
      · exact Keeps.out
  · simp only [hp] at hpp
    have HP := Lib.hid hpp
    have HPP := Lib.hid hp
    clear hp hpp
    rcases Nat.eq_zero_or_pos len with h0 | h0
    · have hv' : v = .slice none 0 0 ∨ ∃ a cap, v = .slice (some a) 0 cap := by
        rcases hv with ⟨h, _⟩ | ⟨a, cap, h, _⟩
        · exact .inl h
        · exact .inr ⟨a, cap, by rw [h, h0]⟩
      clear hv h0 hm
      rcases hv' with rfl | ⟨a, cap, rfl⟩
      all_goals
        go_enter Try.func5, Try.ntmps5
        go_wp2_with (first | (go_at_call 10; refine (awake_any _).mono ?_; rintro e w1 ⟨rfl, x1, rfl⟩) | (go_at_call 13; refine (HP.out _).mono ?_; rintro e w1 ⟨rfl, x1, rfl⟩))
        refine wp_loop_rounds 1 ?_
        rw [rounds_succ]
        go_wp2_with fail
        refine fin_ret (v := .bool _) ?_ rfl ?_
        · refine (results_tmp rfl _ _ _).trans ?_
          refine congrArg (fun b => Result.ok (Value.bool b) _) ?_
          rfl
        · exact Keeps.out
    · obtain ⟨a, cap, rfl, hcap, hcell⟩ := hv.resolve_left (by omega)
      obtain ⟨ab, ao, asp⟩ := a
      obtain rfl : asp = none := (hcell 0 h0).1
      have hab := (hcell 0 h0).2.1
      have HC := Lib.hid hcell
      clear hcell hv
      by_cases hlen : 100 < len
      · go_enter Try.func5, Try.ntmps5
        go_wp2_with (first | (go_at_call 10; refine (awake_any _).mono ?_; rintro e w1 ⟨rfl, x1, rfl⟩) | (go_at_call 13; refine (HP.out _).mono ?_; rintro e w1 ⟨rfl, x1, rfl⟩))
        refine fin_ret (v := .bool _) ?_ rfl ?_
        · refine (results_tmp rfl _ _ _).trans ?_
          refine congrArg (fun b => Result.ok (Value.bool b) _) ?_
          rfl
        · exact Keeps.out
      · go_enter Try.func5, Try.ntmps5
        go_wp2_with (first | (go_at_call 10; refine (awake_any _).mono ?_; rintro e w1 ⟨rfl, x1, rfl⟩) | (go_at_call 13; refine (HP.out _).mono ?_; rintro e w1 ⟨rfl, x1, rfl⟩))
        have hge : w.heap.size ≤ x1.val.heap.size := (Keeps.out : Below w.heap.size w x1.val).size
        go_loopw [6, 7] (fun r i wr => ∃ (k : Nat) (on : Bool) (calm q : Int), k ≤ len ∧ i = .int .i64 k ∧ r = .int .i64 q ∧ TInv w x1.val.heap.size n k on calm q wr) (fun _ i _ => len - (intOf i).toNat)
        case atStart => exact ⟨0, false, 0, 0, by omega, rfl, rfl, Blk.new _ _ _, by simp [rightF], by omega, by omega, by omega, Keeps.out⟩
        case round =>
          obtain ⟨k, on, calm, q, hk, rfl, rfl, inv⟩ := hrel
          haveI : LtW ab w := ⟨hab⟩
          haveI : Keeps w wr := ⟨inv.keep⟩
          have hkw : ∀ o, wr.cell? ⟨ab, o, none⟩ = w.cell? ⟨ab, o, none⟩ := fun o => inv.keep.cell (p := ⟨ab, o, none⟩) hab
          haveI : LtW ab wr := ⟨Nat.lt_of_lt_of_le hab inv.keep.size⟩
          have hC := inv.blk.cell
          have hF := inv.blk.frozen
          haveI := inv.blk.ltw
          have hBl := inv.blk.lt
          obtain ⟨hb0, hb1'⟩ := step_bd HPP.out inv.right
          have hr0 := inv.r0
          have hrk := inv.rk
          have hcr := inv.cr
          try simp only at hb0 hb1'
          have HINV := Lib.hid inv
          clear inv
          by_cases hlt : k < len
          · obtain ⟨_, _, g0, g1, g2⟩ := HC.out k hlt
            try simp only at g0 g1 g2
            generalize hh k = h at g0
            generalize mm k = m at g1
            generalize ff k = f at g2
            have HST := Lib.hid (fun W => step_any ⟨on, calm⟩ h m f n W hb0 hb1')
            go_wp2_with fail
            refine wp_region_E1 18 (.cells #[.bool false, .int .i64 0] 23) _ rfl (by kernel_rfl) (by kernel_rfl) ?fl ?_
            case fl => intro ρ w; go_simp
            simp only [List.take_succ_cons, List.take_zero, List.drop_succ_cons, List.drop_zero]
            repeat
              refine wpE_step (fun K hK => ?_)
              go_simp
              first
                | (refine hK _ ?_; clear hK K)
                | (apply Exists.intro; refine ⟨fun x => ?_, hK _ ?_⟩; (focus ((go_at_call 14; exact HST.out _))); clear hK K)
            refine wpE_nil (fun y b hb1 hb2 hb3 => ?_)
            simp only [Act.put, List.setIfInBounds_toArray, List.set_cons_zero, List.set_cons_succ]
            have hbb : Blk y.val b #[.bool false, .int .i64 0] 23 := hb3
            have hCb := hbb.cell
            have hFb := hbb.frozen
            haveI := hbb.ltw
            have hne1 : (x1.val.heap.size = b) = False := by simp; omega
            have hne2 : (b = x1.val.heap.size) = False := by simp; omega
            clear hb3 hbb HST
            rcases turn_paths on calm n h m f with ⟨hdn, rfl⟩ | ⟨hdn, rfl, rfl, rfl⟩ | ⟨hdn, rfl, rfl⟩ | ⟨hdn, rfl, rfl, rfl⟩ | ⟨hdn, rfl, rfl, rfl, rfl, hnc⟩
            · rcases Bool.eq_false_or_eq_true (calmF h m f) with hcm | hcm
              · go_wp2_with (go_at_call 16; refine (calm_any _ _ _ _).mono ?_; rintro e w1 ⟨rfl, z, rfl⟩)
                go_roundw
                case rel => exact ⟨k + 1, _, _, _, by omega, by go_num, rfl, HINV.out.step hge HPP.out _ _ _ y hb1 hdn.symm rfl (by simp [hcm]) z⟩
                case measure => simp [intOf]; omega
              · go_wp2_with (go_at_call 16; refine (calm_any _ _ _ _).mono ?_; rintro e w1 ⟨rfl, z, rfl⟩)
                go_roundw
                case rel => exact ⟨k + 1, _, _, _, by omega, by go_num, rfl, HINV.out.step hge HPP.out _ _ _ y hb1 hdn.symm rfl (by simp [hcm]) z⟩
                case measure => simp [intOf]; omega
            · have hcm : calmF true m true = false := by cases m <;> rfl
              go_wp2_with (go_at_call 16; refine (calm_any _ _ _ _).mono ?_; rintro e w1 ⟨rfl, z, rfl⟩)
              go_roundw
              case rel => exact ⟨k + 1, _, _, _, by omega, by go_num, rfl, HINV.out.step hge HPP.out _ _ _ y hb1 hdn.symm rfl (by simp [hcm]) z⟩
              case measure => simp [intOf]; omega
            · have hcm : calmF h m false = false := rfl
              go_wp2_with (go_at_call 16; refine (calm_any _ _ _ _).mono ?_; rintro e w1 ⟨rfl, z, rfl⟩)
              go_roundw
              case rel => exact ⟨k + 1, _, _, _, by omega, by go_num, rfl, HINV.out.step hge HPP.out _ _ _ y hb1 hdn.symm rfl (by simp [hcm]) z⟩
              case measure => simp [intOf]; omega
            · rcases Bool.eq_false_or_eq_true (calmF false m true) with hcm | hcm
              · go_wp2_with (go_at_call 16; refine (calm_any _ _ _ _).mono ?_; rintro e w1 ⟨rfl, z, rfl⟩)
                go_roundw
                case rel => exact ⟨k + 1, _, _, _, by omega, by go_num, rfl, HINV.out.step hge HPP.out _ _ _ y hb1 hdn.symm rfl (by simp [hcm]) z⟩
                case measure => simp [intOf]; omega
              · go_wp2_with (go_at_call 16; refine (calm_any _ _ _ _).mono ?_; rintro e w1 ⟨rfl, z, rfl⟩)
                go_roundw
                case rel => exact ⟨k + 1, _, _, _, by omega, by go_num, rfl, HINV.out.step hge HPP.out _ _ _ y hb1 hdn.symm rfl (by simp [hcm]) z⟩
                case measure => simp [intOf]; omega
            · have hcm : calmF false false true = true := rfl
              have hnr : n ≤ q + 1 := by omega
              go_wp2_with (go_at_call 16; refine (calm_any _ _ _ _).mono ?_; rintro e w1 ⟨rfl, z, rfl⟩)
              go_roundw
              case rel => exact ⟨k + 1, _, _, _, by omega, by go_num, rfl, HINV.out.step hge HPP.out _ _ _ y hb1 hdn.symm rfl (by simp [hcm]) z⟩
              case measure => simp [intOf]; omega
          · go_wp2_with fail
            refine fin_ret (v := .bool _) ?_ rfl ?_
            · refine (results_tmp rfl _ _ _).trans ?_
              refine congrArg (fun b => Result.ok (Value.bool b) _) ?_
              rfl
            · exact Keeps.out

section
open Go.ChangeShapes Go.WideShapes Go.ChangeAt
open Go.ChangeMaps (open_string shut_string)
set_option maxRecDepth 100000 in
theorem CondTurns_lifted (os : Os) (started : os.Started) (H : Type) (enc : TypeId × Value → H) :
    ReturnsInHanded {} Try.checked os 5 .any (Rows.condTurnsSpec.pre6 enc Try.prog Try.f5 Rows.condTurnsRow.domain false) (Rows.condTurnsSpec.post enc Try.prog Try.f5 false true false false) := by
  refine returnsInHanded_of_change (C := Try.checked) own started (by kernel_rfl) Try.func5
    (ChangeSpec.witness6 (enc := enc) (C := Try.checked) false ⟨#[], #[.slice none 0 0, .int .i64 0], []⟩ 8 (by kernel_rfl) (by kernel_rfl) (by kernel_rfl) (by kernel_rfl)) ?_
  intro W base args ds gs before hval0 hW hcnd _
  have hval : ∀ (j : Nat) t v, Try.f5.params[j]? = some t → args[j]? = some v → Value.okWide Try.prog W .any base t v := hval0
  have hW' := hW
  obtain ⟨p, q, hA0, hV, rfl, hfz, hnd⟩ := hW
  have hA : DataW.TrodAll enc Try.prog W 0 (fun _ => true) true Try.f5.params.toList args.toList ds p := hA0
  rw [Try.params5] at hA hval
  obtain ⟨v0, vs0, d0, ds0, p0, q0, hargs, rfl, rfl, h0, r0⟩ := trodAll_cons hA
  obtain ⟨v1, vs1, d1, ds1, p1, q1, rfl, rfl, rfl, h1, r1⟩ := trodAll_cons r0
  obtain ⟨rfl, rfl, rfl⟩ := trodAll_nil r1
  obtain rfl : args = #[v0, v1] := by cases args; simp_all
  obtain ⟨rfl, rfl⟩ := trodVars_none hV
  have k0 := h0
  have lt0 : ∀ x ∈ p0, x.block < W.heap.size := by obtain ⟨m, hm⟩ := k0; exact DataW.trod_lt m _ _ _ hm
  have k1 := h1
  have lt1 : ∀ x ∈ p1, x.block < W.heap.size := by obtain ⟨m, hm⟩ := k1; exact DataW.trod_lt m _ _ _ hm
  obtain ⟨len, hh, mm, ff, hrd⟩ := open_rounds Try.underlying29 Try.underlying31 Try.underlying4 Try.underlying4 Try.underlying4 ⟨rfl, rfl, rfl, by kernel_rfl, by kernel_rfl, by kernel_rfl⟩ (by kernel_rfl) (hval 0 29 v0 rfl rfl) h0
  obtain ⟨n, rfl, rfl, rfl, wn⟩ := open_int Try.underlying3 (hval 1 3 v1 rfl rfl) h1
  clear hA0 hval0
  refine (turns_any _ len hh mm ff n W hrd).mono fun e W' ⟨he, x, hx⟩ => ?_
  subst he
  subst hx
  have bel := x.below
  exact ⟨_, rfl, _, _, _, [], _, [], hW', trodAll_mk1 (shut_bool Try.underlying4 _), (trodAll_cons_mk (Below.trod laidOut (by kernel_rfl) (of_decide_eq_true (by kernel_rfl)) k0 bel lt0) (trodAll_cons_mk (Below.trod laidOut (by kernel_rfl) (of_decide_eq_true (by kernel_rfl)) k1 bel lt1) trodAll_mk0)), rfl, bel.frame _, fun h => by cases h⟩
/-- CondTurns: whatever the input, the law returns true, and each argument reads as it did. -/
theorem CondTurns_holds : Rows.CondTurnsSaid :=
  OpenClaim.holds_of_wide 5 Try.f5 rfl rfl rfl rfl rfl rfl rfl ⟨rfl, rfl, rfl, rfl, rfl⟩ rfl rfl rfl rfl rfl (by kernel_rfl) Try.func5 (by kernel_rfl)
    (of_decide_eq_true (by kernel_rfl)) (by unfold Func.isWrapper; first | (rw [if_pos (by decide +kernel)]; kernel_rfl) | (rw [if_neg (by decide +kernel)]; exact ⟨rfl, rfl⟩))
    (fun os started H enc _ => CondTurns_lifted os started H enc)
#print axioms CondTurns_holds
end
end Go.Proofs.Ytkgganfbcfojcaa
