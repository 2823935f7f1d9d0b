/- The laws of cond: CondSteps. -/
import Derived.Test.YtkgganfbcfojcaaCondA
import Derived.ProofKit
import Derived.OpenShut
import Derived.ShutString
import Derived.ChangeOld
import Derived.Lib.SmallJoins
namespace Go.Proofs.Ytkgganfbcfojcaa
open Go.RowKit

set_option maxHeartbeats 1000000 in
theorem awake_any (w : World) : Calls Try.prog 10 #[] w (RetE w (.bool true)) := by
  go_enter Try.func10, Try.ntmps10
  go_wp2_with fail
  refine (step_to false 0 true true true 2 _ true 0 rfl (by decide) (by decide)).mono ?_
  rintro e w1 ⟨rfl, x1, rfl⟩
  go_wp2_with fail
  refine (step_to true 0 false false true 2 _ true 1 rfl (by decide) (by decide)).mono ?_
  rintro e w1 ⟨rfl, x2, rfl⟩
  go_wp2_with fail
  refine (step_to true 1 false false true 2 _ false 0 rfl (by decide) (by decide)).mono ?_
  rintro e w1 ⟨rfl, x3, rfl⟩
  go_wp2_with fail
  refine (step_to true 1 false false false 2 _ true 0 rfl (by decide) (by decide)).mono ?_
  rintro e w1 ⟨rfl, x4, rfl⟩
  go_wp2_with fail
  refine (all_any false false false 0 0 0 (fun i => i == 1) (fun _ => false) true 2 _ (by decide) (by decide) (by decide) _ rfl).mono ?_
  rintro e w1 ⟨v, rfl, ⟨x5, rfl⟩, ev, k, rfl, hown⟩
  have hl := hown.1
  have he : (evs (c3 false false false 0 0 0) (fun i => stepF (c3 false false false 0 0 0 i) (i == 1) false true 2) 3).flatMap Ev.cells = [.int .i64 6, .string ⟨#[]⟩, .int .i64 1, .int .i64 0] := by
    simp [evs, evOf, c3, stepF, Ev.cells]
  rw [he] at hown hl
  obtain rfl : k = 1 := by simp at hl; omega
  obtain ⟨g, cap, rfl, hg, hcap, hgl, hcell, hfz⟩ := ownsRow_open hown (by omega)
  have q0 := hcell 0 _ rfl
  have q1 := hcell 1 _ rfl
  have q2 := hcell 2 _ rfl
  have q3 := hcell 3 _ rfl
  have HOWN := Lib.hid hown
  clear hown hcell hl he hg
  simp only [cells3, c3, stepF]
  go_wp2_with fail
  refine (right_any ⟨true, 1⟩ 2 _).mono ?_
  rintro e w1 ⟨rfl, x6, rfl⟩
  go_wp2_with fail
  refine (right_any ⟨true, 1⟩ 1 _).mono ?_
  rintro e w1 ⟨rfl, x7, rfl⟩
  go_wp2_with fail
  refine fin_ret (v := .bool _) ?_ rfl ?_
  · refine (results_tmp rfl _ _ _).trans ?_
    refine congrArg (fun b => Result.ok (Value.bool b) _) ?_
    rfl
  · exact Keeps.out

theorem step_bd {c : CC} {n : Int} (hp : periodF n = true) (hr : rightF c n = true) : 0 ≤ c.calm ∧ c.calm ≤ 1000 := by
  obtain ⟨on, calm⟩ := c
  simp only [periodF, Bool.and_eq_true, decide_eq_true_eq] at hp
  cases on <;> simp [rightF] at hr <;> simp <;> omega

theorem step_right {c : CC} {holds met fresh : Bool} {n : Int} (hp : periodF n = true) (hr : rightF c n = true) : rightF (stepF c holds met fresh n) n = true := by
  obtain ⟨on, calm⟩ := c
  simp only [periodF, Bool.and_eq_true, decide_eq_true_eq] at hp
  cases on <;> cases holds <;> cases met <;> cases fresh <;> simp [rightF] at hr <;> simp [stepF, rightF] <;> (try split) <;> (first | omega | (simp_all; done) | (simp_all; omega) | simp)

theorem steps_any (c : CC) (holds met fresh : Bool) (n : Int) (w : World) :
    Calls Try.prog 3 #[.agg #[.bool c.on, .int .i64 c.calm], .bool holds, .bool met, .bool fresh, .int .i64 n] w (RetE w (.bool true)) := by
  cases hp : periodF n
  · go_enter Try.func3, Try.ntmps3
    go_wp2_with fail
    refine wp_region_E0 11 (by kernel_rfl) (by kernel_rfl) ?_
    simp only [List.take_succ_cons, List.take_zero, List.drop_succ_cons, List.drop_zero]
    repeat
      refine wpE_step (fun K hK => ?_)
      go_simp
      first
        | (refine hK _ ?_; clear hK K)
        | (apply Exists.intro; refine ⟨fun x => ?_, hK _ ?_⟩; (focus (first | (go_at_call 10; exact awake_any _) | (go_at_call 11; exact right_any c n _) | (go_at_call 12; exact rright_any c n _))); clear hK K)
    refine wpE_nil (fun x => ?_)
    go_wp2_with (first | (go_at_call 13; refine (period_any _ _).mono ?_; rintro e w1 ⟨rfl, x1, rfl⟩) | (go_at_call 12; refine (rright_any c n _).mono ?_; rintro e w1 ⟨rfl, x1, rfl⟩))
    refine fin_ret (v := .bool _) ?_ rfl ?_
    · refine (results_tmp rfl _ _ _).trans ?_
      refine congrArg (fun b => Result.ok (Value.bool b) _) ?_
      rfl
    · exact Keeps.out
  · cases hr : rightF c n
    · go_enter Try.func3, Try.ntmps3
      go_wp2_with fail
      refine wp_region_E0 11 (by kernel_rfl) (by kernel_rfl) ?_
      simp only [List.take_succ_cons, List.take_zero, List.drop_succ_cons, List.drop_zero]
      repeat
        refine wpE_step (fun K hK => ?_)
        go_simp
        first
          | (refine hK _ ?_; clear hK K)
          | (apply Exists.intro; refine ⟨fun x => ?_, hK _ ?_⟩; (focus (first | (go_at_call 10; exact awake_any _) | (go_at_call 11; exact right_any c n _) | (go_at_call 12; exact rright_any c n _))); clear hK K)
      refine wpE_nil (fun x => ?_)
      go_wp2_with (first | (go_at_call 13; refine (period_any _ _).mono ?_; rintro e w1 ⟨rfl, x1, rfl⟩) | (go_at_call 12; refine (rright_any c n _).mono ?_; rintro e w1 ⟨rfl, x1, rfl⟩))
      refine fin_ret (v := .bool _) ?_ rfl ?_
      · refine (results_tmp rfl _ _ _).trans ?_
        refine congrArg (fun b => Result.ok (Value.bool b) _) ?_
        rfl
      · exact Keeps.out
    · obtain ⟨h0, h1⟩ := step_bd hp hr
      have hs := @step_right c holds met fresh n hp hr
      have HR := Lib.hid hr
      go_enter Try.func3, Try.ntmps3
      go_wp2_with fail
      refine wp_region_E0 11 (by kernel_rfl) (by kernel_rfl) ?_
      simp only [List.take_succ_cons, List.take_zero, List.drop_succ_cons, List.drop_zero]
      repeat
        refine wpE_step (fun K hK => ?_)
        go_simp
        first
          | (refine hK _ ?_; clear hK K)
          | (apply Exists.intro; refine ⟨fun x => ?_, hK _ ?_⟩; (focus (first | (go_at_call 10; exact awake_any _) | (go_at_call 11; exact right_any c n _) | (go_at_call 12; exact rright_any c n _))); clear hK K)
      refine wpE_nil (fun x => ?_)
      go_wp2_with (first | (go_at_call 13; refine (period_any _ _).mono ?_; rintro e w1 ⟨rfl, x1, rfl⟩) | (go_at_call 12; refine (rright_any c n _).mono ?_; rintro e w1 ⟨rfl, x1, rfl⟩) | (go_at_call 14; refine (step_any c holds met fresh n _ h0 h1).mono ?_; rintro e w1 ⟨rfl, x1, rfl⟩))
      refine wp_region_E0 13 (by kernel_rfl) (by kernel_rfl) ?_
      simp only [List.take_succ_cons, List.take_zero, List.drop_succ_cons, List.drop_zero]
      repeat
        refine wpE_step (fun K hK => ?_)
        go_simp
        first
          | (refine hK _ ?_; clear hK K)
          | (apply Exists.intro; refine ⟨fun x => ?_, hK _ ?_⟩; (focus (first | (go_at_call 15; exact rstep_any c holds met fresh n _ h0 h1 HR.out) | (go_at_call 11; exact right_any (stepF c holds met fresh n) n _))); clear hK K)
      refine wpE_nil (fun x => ?_)
      go_wp2
      refine fin_ret (v := .bool _) ?_ rfl ?_
      · refine (results_tmp rfl _ _ _).trans ?_
        refine congrArg (fun b => Result.ok (Value.bool b) _) ?_
        rfl
      · exact Keeps.out

section
open Go.ChangeShapes Go.WideShapes Go.ChangeAt
open Go.ChangeMaps (open_string shut_string)
theorem own : ownKnob Try.prog.godebug = none := by kernel_rfl
theorem laidOut : laidOutB Try.prog = true := by kernel_rfl
set_option maxRecDepth 100000 in
theorem CondSteps_lifted (os : Os) (started : os.Started) (H : Type) (enc : TypeId × Value → H) :
    ReturnsInHanded {} Try.checked os 3 .any (Rows.condStepsSpec.pre6 enc Try.prog Try.f3 Rows.condStepsRow.domain false) (Rows.condStepsSpec.post enc Try.prog Try.f3 false true false false) := by
  refine returnsInHanded_of_change (C := Try.checked) own started (by kernel_rfl) Try.func3
    (ChangeSpec.witness6 (enc := enc) (C := Try.checked) false ⟨#[], #[.agg #[.bool false, .int .i64 0], .bool false, .bool false, .bool false, .int .i64 0], []⟩ 8 (by kernel_rfl) (by kernel_rfl) (by kernel_rfl) (by kernel_rfl)) ?_
  intro W base args ds gs before hval0 hW hcnd _
  have hval : ∀ (j : Nat) t v, Try.f3.params[j]? = some t → args[j]? = some v → Value.okWide Try.prog W .any base t v := hval0
  have hW' := hW
  obtain ⟨p, q, hA0, hV, rfl, hfz, hnd⟩ := hW
  have hA : DataW.TrodAll enc Try.prog W 0 (fun _ => true) true Try.f3.params.toList args.toList ds p := hA0
  rw [Try.params3] at hA hval
  obtain ⟨v0, vs0, d0, ds0, p0, q0, hargs, rfl, rfl, h0, r0⟩ := trodAll_cons hA
  obtain ⟨v1, vs1, d1, ds1, p1, q1, rfl, rfl, rfl, h1, r1⟩ := trodAll_cons r0
  obtain ⟨v2, vs2, d2, ds2, p2, q2, rfl, rfl, rfl, h2, r2⟩ := trodAll_cons r1
  obtain ⟨v3, vs3, d3, ds3, p3, q3, rfl, rfl, rfl, h3, r3⟩ := trodAll_cons r2
  obtain ⟨v4, vs4, d4, ds4, p4, q4, rfl, rfl, rfl, h4, r4⟩ := trodAll_cons r3
  obtain ⟨rfl, rfl, rfl⟩ := trodAll_nil r4
  obtain rfl : args = #[v0, v1, v2, v3, v4] := by cases args; simp_all
  obtain ⟨rfl, rfl⟩ := trodVars_none hV
  have k0 := h0
  have lt0 : ∀ x ∈ p0, x.block < W.heap.size := by obtain ⟨m, hm⟩ := k0; exact DataW.trod_lt m _ _ _ hm
  have k1 := h1
  have lt1 : ∀ x ∈ p1, x.block < W.heap.size := by obtain ⟨m, hm⟩ := k1; exact DataW.trod_lt m _ _ _ hm
  have k2 := h2
  have lt2 : ∀ x ∈ p2, x.block < W.heap.size := by obtain ⟨m, hm⟩ := k2; exact DataW.trod_lt m _ _ _ hm
  have k3 := h3
  have lt3 : ∀ x ∈ p3, x.block < W.heap.size := by obtain ⟨m, hm⟩ := k3; exact DataW.trod_lt m _ _ _ hm
  have k4 := h4
  have lt4 : ∀ x ∈ p4, x.block < W.heap.size := by obtain ⟨m, hm⟩ := k4; exact DataW.trod_lt m _ _ _ hm
  obtain ⟨u0, z0, y0, x0, n0, rfl, rfl, rfl, t0, s0⟩ := Joins.open_agg2 Try.underlying23 (by kernel_rfl) (by kernel_rfl) (hval 0 23 v0 rfl rfl) h0
  obtain ⟨on, e0, g0⟩ := DataW.trod_bool Try.underlying4 t0
  obtain ⟨calm, e0', g0', w0⟩ := DataW.trod_int Try.underlying3 s0
  simp only [List.cons.injEq, and_true] at e0 e0'
  subst e0
  subst e0'
  obtain ⟨holds, rfl, rfl, rfl⟩ := open_bool Try.underlying4 (hval 1 4 v1 rfl rfl) h1
  obtain ⟨met, rfl, rfl, rfl⟩ := open_bool Try.underlying4 (hval 2 4 v2 rfl rfl) h2
  obtain ⟨fresh, rfl, rfl, rfl⟩ := open_bool Try.underlying4 (hval 3 4 v3 rfl rfl) h3
  obtain ⟨n, rfl, rfl, rfl, wn⟩ := open_int Try.underlying3 (hval 4 3 v4 rfl rfl) h4
  clear hA0 hval0
  refine (steps_any ⟨on, calm⟩ holds met fresh n W).mono fun e W' ⟨he, x, hx⟩ => ?_
  subst he
  subst hx
  have bel := x.below
  exact ⟨_, rfl, _, _, _, [], _, [], hW', trodAll_mk1 (shut_bool Try.underlying4 _), (trodAll_cons_mk (Below.trod laidOut (by kernel_rfl) (of_decide_eq_true (by kernel_rfl)) k0 bel lt0) (trodAll_cons_mk (Below.trod laidOut (by kernel_rfl) (of_decide_eq_true (by kernel_rfl)) k1 bel lt1) (trodAll_cons_mk (Below.trod laidOut (by kernel_rfl) (of_decide_eq_true (by kernel_rfl)) k2 bel lt2) (trodAll_cons_mk (Below.trod laidOut (by kernel_rfl) (of_decide_eq_true (by kernel_rfl)) k3 bel lt3) (trodAll_cons_mk (Below.trod laidOut (by kernel_rfl) (of_decide_eq_true (by kernel_rfl)) k4 bel lt4) trodAll_mk0))))), rfl, bel.frame _, fun h => by cases h⟩
/-- CondSteps: whatever the input, the law returns true, and each argument reads as it did. -/
theorem CondSteps_holds : Rows.CondStepsSaid :=
  OpenClaim.holds_of_wide 3 Try.f3 rfl rfl rfl rfl rfl rfl rfl ⟨rfl, rfl, rfl, rfl, rfl⟩ rfl rfl rfl rfl rfl (by kernel_rfl) Try.func3 (by kernel_rfl)
    (of_decide_eq_true (by kernel_rfl)) (by unfold Func.isWrapper; first | (rw [if_pos (by decide +kernel)]; kernel_rfl) | (rw [if_neg (by decide +kernel)]; exact ⟨rfl, rfl⟩))
    (fun os started H enc _ => CondSteps_lifted os started H enc)
#print axioms CondSteps_holds
end
end Go.Proofs.Ytkgganfbcfojcaa
