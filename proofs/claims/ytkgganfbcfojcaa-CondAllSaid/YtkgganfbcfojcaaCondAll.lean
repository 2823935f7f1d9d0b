/- CondAll: whatever the input, the law returns true. -/
import Derived.Test.YtkgganfbcfojcaaCondL
import Derived.Test.YtkgganfbcfojcaaCondR
import Derived.Test.YtkgganfbcfojcaaCondS
import Derived.Test.YtkgganfbcfojcaaMem2
import Derived.Test.YtkgganfbcfojcaaOpen
import Derived.Test.YtkgganfbcfojcaaEq
namespace Go.Proofs.Ytkgganfbcfojcaa
open Go.RowKit

theorem eql_conds3 (q0 q1 q2 : Bool) (k0 k1 k2 : Int) (w : World) :
    (binOp .eql 37 (.agg #[.bool q0, .int .i64 k0, .bool q1, .int .i64 k1, .bool q2, .int .i64 k2]) (.agg #[.bool q0, .int .i64 k0, .bool q1, .int .i64 k1, .bool q2, .int .i64 k2])).run Try.prog w = .ok (.bool true) w := by
  rw [run_eql_struct, run_equalIn_array w 9999 37 23 3 2 _ _ Try.underlying37 (fun _ => by kernel_rfl)]
  simp [List.range, List.range.loop, eqElems, go_sem]

def rightAll (o0 o1 o2 : Bool) (n0 n1 n2 n : Int) (k : Nat) : Prop := (0 < k → rightF ⟨o0, n0⟩ n = true) ∧ (1 < k → rightF ⟨o1, n1⟩ n = true) ∧ (2 < k → rightF ⟨o2, n2⟩ n = true)



set_option maxHeartbeats 400000 in
theorem allLaw_any (o0 o1 o2 : Bool) (n0 n1 n2 : Int) (h m : Nat → Bool) (fresh : Bool) (n : Int) (w : World) :
    Calls Try.prog 8 #[.agg #[.bool o0, .int .i64 n0, .bool o1, .int .i64 n1, .bool o2, .int .i64 n2], .agg #[.bool (h 0), .bool (h 1), .bool (h 2)], .agg #[.bool (m 0), .bool (m 1), .bool (m 2)], .bool fresh, .int .i64 n] w (RetE w (.bool true)) := by
  have hpp := fun W => period_any n W
  cases hp : periodF n
  · simp only [hp] at hpp
    have HP := Lib.hid hpp
    clear hp hpp
    go_enter Try.func8, Try.ntmps8
    go_wp2_with (first | (go_at_call 10; refine (awake_any _).mono ?_; rintro e w1 ⟨rfl, x1, rfl⟩) | (go_at_call 13; refine (HP.out _).mono ?_; rintro e w1 ⟨rfl, x1, rfl⟩))
    refine fin_ret (v := .bool _) ?_ rfl ?_
    · refine (results_tmp rfl _ _ _).trans ?_
      refine congrArg (fun b => Result.ok (Value.bool b) _) ?_
      rfl
    · exact Keeps.out
  · simp only [hp] at hpp
    have HP := Lib.hid hpp
    have HPP := Lib.hid hp
    clear hp hpp
    go_enter Try.func8, Try.ntmps8
    go_wp2_with (first | (go_at_call 10; refine (awake_any _).mono ?_; rintro e w1 ⟨rfl, x1, rfl⟩) | (go_at_call 13; refine (HP.out _).mono ?_; rintro e w1 ⟨rfl, x1, rfl⟩))
    go_loopw [11] (fun i wr => ∃ k : Nat, k ≤ 3 ∧ i = .int .i64 k ∧ rightAll o0 o1 o2 n0 n1 n2 n k ∧ ∃ x : Ext (((w.alloc (.cells #[.bool o0, .int .i64 n0, .bool o1, .int .i64 n1, .bool o2, .int .i64 n2] 37)).alloc (.cells #[.bool (h 0), .bool (h 1), .bool (h 2)] 38)).alloc (.cells #[.bool (m 0), .bool (m 1), .bool (m 2)] 38)), wr = x.val) (fun i _ => 3 - (intOf i).toNat)
    case atStart =>
      exact ⟨0, by omega, rfl, ⟨fun h => by omega, fun h => by omega, fun h => by omega⟩, exists_ext⟩
    case round =>
      obtain ⟨k, hk, hi, hra, x, rfl⟩ := hrel
      obtain rfl | rfl | rfl | rfl : k = 0 ∨ k = 1 ∨ k = 2 ∨ k = 3 := by omega
      · replace hi : _ = Value.int .i64 0 := hi
        subst hi
        have HRA := Lib.hid hra
        clear hra
        have hrr := fun W => rright_any ⟨o0, n0⟩ n W
        cases hr : rightF ⟨o0, n0⟩ n
        · simp only [hr] at hrr
          have HRR := Lib.hid hrr
          clear hr hrr
          go_wp2_with (go_at_call 12; refine (HRR.out _).mono ?_; rintro e w1 ⟨rfl, x1, rfl⟩)
          refine fin_ret (v := .bool _) ?_ rfl ?_
          · refine (results_tmp rfl _ _ _).trans ?_
            refine congrArg (fun b => Result.ok (Value.bool b) _) ?_
            rfl
          · exact Keeps.out
        · simp only [hr] at hrr
          have HRR := Lib.hid hrr
          have HR := Lib.hid hr
          clear hr hrr
          go_wp2_with (go_at_call 12; refine (HRR.out _).mono ?_; rintro e w1 ⟨rfl, x1, rfl⟩)
          go_roundw
          case rel =>
            refine ⟨0 + 1, by omega, rfl, ?_, exists_ext⟩
            have := HRA.out
            exact ⟨fun h => by first | exact HR.out | exact this.1 (by omega), fun h => by first | exact HR.out | exact this.2.1 (by omega) | omega, fun h => by first | exact HR.out | exact this.2.2 (by omega) | omega⟩
          case measure => simp [intOf]
      · replace hi : _ = Value.int .i64 1 := hi
        subst hi
        have HRA := Lib.hid hra
        clear hra
        have hrr := fun W => rright_any ⟨o1, n1⟩ n W
        cases hr : rightF ⟨o1, n1⟩ n
        · simp only [hr] at hrr
          have HRR := Lib.hid hrr
          clear hr hrr
          go_wp2_with (go_at_call 12; refine (HRR.out _).mono ?_; rintro e w1 ⟨rfl, x1, rfl⟩)
          refine fin_ret (v := .bool _) ?_ rfl ?_
          · refine (results_tmp rfl _ _ _).trans ?_
            refine congrArg (fun b => Result.ok (Value.bool b) _) ?_
            rfl
          · exact Keeps.out
        · simp only [hr] at hrr
          have HRR := Lib.hid hrr
          have HR := Lib.hid hr
          clear hr hrr
          go_wp2_with (go_at_call 12; refine (HRR.out _).mono ?_; rintro e w1 ⟨rfl, x1, rfl⟩)
          go_roundw
          case rel =>
            refine ⟨1 + 1, by omega, rfl, ?_, exists_ext⟩
            have := HRA.out
            exact ⟨fun h => by first | exact HR.out | exact this.1 (by omega), fun h => by first | exact HR.out | exact this.2.1 (by omega) | omega, fun h => by first | exact HR.out | exact this.2.2 (by omega) | omega⟩
          case measure => simp [intOf]
      · replace hi : _ = Value.int .i64 2 := hi
        subst hi
        have HRA := Lib.hid hra
        clear hra
        have hrr := fun W => rright_any ⟨o2, n2⟩ n W
        cases hr : rightF ⟨o2, n2⟩ n
        · simp only [hr] at hrr
          have HRR := Lib.hid hrr
          clear hr hrr
          go_wp2_with (go_at_call 12; refine (HRR.out _).mono ?_; rintro e w1 ⟨rfl, x1, rfl⟩)
          refine fin_ret (v := .bool _) ?_ rfl ?_
          · refine (results_tmp rfl _ _ _).trans ?_
            refine congrArg (fun b => Result.ok (Value.bool b) _) ?_
            rfl
          · exact Keeps.out
        · simp only [hr] at hrr
          have HRR := Lib.hid hrr
          have HR := Lib.hid hr
          clear hr hrr
          go_wp2_with (go_at_call 12; refine (HRR.out _).mono ?_; rintro e w1 ⟨rfl, x1, rfl⟩)
          go_roundw
          case rel =>
            refine ⟨2 + 1, by omega, rfl, ?_, exists_ext⟩
            have := HRA.out
            exact ⟨fun h => by first | exact HR.out | exact this.1 (by omega), fun h => by first | exact HR.out | exact this.2.1 (by omega) | omega, fun h => by first | exact HR.out | exact this.2.2 (by omega) | omega⟩
          case measure => simp [intOf]
      · replace hi : _ = Value.int .i64 3 := hi
        subst hi
        have r0 := hra.1 (by omega)
        have r1 := hra.2.1 (by omega)
        have r2 := hra.2.2 (by omega)
        have b0 := step_bd HPP.out r0
        have b1 := step_bd HPP.out r1
        have b2 := step_bd HPP.out r2
        simp only at b0 b1 b2
        obtain ⟨d, hd⟩ : ∃ d : Nat → CC, d = fun i => stepF (c3 o0 o1 o2 n0 n1 n2 i) (h i) (m i) fresh n := ⟨_, rfl⟩
        have HA := Lib.hid (fun W => all_any o0 o1 o2 n0 n1 n2 h m fresh n W b0 b1 b2 d hd)
        have HB := Lib.hid (fun W => rall_any o0 o1 o2 n0 n1 n2 h m fresh n W b0 b1 b2 r0 r1 r2 d hd)
        clear hd r0 r1 r2 b0 b1 b2 hra
        go_wp2_with fail
        refine (HA.out _).mono ?_
        rintro e w1 ⟨v, rfl, ⟨x1, rfl⟩, ev, k, rfl, hown⟩
        have hl : k = (evs (c3 o0 o1 o2 n0 n1 n2) d 3).length := by
          have := hown.1
          rw [evs_cells] at this
          omega
        subst hl
        have H1 := Lib.hid (Reads.of_own hown)
        clear hown
        simp only [cells3]
        go_wp2_with fail
        refine (HB.out _).mono ?_
        rintro e w1 ⟨v, rfl, ⟨x2, rfl⟩, ev2, k, rfl, hown⟩
        have hl : k = (evs (c3 o0 o1 o2 n0 n1 n2) d 3).length := by
          have := hown.1
          rw [evs_cells] at this
          omega
        subst hl
        have H2 := Lib.hid (Reads.of_own hown)
        clear hown
        simp only [cells3]
        have hq := fun w => eql_conds3 (d 0).on (d 1).on (d 2).on (d 0).calm (d 1).calm (d 2).calm w
        go_wp2_with fail
        refine (same_any ev ev2 (evs (c3 o0 o1 o2 n0 n1 n2) d 3) _ ?r1 ?r2).mono ?_
        case r1 => exact H1.out.keeps
        case r2 => exact H2.out.keeps
        rintro e w1 ⟨rfl, x3, rfl⟩
        go_wp2_with fail
        refine fin_ret (v := .bool _) ?_ rfl ?_
        · refine (results_tmp rfl _ _ _).trans ?_
          refine congrArg (fun b => Result.ok (Value.bool b) _) ?_
          rfl
        · exact Keeps.out

section
open Go.ChangeShapes Go.WideShapes Go.ChangeAt
open Go.ChangeMaps (open_string shut_string)
set_option maxRecDepth 100000 in
theorem CondAll_lifted (os : Os) (started : os.Started) (H : Type) (enc : TypeId × Value → H) :
    ReturnsInHanded {} Try.checked os 8 .any (Rows.condAllSpec.pre6 enc Try.prog Try.f8 Rows.condAllRow.domain false) (Rows.condAllSpec.post enc Try.prog Try.f8 false true false false) := by
  refine returnsInHanded_of_change (C := Try.checked) own started (by kernel_rfl) Try.func8
    (ChangeSpec.witness6 (enc := enc) (C := Try.checked) false ⟨#[], #[.agg #[.bool false, .int .i64 0, .bool false, .int .i64 0, .bool false, .int .i64 0], .agg #[.bool false, .bool false, .bool false], .agg #[.bool false, .bool false, .bool false], .bool false, .int .i64 0], []⟩ 8 (by kernel_rfl) (by kernel_rfl) (by kernel_rfl) (by kernel_rfl)) ?_
  intro W base args ds gs before hval0 hW hcnd _
  have hval : ∀ (j : Nat) t v, Try.f8.params[j]? = some t → args[j]? = some v → Value.okWide Try.prog W .any base t v := hval0
  have hW' := hW
  obtain ⟨p, q, hA0, hV, rfl, hfz, hnd⟩ := hW
  have hA : DataW.TrodAll enc Try.prog W 0 (fun _ => true) true Try.f8.params.toList args.toList ds p := hA0
  rw [Try.params8] at hA hval
  obtain ⟨v0, vs0, d0, ds0, p0, q0, hargs, rfl, rfl, h0, r0⟩ := trodAll_cons hA
  obtain ⟨v1, vs1, d1, ds1, p1, q1, rfl, rfl, rfl, h1, r1⟩ := trodAll_cons r0
  obtain ⟨v2, vs2, d2, ds2, p2, q2, rfl, rfl, rfl, h2, r2⟩ := trodAll_cons r1
  obtain ⟨v3, vs3, d3, ds3, p3, q3, rfl, rfl, rfl, h3, r3⟩ := trodAll_cons r2
  obtain ⟨v4, vs4, d4, ds4, p4, q4, rfl, rfl, rfl, h4, r4⟩ := trodAll_cons r3
  obtain ⟨rfl, rfl, rfl⟩ := trodAll_nil r4
  obtain rfl : args = #[v0, v1, v2, v3, v4] := by cases args; simp_all
  obtain ⟨rfl, rfl⟩ := trodVars_none hV
  have k0 := h0
  have lt0 : ∀ x ∈ p0, x.block < W.heap.size := by obtain ⟨m, hm⟩ := k0; exact DataW.trod_lt m _ _ _ hm
  have k1 := h1
  have lt1 : ∀ x ∈ p1, x.block < W.heap.size := by obtain ⟨m, hm⟩ := k1; exact DataW.trod_lt m _ _ _ hm
  have k2 := h2
  have lt2 : ∀ x ∈ p2, x.block < W.heap.size := by obtain ⟨m, hm⟩ := k2; exact DataW.trod_lt m _ _ _ hm
  have k3 := h3
  have lt3 : ∀ x ∈ p3, x.block < W.heap.size := by obtain ⟨m, hm⟩ := k3; exact DataW.trod_lt m _ _ _ hm
  have k4 := h4
  have lt4 : ∀ x ∈ p4, x.block < W.heap.size := by obtain ⟨m, hm⟩ := k4; exact DataW.trod_lt m _ _ _ hm
  obtain ⟨o0, o1, o2, n0, n1, n2, rfl⟩ := open_conds3 Try.underlying37 Try.underlying23 Try.underlying4 Try.underlying3 ⟨rfl, rfl, by kernel_rfl, by kernel_rfl⟩ (by kernel_rfl) (by kernel_rfl) (hval 0 37 v0 rfl rfl) h0
  obtain ⟨h, rfl⟩ := open_bools3 Try.underlying38 Try.underlying4 (by kernel_rfl) (by kernel_rfl) (hval 1 38 v1 rfl rfl) h1
  obtain ⟨m, rfl⟩ := open_bools3 Try.underlying38 Try.underlying4 (by kernel_rfl) (by kernel_rfl) (hval 2 38 v2 rfl rfl) h2
  obtain ⟨fresh, rfl, rfl, rfl⟩ := open_bool Try.underlying4 (hval 3 4 v3 rfl rfl) h3
  obtain ⟨n, rfl, rfl, rfl, wn⟩ := open_int Try.underlying3 (hval 4 3 v4 rfl rfl) h4
  clear hA0 hval0
  refine (allLaw_any o0 o1 o2 n0 n1 n2 h m fresh n W).mono fun e W' ⟨he, x, hx⟩ => ?_
  subst he
  subst hx
  have bel := x.below
  exact ⟨_, rfl, _, _, _, [], _, [], hW', trodAll_mk1 (shut_bool Try.underlying4 _), (trodAll_cons_mk (Below.trod laidOut (by kernel_rfl) (of_decide_eq_true (by kernel_rfl)) k0 bel lt0) (trodAll_cons_mk (Below.trod laidOut (by kernel_rfl) (of_decide_eq_true (by kernel_rfl)) k1 bel lt1) (trodAll_cons_mk (Below.trod laidOut (by kernel_rfl) (of_decide_eq_true (by kernel_rfl)) k2 bel lt2) (trodAll_cons_mk (Below.trod laidOut (by kernel_rfl) (of_decide_eq_true (by kernel_rfl)) k3 bel lt3) (trodAll_cons_mk (Below.trod laidOut (by kernel_rfl) (of_decide_eq_true (by kernel_rfl)) k4 bel lt4) trodAll_mk0))))), rfl, bel.frame _, fun h => by cases h⟩
/-- CondAll: whatever the input, the law returns true, and each argument reads as it did. -/
theorem CondAll_holds : Rows.CondAllSaid :=
  OpenClaim.holds_of_wide 8 Try.f8 rfl rfl rfl rfl rfl rfl rfl ⟨rfl, rfl, rfl, rfl, rfl⟩ rfl rfl rfl rfl rfl (by kernel_rfl) Try.func8 (by kernel_rfl)
    (of_decide_eq_true (by kernel_rfl)) (by unfold Func.isWrapper; first | (rw [if_pos (by decide +kernel)]; kernel_rfl) | (rw [if_neg (by decide +kernel)]; exact ⟨rfl, rfl⟩))
    (fun os started H enc _ => CondAll_lifted os started H enc)
#print axioms CondAll_holds
end
end Go.Proofs.Ytkgganfbcfojcaa
