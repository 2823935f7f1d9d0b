/- LogLines: whatever the input, the law returns true, and the input reads as it did; the library's listed variables are tied to the program's text. -/
import Derived.Test.YtlpihekflkjkfaaDoorTied3
import Derived.Test.YtlpihekflkjkfaaDoorOpenS
import Derived.Test.YtlpihekflkjkfaaDoorLg11
namespace Go.Proofs.YtlpihekflkjkfaaDoor
open Go.ChangeShapes Go.WideShapes Go.RowKit

set_option maxRecDepth 100000 in
theorem LogLines_lifted (os : Os) (started : os.Started) (H : Type) (enc : TypeId × Value → H) :
    ReturnsInHanded {} Tryd.checked os 5 .any (fun w args => (Rows.logLinesSpec.pre enc Tryd.prog Tryd.f5 Rows.logLinesRow.domain false w args ∧ laidMetH Tryd.prog Rows.logLinesRow.laid w) ∧ sizedMet enc Tryd.prog Tryd.f5 (OpenSpec.ofChange Rows.logLinesSpec) false w args)
      (Rows.logLinesSpec.post enc Tryd.prog Tryd.f5 false true false false) := by
  refine returnsInHanded_both (C := Tryd.checked) (X := fun w _ => laidMetH Tryd.prog Rows.logLinesRow.laid w) (fun _ _ _ hh h => h.of_heap hh) own started (by kernel_rfl) Tryd.func5
    (ChangeSpec.witness_shaped (enc := enc) (C := Tryd.checked) (os := os) (X := fun w _ => laidMetH Tryd.prog Rows.logLinesRow.laid w) false (tiedWorld3 os) #[.int .i64 0, .agg #[.int .i64 0, .string ⟨#[]⟩, .int .i64 0, .int .i64 0]] 8 rfl (tied_shaped3 os _) (by kernel_rfl) (by kernel_rfl) (by kernel_rfl) (laid_met3 os _)) ?_
  intro W base args ds gs before hval0 hW _ hL hsh
  have hval : ∀ (j : Nat) t v, Tryd.f5.params[j]? = some t → args[j]? = some v → Value.okWide Tryd.prog W .any base t v := hval0
  have hW' := hW
  obtain ⟨p, q, hA0, hV, rfl, hfz, hnd⟩ := hW
  have hA : DataW.TrodAll enc Tryd.prog W 0 (fun _ => true) true Tryd.f5.params.toList args.toList ds p := hA0
  rw [Tryd.params5] at hA hval
  obtain ⟨v0, vs0, d0, ds0, p0, q0, hargs, rfl, rfl, h0, s0⟩ := trodAll_cons hA
  obtain ⟨v1, vs1, d1, ds1, p1, q1, rfl, rfl, rfl, h1, s1⟩ := trodAll_cons s0
  obtain ⟨rfl, rfl, rfl⟩ := trodAll_nil s1
  obtain rfl : args = #[v0, v1] := by cases args; simp_all
  obtain ⟨rfl, rfl⟩ := trodVars_none hV
  have k0 := h0
  have lt0 : ∀ x ∈ p0, x.block < W.heap.size := by obtain ⟨m, hm⟩ := k0; exact DataW.trod_lt m _ _ _ hm
  have k1 := h1
  have lt1 : ∀ x ∈ p1, x.block < W.heap.size := by obtain ⟨m, hm⟩ := k1; exact DataW.trod_lt m _ _ _ hm
  obtain ⟨r, rfl, rfl, rfl, wr⟩ := open_int Tryd.underlying3 (hval 0 3 v0 rfl rfl) h0
  obtain ⟨e, rfl, we⟩ := open_ev Tryd.underlying34 Tryd.underlying3 Tryd.underlying9 Tryd.underlying3 Tryd.underlying3 ⟨rfl, rfl, rfl, rfl⟩ ⟨by kernel_rfl, by kernel_rfl, by kernel_rfl, by kernel_rfl⟩ (by kernel_rfl) (hval 1 34 v1 rfl rfl) h1
  clear hA0 hval0
  refine (ACall.lift (args := [.lit (.int .i64 r), encE e]) (vs := [_, _]) (LogLines_any r e we noM) (start_fix hsh (tab_of hL) (errs_of hL)) rfl (by intro j x v hx hv; match j, hx, hv with | 0, hx, hv => cases hx; cases hv; exact .lit _ | 1, hx, hv => cases hx; cases hv; exact rel_ev _ | _ + 2, hx, hv => cases hx)).mono fun e W' ⟨he, bel⟩ => ?_
  subst he
  exact ⟨_, rfl, _, _, _, [], _, [], hW', trodAll_mk1 (shut_bool Tryd.underlying4 _), (trodAll_cons_mk (Below.trod laidOut (by kernel_rfl) (of_decide_eq_true (by kernel_rfl)) k0 bel lt0) (trodAll_cons_mk (Below.trod laidOut (by kernel_rfl) (of_decide_eq_true (by kernel_rfl)) k1 bel lt1) trodAll_mk0)), rfl, bel.frame _, fun h => by cases h⟩
theorem LogLines_row : Rows.LogLinesSaid :=
  OpenClaim.holds_of_wide 5 Tryd.f5 rfl rfl rfl rfl rfl rfl rfl ⟨rfl, rfl, rfl, rfl, rfl⟩ rfl rfl rfl rfl rfl (by kernel_rfl) Tryd.func5 (by kernel_rfl)
    (of_decide_eq_true (by kernel_rfl)) (by unfold Func.isWrapper; first | (rw [if_pos (by decide +kernel)]; kernel_rfl) | (rw [if_neg (by decide +kernel)]; exact ⟨rfl, rfl⟩))
    (fun os started H enc _ => LogLines_lifted os started H enc)
/-- LogLines: whatever the input, the law returns true, and each argument reads as it did; the variables that are listed are tied to the program's text. -/
theorem LogLines_holds : Rows.LogLinesCardSaid :=
  Claim7.holds_tied_plain_at .later [] Rows.logLinesCard.laidKinds true Rows.logLinesCard.stood.harness Rows.logLinesCard.stood.looks LogLines_row (fun _ h => by cases h) (by kernel_rfl) (fun _ h => by cases h) logLines_row_tie rfl ⟨rfl, rfl⟩ (by kernel_rfl) rfl
    (fun f fn hf hfn => by
      obtain rfl : f = 5 := Option.some.inj ((show Tryd.prog.funcNamed "bilge/bilgelaw27.LogLines" = some 5 by kernel_rfl).symm.trans hf) |>.symm
      obtain rfl : fn = Tryd.f5 := (Option.some.inj (Tryd.func5.symm.trans hfn)).symm
      exact ⟨by kernel_rfl, fun j t ht => by
        rw [Tryd.params5] at ht
        have hm : t ∈ [3, 34] := by have := Array.mem_of_getElem? ht; simp at this ⊢; omega
        have hall : ([3, 34].all fun u => !Tryd.prog.wantsStandIn u) = true := by kernel_rfl
        exact (show Tryd.prog.wantsStandIn t = false by simpa using List.all_eq_true.1 hall t hm)⟩)
    (by kernel_rfl)
#print axioms LogLines_holds
end Go.Proofs.YtlpihekflkjkfaaDoor
