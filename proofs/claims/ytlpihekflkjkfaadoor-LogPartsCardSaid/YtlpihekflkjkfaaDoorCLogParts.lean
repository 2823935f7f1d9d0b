/- LogParts: whatever the input, the law returns true, and the input reads as it did; the library's listed variables are tied to the program's text. -/
import Derived.Test.YtlpihekflkjkfaaDoorTied3
import Derived.Test.YtlpihekflkjkfaaDoorOpenS
import Derived.Test.YtlpihekflkjkfaaDoorStp
import Derived.Test.YtlpihekflkjkfaaDoorLg15
namespace Go.Proofs.YtlpihekflkjkfaaDoor
open Go.ChangeShapes Go.WideShapes Go.RowKit

set_option maxRecDepth 100000 in
theorem LogParts_lifted (os : Os) (started : os.Started) (H : Type) (enc : TypeId × Value → H) :
    ReturnsInHanded {} Tryd.checked os 10 .any (fun w args => (Rows.logPartsSpec.pre enc Tryd.prog Tryd.f10 Rows.logPartsRow.domain false w args ∧ laidMetH Tryd.prog Rows.logPartsRow.laid w) ∧ sizedMet enc Tryd.prog Tryd.f10 (OpenSpec.ofChange Rows.logPartsSpec) false w args)
      (Rows.logPartsSpec.post enc Tryd.prog Tryd.f10 false true false false) := by
  refine returnsInHanded_both (C := Tryd.checked) (X := fun w _ => laidMetH Tryd.prog Rows.logPartsRow.laid w) (fun _ _ _ hh h => h.of_heap hh) own started (by kernel_rfl) Tryd.func10
    (ChangeSpec.witness_shaped (enc := enc) (C := Tryd.checked) (os := os) (X := fun w _ => laidMetH Tryd.prog Rows.logPartsRow.laid w) false (tiedWorld3 os) #[.slice none 0 0, .int .u8 0] 8 rfl (tied_shaped3 os _) (by kernel_rfl) (by kernel_rfl) (by kernel_rfl) (laid_met3 os _)) ?_
  intro W base args ds gs before hval0 hW _ hL hsh
  have hval : ∀ (j : Nat) t v, Tryd.f10.params[j]? = some t → args[j]? = some v → Value.okWide Tryd.prog W .any base t v := hval0
  have hW' := hW
  obtain ⟨p, q, hA0, hV, rfl, hfz, hnd⟩ := hW
  have hA : DataW.TrodAll enc Tryd.prog W 0 (fun _ => true) true Tryd.f10.params.toList args.toList ds p := hA0
  rw [Tryd.params10] at hA hval
  obtain ⟨v0, vs0, d0, ds0, p0, q0, hargs, rfl, rfl, h0, s0⟩ := trodAll_cons hA
  obtain ⟨v1, vs1, d1, ds1, p1, q1, rfl, rfl, rfl, h1, s1⟩ := trodAll_cons s0
  obtain ⟨rfl, rfl, rfl⟩ := trodAll_nil s1
  obtain rfl : args = #[v0, v1] := by cases args; simp_all
  obtain ⟨rfl, rfl⟩ := trodVars_none hV
  have k0 := h0
  have lt0 : ∀ x ∈ p0, x.block < W.heap.size := by obtain ⟨m, hm⟩ := k0; exact DataW.trod_lt m _ _ _ hm
  have k1 := h1
  have lt1 : ∀ x ∈ p1, x.block < W.heap.size := by obtain ⟨m, hm⟩ := k1; exact DataW.trod_lt m _ _ _ hm
  obtain ⟨l, wl, ll, r0⟩ := open_relSteps (hval 0 48 v0 rfl rfl) h0
  obtain ⟨zn, rfl, rfl, rfl, wn⟩ := open_int Tryd.underlying5 (hval 1 5 v1 rfl rfl) h1
  obtain ⟨n, rfl, nn⟩ := nat_u8 wn
  clear hA0 hval0
  refine (ACall.lift (args := [.list false 57 (l.map encS), .lit (.int .u8 (n : Int))]) (vs := [v0, _]) (LogParts_any l n (by omega) (fun x hx e he => ((wl x hx).1 e he).2) ll (fun x hx => (wl x hx).2) noM) (start_fix hsh (tab_of hL) (errs_of hL)) rfl (by intro j x v hx hv; match j, hx, hv with | 0, hx, hv => cases hx; cases hv; exact r0 | 1, hx, hv => cases hx; cases hv; exact .lit _ | _ + 2, hx, hv => cases hx)).mono fun e W' ⟨he, bel⟩ => ?_
  subst he
  exact ⟨_, rfl, _, _, _, [], _, [], hW', trodAll_mk1 (shut_bool Tryd.underlying4 _), (trodAll_cons_mk (Below.trod laidOut (by kernel_rfl) (of_decide_eq_true (by kernel_rfl)) k0 bel lt0) (trodAll_cons_mk (Below.trod laidOut (by kernel_rfl) (of_decide_eq_true (by kernel_rfl)) k1 bel lt1) trodAll_mk0)), rfl, bel.frame _, fun h => by cases h⟩
theorem LogParts_row : Rows.LogPartsSaid :=
  OpenClaim.holds_of_wide 10 Tryd.f10 rfl rfl rfl rfl rfl rfl rfl ⟨rfl, rfl, rfl, rfl, rfl⟩ rfl rfl rfl rfl rfl (by kernel_rfl) Tryd.func10 (by kernel_rfl)
    (of_decide_eq_true (by kernel_rfl)) (by unfold Func.isWrapper; first | (rw [if_pos (by decide +kernel)]; kernel_rfl) | (rw [if_neg (by decide +kernel)]; exact ⟨rfl, rfl⟩))
    (fun os started H enc _ => LogParts_lifted os started H enc)
/-- LogParts: whatever the input, the law returns true, and each argument reads as it did; the variables that are listed are tied to the program's text. -/
theorem LogParts_holds : Rows.LogPartsCardSaid :=
  Claim7.holds_tied_plain_at .later [] Rows.logPartsCard.laidKinds true Rows.logPartsCard.stood.harness Rows.logPartsCard.stood.looks LogParts_row (fun _ h => by cases h) (by kernel_rfl) (fun _ h => by cases h) logParts_row_tie rfl ⟨rfl, rfl⟩ (by kernel_rfl) rfl
    (fun f fn hf hfn => by
      obtain rfl : f = 10 := Option.some.inj ((show Tryd.prog.funcNamed "bilge/bilgelaw27.LogParts" = some 10 by kernel_rfl).symm.trans hf) |>.symm
      obtain rfl : fn = Tryd.f10 := (Option.some.inj (Tryd.func10.symm.trans hfn)).symm
      exact ⟨by kernel_rfl, fun j t ht => by
        rw [Tryd.params10] at ht
        have hm : t ∈ [48, 5] := by have := Array.mem_of_getElem? ht; simp at this ⊢; omega
        have hall : ([48, 5].all fun u => !Tryd.prog.wantsStandIn u) = true := by kernel_rfl
        exact (show Tryd.prog.wantsStandIn t = false by simpa using List.all_eq_true.1 hall t hm)⟩)
    (by kernel_rfl)
#print axioms LogParts_holds
end Go.Proofs.YtlpihekflkjkfaaDoor
