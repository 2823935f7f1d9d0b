/- LogAll: whatever the input, the law returns true, and the input reads as it did; the library's listed variables are tied to the program's text. -/
import Derived.Test.YtlpihekflkjkfaaDoorTied3
import Derived.Test.YtlpihekflkjkfaaDoorOpenS
import Derived.Test.YtlpihekflkjkfaaDoorStpA
import Derived.Test.YtlpihekflkjkfaaDoorLg14
namespace Go.Proofs.YtlpihekflkjkfaaDoor
open Go.ChangeShapes Go.WideShapes Go.RowKit

set_option maxRecDepth 100000 in
theorem LogAll_lifted (os : Os) (started : os.Started) (H : Type) (enc : TypeId × Value → H) :
    ReturnsInHanded {} Tryd.checked os 9 .any (fun w args => (Rows.logAllSpec.pre enc Tryd.prog Tryd.f9 Rows.logAllRow.domain false w args ∧ laidMetH Tryd.prog Rows.logAllRow.laid w) ∧ sizedMet enc Tryd.prog Tryd.f9 (OpenSpec.ofChange Rows.logAllSpec) false w args)
      (Rows.logAllSpec.post enc Tryd.prog Tryd.f9 false true false false) := by
  refine returnsInHanded_both (C := Tryd.checked) (X := fun w _ => laidMetH Tryd.prog Rows.logAllRow.laid w) (fun _ _ _ hh h => h.of_heap hh) own started (by kernel_rfl) Tryd.func9
    (ChangeSpec.witness_shaped (enc := enc) (C := Tryd.checked) (os := os) (X := fun w _ => laidMetH Tryd.prog Rows.logAllRow.laid w) false (tiedWorld3 os) #[.slice none 0 0] 8 rfl (tied_shaped3 os _) (by kernel_rfl) (by kernel_rfl) (by kernel_rfl) (laid_met3 os _)) ?_
  intro W base args ds gs before hval0 hW _ hL hsh
  have hval : ∀ (j : Nat) t v, Tryd.f9.params[j]? = some t → args[j]? = some v → Value.okWide Tryd.prog W .any base t v := hval0
  have hW' := hW
  obtain ⟨p, q, hA0, hV, rfl, hfz, hnd⟩ := hW
  have hA : DataW.TrodAll enc Tryd.prog W 0 (fun _ => true) true Tryd.f9.params.toList args.toList ds p := hA0
  rw [Tryd.params9] at hA hval
  obtain ⟨v0, vs0, d0, ds0, p0, q0, hargs, rfl, rfl, h0, s0⟩ := trodAll_cons hA
  obtain ⟨rfl, rfl, rfl⟩ := trodAll_nil s0
  obtain rfl : args = #[v0] := by cases args; simp_all
  obtain ⟨rfl, rfl⟩ := trodVars_none hV
  have k0 := h0
  have lt0 : ∀ x ∈ p0, x.block < W.heap.size := by obtain ⟨m, hm⟩ := k0; exact DataW.trod_lt m _ _ _ hm
  obtain ⟨l, wl, ll, r0⟩ := open_relSteps (hval 0 48 v0 rfl rfl) h0
  clear hA0 hval0
  refine (ACall.lift (args := [.list false 57 (l.map encS)]) (vs := [v0]) (LogAll_any l (fun x hx e he => ((wl x hx).1 e he).2) ll (fun x hx => (wl x hx).2) noM) (start_fix hsh (tab_of hL) (errs_of hL)) rfl (by intro j x v hx hv; match j, hx, hv with | 0, hx, hv => cases hx; cases hv; exact r0 | _ + 1, hx, hv => cases hx)).mono fun e W' ⟨he, bel⟩ => ?_
  subst he
  exact ⟨_, rfl, _, _, _, [], _, [], hW', trodAll_mk1 (shut_bool Tryd.underlying4 _), (trodAll_cons_mk (Below.trod laidOut (by kernel_rfl) (of_decide_eq_true (by kernel_rfl)) k0 bel lt0) trodAll_mk0), rfl, bel.frame _, fun h => by cases h⟩
theorem LogAll_row : Rows.LogAllSaid :=
  OpenClaim.holds_of_wide 9 Tryd.f9 rfl rfl rfl rfl rfl rfl rfl ⟨rfl, rfl, rfl, rfl, rfl⟩ rfl rfl rfl rfl rfl (by kernel_rfl) Tryd.func9 (by kernel_rfl)
    (of_decide_eq_true (by kernel_rfl)) (by unfold Func.isWrapper; first | (rw [if_pos (by decide +kernel)]; kernel_rfl) | (rw [if_neg (by decide +kernel)]; exact ⟨rfl, rfl⟩))
    (fun os started H enc _ => LogAll_lifted os started H enc)
/-- LogAll: whatever the input, the law returns true, and each argument reads as it did; the variables that are listed are tied to the program's text. -/
theorem LogAll_holds : Rows.LogAllCardSaid :=
  Claim7.holds_tied_plain_at .later [] Rows.logAllCard.laidKinds true Rows.logAllCard.stood.harness Rows.logAllCard.stood.looks LogAll_row (fun _ h => by cases h) (by kernel_rfl) (fun _ h => by cases h) logAll_row_tie rfl ⟨rfl, rfl⟩ (by kernel_rfl) rfl
    (fun f fn hf hfn => by
      obtain rfl : f = 9 := Option.some.inj ((show Tryd.prog.funcNamed "bilge/bilgelaw27.LogAll" = some 9 by kernel_rfl).symm.trans hf) |>.symm
      obtain rfl : fn = Tryd.f9 := (Option.some.inj (Tryd.func9.symm.trans hfn)).symm
      exact ⟨by kernel_rfl, fun j t ht => by
        rw [Tryd.params9] at ht
        have hm : t ∈ [48] := by have := Array.mem_of_getElem? ht; simp at this ⊢; omega
        have hall : ([48].all fun u => !Tryd.prog.wantsStandIn u) = true := by kernel_rfl
        exact (show Tryd.prog.wantsStandIn t = false by simpa using List.all_eq_true.1 hall t hm)⟩)
    (by kernel_rfl)
#print axioms LogAll_holds
end Go.Proofs.YtlpihekflkjkfaaDoor
