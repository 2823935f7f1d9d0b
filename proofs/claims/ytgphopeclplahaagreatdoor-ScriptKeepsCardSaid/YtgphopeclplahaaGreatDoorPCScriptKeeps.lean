/- CScriptKeeps. -/
import Derived.Test.YtgphopeclplahaaGreatDoorPTied3
import Derived.Test.YtgphopeclplahaaGreatDoorM5
import Derived.Test.YtgphopeclplahaaGreatDoorM9
namespace Go.Proofs.YtgphopeclplahaaGreatDoor
open Go.ChangeShapes Go.WideShapes Go.RowKit

set_option maxRecDepth 100000 in
theorem ScriptKeeps_lifted (os : Os) (started : os.Started) (H : Type) (enc : TypeId × Value → H) :
    ReturnsInHanded {} Tryz.checked os 10 .any (fun w args => (Rows.scriptKeepsSpec.pre enc Tryz.prog Tryz.f10 Rows.scriptKeepsRow.domain false w args ∧ laidMetH Tryz.prog Rows.scriptKeepsRow.laid w) ∧ sizedMet enc Tryz.prog Tryz.f10 (OpenSpec.ofChange Rows.scriptKeepsSpec) false w args)
      (Rows.scriptKeepsSpec.post enc Tryz.prog Tryz.f10 false true false false) := by
  refine returnsInHanded_both (C := Tryz.checked) (X := fun w _ => laidMetH Tryz.prog Rows.scriptKeepsRow.laid w) (fun _ _ _ hh h => h.of_heap hh) own started (by kernel_rfl) Tryz.func10
    (ChangeSpec.witness_shaped (enc := enc) (C := Tryz.checked) (os := os) (X := fun w _ => laidMetH Tryz.prog Rows.scriptKeepsRow.laid w) false (tiedWorld3 os) #[.slice none 0 0] 8 rfl (tied_shaped3 os _) (by kernel_rfl) (by kernel_rfl) (by kernel_rfl) (laid_met3 os _)) ?_
  intro W base args ds gs before hval0 hW _ hL hsh
  have hval : ∀ (j : Nat) t v, Tryz.f10.params[j]? = some t → args[j]? = some v → Value.okWide Tryz.prog W .any base t v := hval0
  have hW' := hW
  obtain ⟨p, q, hA0, hV, rfl, hfz, hnd⟩ := hW
  have hA : DataW.TrodAll enc Tryz.prog W 0 (fun _ => true) true Tryz.f10.params.toList args.toList ds p := hA0
  rw [Tryz.params10] at hA hval
  obtain ⟨v0, vs0, d0, ds0, p0, q0, hargs, rfl, rfl, h0, s0⟩ := trodAll_cons hA
  obtain ⟨rfl, rfl, rfl⟩ := trodAll_nil s0
  obtain rfl : args = #[v0] := by cases args; simp_all
  obtain ⟨rfl, rfl⟩ := trodVars_none hV
  have k0 := h0
  have lt0 : ∀ x ∈ p0, x.block < W.heap.size := by obtain ⟨m, hm⟩ := k0; exact DataW.trod_lt m _ _ _ hm
  obtain ⟨b, r0⟩ := open_relBytes Tryz.underlying33 Tryz.underlying5 (by kernel_rfl) sizeOf_5 (hval 0 33 v0 rfl rfl) h0
  clear hA0 hval0
  refine (ACall.lift (args := [.list false 5 (byteAVs b)]) (vs := [v0]) (ScriptKeeps_any b noM) (start_fix hsh (tab_of hL) (errs_of hL)) rfl (by intro j x v hx hv; match j, hx, hv with | 0, hx, hv => cases hx; cases hv; exact r0 | _ + 1, hx, hv => cases hx)).mono fun e W' ⟨he, bel⟩ => ?_
  subst he
  exact ⟨_, rfl, _, _, _, [], _, [], hW', trodAll_mk1 (shut_bool Tryz.underlying4 _), (trodAll_cons_mk (Below.trod laidOut (by kernel_rfl) (of_decide_eq_true (by kernel_rfl)) k0 bel lt0) trodAll_mk0), rfl, bel.frame _, fun h => by cases h⟩
theorem ScriptKeeps_row : Rows.ScriptKeepsSaid :=
  OpenClaim.holds_of_wide 10 Tryz.f10 rfl rfl rfl rfl rfl rfl rfl ⟨rfl, rfl, rfl, rfl, rfl⟩ rfl rfl rfl rfl rfl (by kernel_rfl) Tryz.func10 (by kernel_rfl)
    (of_decide_eq_true (by kernel_rfl)) (by unfold Func.isWrapper; first | (rw [if_pos (by decide +kernel)]; kernel_rfl) | (rw [if_neg (by decide +kernel)]; exact ⟨rfl, rfl⟩))
    (fun os started H enc _ => ScriptKeeps_lifted os started H enc)
/-- ScriptKeeps: whatever the input, the law returns true, and each argument reads as it did; the variables that are listed are tied to the program's text. -/
theorem ScriptKeeps_holds : Rows.ScriptKeepsCardSaid :=
  Claim7.holds_tied_plain_at .later [] Rows.scriptKeepsCard.laidKinds true Rows.scriptKeepsCard.stood.harness Rows.scriptKeepsCard.stood.looks ScriptKeeps_row (fun _ h => by cases h) (by kernel_rfl) (fun _ h => by cases h) scriptKeeps_row_tie rfl ⟨rfl, rfl⟩ (by kernel_rfl) rfl
    (fun f fn hf hfn => by
      obtain rfl : f = 10 := Option.some.inj ((show Tryz.prog.funcNamed "bilge/bilgelaw26.ScriptKeeps" = some 10 by kernel_rfl).symm.trans hf) |>.symm
      obtain rfl : fn = Tryz.f10 := (Option.some.inj (Tryz.func10.symm.trans hfn)).symm
      exact ⟨by kernel_rfl, fun j t ht => by
        rw [Tryz.params10] at ht
        have hm : t ∈ [33] := by have := Array.mem_of_getElem? ht; simp at this ⊢; omega
        have hall : ([33].all fun u => !Tryz.prog.wantsStandIn u) = true := by kernel_rfl
        exact (show Tryz.prog.wantsStandIn t = false by simpa using List.all_eq_true.1 hall t hm)⟩)
    (by kernel_rfl)
#print axioms ScriptKeeps_holds
end Go.Proofs.YtgphopeclplahaaGreatDoor
