/- CConfKeeps. -/
import Derived.Test.YtdjojfibjbjpdaaGreatDoorPTied3
import Derived.Test.YtdjojfibjbjpdaaGreatDoorM9
namespace Go.Proofs.YtdjojfibjbjpdaaGreatDoor
open Go.ChangeShapes Go.WideShapes Go.RowKit

theorem ConfKeeps_any (c : Cfg) (wc : InR c) (M : Nat → Option (List AV)) : ACall Tryz.prog 3 [encC c] M (fun r M' => r = .lit (.bool true) ∧ M = M') := by
  have e : eSConfig (ofC c) = encC c := by
    unfold encC cells ofC eSConfig cSConfig
    simp only [List.map_map]
    rfl
  rw [← e]
  exact (g_law07_ConfKeeps_w (ConfKeeps_ok (c := ofC c) (by rw [toC_ofC]; exact wc))).all M

set_option maxRecDepth 100000 in
theorem ConfKeeps_lifted (os : Os) (started : os.Started) (H : Type) (enc : TypeId × Value → H) :
    ReturnsInHanded {} Tryz.checked os 3 .any (fun w args => (Rows.confKeepsSpec.pre enc Tryz.prog Tryz.f3 Rows.confKeepsRow.domain false w args ∧ laidMetH Tryz.prog Rows.confKeepsRow.laid w) ∧ sizedMet enc Tryz.prog Tryz.f3 (OpenSpec.ofChange Rows.confKeepsSpec) false w args)
      (Rows.confKeepsSpec.post enc Tryz.prog Tryz.f3 false true false false) := by
  refine returnsInHanded_both (C := Tryz.checked) (X := fun w _ => laidMetH Tryz.prog Rows.confKeepsRow.laid w) (fun _ _ _ hh h => h.of_heap hh) own started (by kernel_rfl) Tryz.func3
    (ChangeSpec.witness_shaped (enc := enc) (C := Tryz.checked) (os := os) (X := fun w _ => laidMetH Tryz.prog Rows.confKeepsRow.laid w) false (tiedWorld3 os) #[.agg #[.int .i64 0, .int .i64 0, .int .i64 0, .int .i64 0, .int .i64 0, .int .i64 0, .slice none 0 0, .int .i64 0, .int .i64 0, .int .i64 0, .int .i64 0]] 8 rfl (tied_shaped3 os _) (by kernel_rfl) (by kernel_rfl) (by kernel_rfl) (laid_met3 os _)) ?_
  intro W base args ds gs before hval0 hW _ hL hsh
  have hval : ∀ (j : Nat) t v, Tryz.f3.params[j]? = some t → args[j]? = some v → Value.okWide Tryz.prog W .any base t v := hval0
  have hW' := hW
  obtain ⟨p, q, hA0, hV, rfl, hfz, hnd⟩ := hW
  have hA : DataW.TrodAll enc Tryz.prog W 0 (fun _ => true) true Tryz.f3.params.toList args.toList ds p := hA0
  rw [Tryz.params3] at hA hval
  obtain ⟨v0, vs0, d0, ds0, p0, q0, hargs, rfl, rfl, h0, s0⟩ := trodAll_cons hA
  obtain ⟨rfl, rfl, rfl⟩ := trodAll_nil s0
  obtain rfl : args = #[v0] := by cases args; simp_all
  obtain ⟨rfl, rfl⟩ := trodVars_none hV
  have k0 := h0
  have lt0 : ∀ x ∈ p0, x.block < W.heap.size := by obtain ⟨m, hm⟩ := k0; exact DataW.trod_lt m _ _ _ hm
  obtain ⟨c, wc, r0⟩ := open_cfg (hval 0 25 v0 rfl rfl) h0
  clear hA0 hval0
  refine (ACall.lift (args := [encC c]) (vs := [v0]) (ConfKeeps_any c wc noM) (start_fix hsh (tab_of hL) (errs_of hL)) rfl (by intro j x v hx hv; match j, hx, hv with | 0, hx, hv => cases hx; cases hv; exact r0 | _ + 1, hx, hv => cases hx)).mono fun e W' ⟨he, bel⟩ => ?_
  subst he
  exact ⟨_, rfl, _, _, _, [], _, [], hW', trodAll_mk1 (shut_bool Tryz.underlying4 _), (trodAll_cons_mk (Below.trod laidOut (by kernel_rfl) (of_decide_eq_true (by kernel_rfl)) k0 bel lt0) trodAll_mk0), rfl, bel.frame _, fun h => by cases h⟩
theorem ConfKeeps_row : Rows.ConfKeepsSaid :=
  OpenClaim.holds_of_wide 3 Tryz.f3 rfl rfl rfl rfl rfl rfl rfl ⟨rfl, rfl, rfl, rfl, rfl⟩ rfl rfl rfl rfl rfl (by kernel_rfl) Tryz.func3 (by kernel_rfl)
    (of_decide_eq_true (by kernel_rfl)) (by unfold Func.isWrapper; first | (rw [if_pos (by decide +kernel)]; kernel_rfl) | (rw [if_neg (by decide +kernel)]; exact ⟨rfl, rfl⟩))
    (fun os started H enc _ => ConfKeeps_lifted os started H enc)
/-- ConfKeeps: whatever the input, the law returns true, and each argument reads as it did; the variables that are listed are tied to the program's text. -/
theorem ConfKeeps_holds : Rows.ConfKeepsCardSaid :=
  Claim7.holds_tied_plain_at .later [] Rows.confKeepsCard.laidKinds true Rows.confKeepsCard.stood.harness Rows.confKeepsCard.stood.looks ConfKeeps_row (fun _ h => by cases h) (by kernel_rfl) (fun _ h => by cases h) confKeeps_row_tie rfl ⟨rfl, rfl⟩ (by kernel_rfl) rfl
    (fun f fn hf hfn => by
      obtain rfl : f = 3 := Option.some.inj ((show Tryz.prog.funcNamed "bilge/bilgelaw07.ConfKeeps" = some 3 by kernel_rfl).symm.trans hf) |>.symm
      obtain rfl : fn = Tryz.f3 := (Option.some.inj (Tryz.func3.symm.trans hfn)).symm
      exact ⟨by kernel_rfl, fun j t ht => by
        rw [Tryz.params3] at ht
        have hm : t ∈ [25] := by have := Array.mem_of_getElem? ht; simp at this ⊢; omega
        have hall : ([25].all fun u => !Tryz.prog.wantsStandIn u) = true := by kernel_rfl
        exact (show Tryz.prog.wantsStandIn t = false by simpa using List.all_eq_true.1 hall t hm)⟩)
    (by kernel_rfl)
#print axioms ConfKeeps_holds
end Go.Proofs.YtdjojfibjbjpdaaGreatDoor
