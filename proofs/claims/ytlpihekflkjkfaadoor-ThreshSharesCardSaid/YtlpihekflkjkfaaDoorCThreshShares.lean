/- ThreshShares: whatever the input, the law returns true, and the input reads as it did; the library's listed variables are tied to the program's text. -/
import Derived.Test.YtlpihekflkjkfaaDoorTied3
import Derived.Test.YtlpihekflkjkfaaDoorOpenS
import Derived.Test.YtlpihekflkjkfaaDoorTh6
namespace Go.Proofs.YtlpihekflkjkfaaDoor
open Go.ChangeShapes Go.WideShapes Go.RowKit

set_option maxRecDepth 100000 in
theorem ThreshShares_lifted (os : Os) (started : os.Started) (H : Type) (enc : TypeId × Value → H) :
    ReturnsInHanded {} Tryd.checked os 14 .any (fun w args => (Rows.threshSharesSpec.pre enc Tryd.prog Tryd.f14 Rows.threshSharesRow.domain false w args ∧ laidMetH Tryd.prog Rows.threshSharesRow.laid w) ∧ sizedMet enc Tryd.prog Tryd.f14 (OpenSpec.ofChange Rows.threshSharesSpec) false w args)
      (Rows.threshSharesSpec.post enc Tryd.prog Tryd.f14 false true false false) := by
  refine returnsInHanded_both (C := Tryd.checked) (X := fun w _ => laidMetH Tryd.prog Rows.threshSharesRow.laid w) (fun _ _ _ hh h => h.of_heap hh) own started (by kernel_rfl) Tryd.func14
    (ChangeSpec.witness_shaped (enc := enc) (C := Tryd.checked) (os := os) (X := fun w _ => laidMetH Tryd.prog Rows.threshSharesRow.laid w) false (tiedWorld3 os) #[.int .u8 0, .int .u32 0, .int .u32 0, .int .u32 0] 8 rfl (tied_shaped3 os _) (by kernel_rfl) (by kernel_rfl) (by kernel_rfl) (laid_met3 os _)) ?_
  intro W base args ds gs before hval0 hW _ hL hsh
  have hval : ∀ (j : Nat) t v, Tryd.f14.params[j]? = some t → args[j]? = some v → Value.okWide Tryd.prog W .any base t v := hval0
  have hW' := hW
  obtain ⟨p, q, hA0, hV, rfl, hfz, hnd⟩ := hW
  have hA : DataW.TrodAll enc Tryd.prog W 0 (fun _ => true) true Tryd.f14.params.toList args.toList ds p := hA0
  rw [Tryd.params14] at hA hval
  obtain ⟨v0, vs0, d0, ds0, p0, q0, hargs, rfl, rfl, h0, s0⟩ := trodAll_cons hA
  obtain ⟨v1, vs1, d1, ds1, p1, q1, rfl, rfl, rfl, h1, s1⟩ := trodAll_cons s0
  obtain ⟨v2, vs2, d2, ds2, p2, q2, rfl, rfl, rfl, h2, s2⟩ := trodAll_cons s1
  obtain ⟨v3, vs3, d3, ds3, p3, q3, rfl, rfl, rfl, h3, s3⟩ := trodAll_cons s2
  obtain ⟨rfl, rfl, rfl⟩ := trodAll_nil s3
  obtain rfl : args = #[v0, v1, v2, v3] := by cases args; simp_all
  obtain ⟨rfl, rfl⟩ := trodVars_none hV
  have k0 := h0
  have lt0 : ∀ x ∈ p0, x.block < W.heap.size := by obtain ⟨m, hm⟩ := k0; exact DataW.trod_lt m _ _ _ hm
  have k1 := h1
  have lt1 : ∀ x ∈ p1, x.block < W.heap.size := by obtain ⟨m, hm⟩ := k1; exact DataW.trod_lt m _ _ _ hm
  have k2 := h2
  have lt2 : ∀ x ∈ p2, x.block < W.heap.size := by obtain ⟨m, hm⟩ := k2; exact DataW.trod_lt m _ _ _ hm
  have k3 := h3
  have lt3 : ∀ x ∈ p3, x.block < W.heap.size := by obtain ⟨m, hm⟩ := k3; exact DataW.trod_lt m _ _ _ hm
  obtain ⟨zp, rfl, rfl, rfl, wp⟩ := open_int Tryd.underlying5 (hval 0 5 v0 rfl rfl) h0
  obtain ⟨p, rfl, np⟩ := nat_u8 wp
  obtain ⟨zc, rfl, rfl, rfl, wc⟩ := open_int Tryd.underlying27 (hval 1 27 v1 rfl rfl) h1
  obtain ⟨c, rfl, nc⟩ := nat_u32 wc
  obtain ⟨zm, rfl, rfl, rfl, wm⟩ := open_int Tryd.underlying27 (hval 2 27 v2 rfl rfl) h2
  obtain ⟨m, rfl, nm⟩ := nat_u32 wm
  obtain ⟨zx, rfl, rfl, rfl, wx⟩ := open_int Tryd.underlying27 (hval 3 27 v3 rfl rfl) h3
  obtain ⟨x, rfl, nx⟩ := nat_u32 wx
  clear hA0 hval0
  refine (ACall.lift (args := [.lit (.int .u8 (p : Int)), .lit (.int .u32 (c : Int)), .lit (.int .u32 (m : Int)), .lit (.int .u32 (x : Int))]) (vs := [_, _, _, _]) (ThreshShares_any p c m x np nc nm nx noM) (start_fix hsh (tab_of hL) (errs_of hL)) rfl (by intro j x v hx hv; match j, hx, hv with | 0, hx, hv => cases hx; cases hv; exact .lit _ | 1, hx, hv => cases hx; cases hv; exact .lit _ | 2, hx, hv => cases hx; cases hv; exact .lit _ | 3, hx, hv => cases hx; cases hv; exact .lit _ | _ + 4, hx, hv => cases hx)).mono fun e W' ⟨he, bel⟩ => ?_
  subst he
  exact ⟨_, rfl, _, _, _, [], _, [], hW', trodAll_mk1 (shut_bool Tryd.underlying4 _), (trodAll_cons_mk (Below.trod laidOut (by kernel_rfl) (of_decide_eq_true (by kernel_rfl)) k0 bel lt0) (trodAll_cons_mk (Below.trod laidOut (by kernel_rfl) (of_decide_eq_true (by kernel_rfl)) k1 bel lt1) (trodAll_cons_mk (Below.trod laidOut (by kernel_rfl) (of_decide_eq_true (by kernel_rfl)) k2 bel lt2) (trodAll_cons_mk (Below.trod laidOut (by kernel_rfl) (of_decide_eq_true (by kernel_rfl)) k3 bel lt3) trodAll_mk0)))), rfl, bel.frame _, fun h => by cases h⟩
theorem ThreshShares_row : Rows.ThreshSharesSaid :=
  OpenClaim.holds_of_wide 14 Tryd.f14 rfl rfl rfl rfl rfl rfl rfl ⟨rfl, rfl, rfl, rfl, rfl⟩ rfl rfl rfl rfl rfl (by kernel_rfl) Tryd.func14 (by kernel_rfl)
    (of_decide_eq_true (by kernel_rfl)) (by unfold Func.isWrapper; first | (rw [if_pos (by decide +kernel)]; kernel_rfl) | (rw [if_neg (by decide +kernel)]; exact ⟨rfl, rfl⟩))
    (fun os started H enc _ => ThreshShares_lifted os started H enc)
/-- ThreshShares: whatever the input, the law returns true, and each argument reads as it did; the variables that are listed are tied to the program's text. -/
theorem ThreshShares_holds : Rows.ThreshSharesCardSaid :=
  Claim7.holds_tied_plain_at .later [] Rows.threshSharesCard.laidKinds true Rows.threshSharesCard.stood.harness Rows.threshSharesCard.stood.looks ThreshShares_row (fun _ h => by cases h) (by kernel_rfl) (fun _ h => by cases h) threshShares_row_tie rfl ⟨rfl, rfl⟩ (by kernel_rfl) rfl
    (fun f fn hf hfn => by
      obtain rfl : f = 14 := Option.some.inj ((show Tryd.prog.funcNamed "bilge/bilgelaw06.ThreshShares" = some 14 by kernel_rfl).symm.trans hf) |>.symm
      obtain rfl : fn = Tryd.f14 := (Option.some.inj (Tryd.func14.symm.trans hfn)).symm
      exact ⟨by kernel_rfl, fun j t ht => by
        rw [Tryd.params14] at ht
        have hm : t ∈ [5, 27] := by have := Array.mem_of_getElem? ht; simp at this ⊢; omega
        have hall : ([5, 27].all fun u => !Tryd.prog.wantsStandIn u) = true := by kernel_rfl
        exact (show Tryd.prog.wantsStandIn t = false by simpa using List.all_eq_true.1 hall t hm)⟩)
    (by kernel_rfl)
#print axioms ThreshShares_holds
end Go.Proofs.YtlpihekflkjkfaaDoor
