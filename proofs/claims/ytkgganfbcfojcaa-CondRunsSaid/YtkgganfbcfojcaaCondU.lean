/- CondRuns: whatever the input, the law returns true. -/
import Derived.Test.YtkgganfbcfojcaaRunP
namespace Go.Proofs.Ytkgganfbcfojcaa
open Go.RowKit

structure UInv (w : World) (B : Nat) (fire cl : Nat → Bool) (n : Nat) (k : Nat) (on : Bool) (calm : Int) (wr : World) : Prop where
  blk : Blk wr B #[.bool on, .int .i64 calm] 23
  right : rightF ⟨on, calm⟩ n = true
  fwd : Fwd fire cl n k on calm
  keep : Below w.heap.size w wr


set_option maxRecDepth 100000 in
set_option maxHeartbeats 2000000 in
theorem runs_any (v : Value) (len : Nat) (hh mm ff : Nat → Bool) (n : Int) (w : World) (hv : RoundsAt w v len hh mm ff) :
    Calls Try.prog 4 #[v, .int .i64 n] w (RetE w (.bool true)) := by
  obtain ⟨hm, hv⟩ := hv
  unfold maxLen at hm
  have hpp := fun W => period_any n W
  cases hp : periodF n
  · simp only [hp] at hpp
    have HP := Lib.hid hpp
    clear hp hpp
    rcases hv with ⟨rfl, rfl⟩ | ⟨a, cap, rfl, _, _⟩
    all_goals
      go_enter Try.func4, Try.ntmps4
      go_wp2_with (first | (go_at_call 10; refine (awake_any _).mono ?_; rintro e w1 ⟨rfl, x1, rfl⟩) | (go_at_call 13; refine (HP.out _).mono ?_; rintro e w1 ⟨rfl, x1, rfl⟩))
      refine fin_ret (v := .bool _) ?_ rfl ?_
      · refine (results_tmp rfl _ _ _).trans ?_
        refine congrArg (fun b => Result.ok (Value.bool b) _) ?_
        rfl
      · exact Keeps.out
  · simp only [hp] at hpp
    have HP := Lib.hid hpp
    have HPP := Lib.hid hp
    have hn : 1 ≤ n ∧ n ≤ 1000 := by simpa [periodF] using hp
    obtain ⟨hn1, hn2⟩ := hn
    clear hp hpp
    obtain ⟨N, rfl⟩ : ∃ N : Nat, n = N := ⟨n.toNat, by omega⟩
    rcases Nat.eq_zero_or_pos len with h0 | h0
    · have hv' : v = .slice none 0 0 ∨ ∃ a cap, v = .slice (some a) 0 cap := by
        rcases hv with ⟨h, _⟩ | ⟨a, cap, h, _⟩
        · exact .inl h
        · exact .inr ⟨a, cap, by rw [h, h0]⟩
      clear hv h0 hm
      rcases hv' with rfl | ⟨a, cap, rfl⟩
      all_goals
        go_enter Try.func4, Try.ntmps4
        go_wp2_with (first | (go_at_call 10; refine (awake_any _).mono ?_; rintro e w1 ⟨rfl, x1, rfl⟩) | (go_at_call 13; refine (HP.out _).mono ?_; rintro e w1 ⟨rfl, x1, rfl⟩))
        refine wp_loop_rounds 1 ?_
        rw [rounds_succ]
        go_wp2_with fail
        refine fin_ret (v := .bool _) ?_ rfl ?_
        · refine (results_tmp rfl _ _ _).trans ?_
          refine congrArg (fun b => Result.ok (Value.bool b) _) ?_
          rfl
        · exact Keeps.out
    · obtain ⟨a, cap, rfl, hcap, hcell⟩ := hv.resolve_left (by omega)
      obtain ⟨ab, ao, asp⟩ := a
      obtain rfl : asp = none := (hcell 0 h0).1
      have hab := (hcell 0 h0).2.1
      have HC := Lib.hid hcell
      clear hcell hv
      by_cases hlen : 100 < len
      · go_enter Try.func4, Try.ntmps4
        go_wp2_with (first | (go_at_call 10; refine (awake_any _).mono ?_; rintro e w1 ⟨rfl, x1, rfl⟩) | (go_at_call 13; refine (HP.out _).mono ?_; rintro e w1 ⟨rfl, x1, rfl⟩))
        refine fin_ret (v := .bool _) ?_ rfl ?_
        · refine (results_tmp rfl _ _ _).trans ?_
          refine congrArg (fun b => Result.ok (Value.bool b) _) ?_
          rfl
        · exact Keeps.out
      · obtain ⟨fire, hfd⟩ : ∃ g : Nat → Bool, g = fun j => ff j && hh j := ⟨_, rfl⟩
        obtain ⟨cl, hcd⟩ : ∃ g : Nat → Bool, g = fun j => calmF (hh j) (mm j) (ff j) := ⟨_, rfl⟩
        have HFD := Lib.hid hfd
        have HCD := Lib.hid hcd
        clear hfd hcd
        go_enter Try.func4, Try.ntmps4
        go_wp2_with (first | (go_at_call 10; refine (awake_any _).mono ?_; rintro e w1 ⟨rfl, x1, rfl⟩) | (go_at_call 13; refine (HP.out _).mono ?_; rintro e w1 ⟨rfl, x1, rfl⟩))
        have hge : w.heap.size ≤ x1.val.heap.size := (Keeps.out : Below w.heap.size w x1.val).size
        go_loopw [6] (fun i wr => ∃ (k : Nat) (on : Bool) (calm : Int), k ≤ len ∧ i = .int .i64 k ∧ UInv w x1.val.heap.size fire cl N k on calm wr) (fun i _ => len - (intOf i).toNat)
        case atStart => exact ⟨0, false, 0, by omega, rfl, Blk.new _ _ _, by simp [rightF], .inl ⟨rfl, fun j hj => by omega⟩, Keeps.out⟩
        case round =>
          obtain ⟨k, on, calm, hk, rfl, inv⟩ := hrel
          haveI : LtW ab w := ⟨hab⟩
          haveI : Keeps w wr := ⟨inv.keep⟩
          haveI : GeW w x1.val.heap.size := ⟨hge⟩
          have hkw : ∀ o, wr.cell? ⟨ab, o, none⟩ = w.cell? ⟨ab, o, none⟩ := fun o => inv.keep.cell (p := ⟨ab, o, none⟩) hab
          haveI : LtW ab wr := ⟨Nat.lt_of_lt_of_le hab inv.keep.size⟩
          have hC := inv.blk.cell
          have hF := inv.blk.frozen
          haveI := inv.blk.ltw
          obtain ⟨hb0, hb1'⟩ := step_bd HPP.out inv.right
          try simp only at hb0 hb1'
          have HINV := Lib.hid inv
          clear inv
          by_cases hlt : k < len
          · obtain ⟨_, _, g0, g1, g2⟩ := HC.out k hlt
            try simp only at g0 g1 g2
            have HST := Lib.hid (fun W => step_any ⟨on, calm⟩ (hh k) (mm k) (ff k) N W hb0 hb1')
            go_wp2_with fail
            refine wp_region_E0 18 (by kernel_rfl) (by kernel_rfl) ?_
            simp only [List.take_succ_cons, List.take_zero, List.drop_succ_cons, List.drop_zero]
            repeat
              refine wpE_step (fun K hK => ?_)
              go_simp
              first
                | (refine hK _ ?_; clear hK K)
                | (apply Exists.intro; refine ⟨fun x => ?_, hK _ ?_⟩; (focus ((go_at_call 14; exact HST.out _))); clear hK K)
            refine wpE_nil (fun x => ?_)
            go_wp2_with fail
            obtain ⟨on', hon⟩ : ∃ b, b = (stepF ⟨on, calm⟩ (hh k) (mm k) (ff k) N).on := ⟨_, rfl⟩
            obtain ⟨calm', hcalm⟩ : ∃ b, b = (stepF ⟨on, calm⟩ (hh k) (mm k) (ff k) N).calm := ⟨_, rfl⟩
            rw [← hon, ← hcalm]
            have hU : Blk ((x.val.setCell ⟨x1.val.heap.size, 0, none⟩ (.bool on')).setCell ⟨x1.val.heap.size, 1, none⟩ (.int .i64 calm')) x1.val.heap.size #[.bool on', .int .i64 calm'] 23 ∧ rightF ⟨on', calm'⟩ N = true ∧ Fwd fire cl N (k + 1) on' calm' := by
              refine ⟨((HINV.out.blk.ext x).set 0 _).set 1 _, ?_, ?_⟩
              · rw [hon, hcalm]; exact step_right HPP.out HINV.out.right
              · rw [hon, hcalm]; exact HINV.out.fwd.step (by omega) (by rw [HFD.out]) (by rw [HCD.out])
            have hkeep : Below w.heap.size w ((x.val.setCell ⟨x1.val.heap.size, 0, none⟩ (.bool on')).setCell ⟨x1.val.heap.size, 1, none⟩ (.int .i64 calm')) := Keeps.out
            have HU := Lib.hid hU
            clear hU
            obtain ⟨W, hW⟩ : ∃ W : World, W = (x.val.setCell ⟨x1.val.heap.size, 0, none⟩ (.bool on')).setCell ⟨x1.val.heap.size, 1, none⟩ (.int .i64 calm') := ⟨_, rfl⟩
            rw [← hW] at HU hkeep
            rw [← hW]
            have HW := Lib.hid hW
            have HON := Lib.hid hon
            have HCALM := Lib.hid hcalm
            clear hW hon hcalm g0 g1 g2 hC hF
            haveI : Keeps w W := ⟨hkeep⟩
            have hkw2 : ∀ o, W.cell? ⟨ab, o, none⟩ = w.cell? ⟨ab, o, none⟩ := fun o => hkeep.cell (p := ⟨ab, o, none⟩) hab
            haveI : LtW ab W := ⟨Nat.lt_of_lt_of_le hab hkeep.size⟩
            have hCB := HU.out.1.cell
            haveI := HU.out.1.ltw
            go_loopw [7, 8, 9] (fun r m κ wr => ∃ (q : Nat) (ρ μ t : Int), r = .int .i64 ρ ∧ m = .int .i64 μ ∧ κ = .int .i64 t ∧ t = (q : Int) - 1 ∧ Bwd fire cl N (k + 1) q ρ μ ∧ ∃ z : Ext W, wr = z.val) (fun _ _ κ _ => (intOf κ + 1).toNat)
            case atStart =>
              refine ⟨k + 1, 0, 0, _, rfl, rfl, rfl, by omega, ⟨by omega, fun j a b => by omega, by omega, by omega, ⟨0, rfl, by omega, fun j a b => by omega, .inl (by omega)⟩, ?_⟩, exists_ext⟩
              constructor
              · intro h; omega
              · rintro ⟨s, a, b, _⟩; omega
            case round =>
              obtain ⟨q, ρ, μ, t, rfl, rfl, rfl, ht, hbw, z, rfl⟩ := hrel
              have hq1 := hbw.1
              have hμ0 := hbw.2.2.1
              have hμ1 := hbw.2.2.2.1
              have hρ0 : 0 ≤ ρ ∧ ρ ≤ 101 := by
                obtain ⟨r, hρ, hr1, _⟩ := hbw.2.2.2.2.1
                omega
              obtain ⟨hρ0, hρ1⟩ := hρ0
              have HBW := Lib.hid hbw
              clear hbw
              rcases q with _ | q
              · have htn : t < 0 := by simp at ht; omega
                clear ht
                have hb := both HBW.out HU.out.2.2 (.inl rfl)
                obtain rfl : on' = false := by simpa using hb
                clear hb
                go_wp2_with fail
                go_roundw
                case rel => exact ⟨k + 1, _, _, by omega, by go_num, HU.out.1.ext z, HU.out.2.1, HU.out.2.2, (Keeps.out : Below w.heap.size w z.val)⟩
                case measure => simp [intOf]; omega
              · obtain rfl : t = (q : Int) := by simp at ht; exact ht
                clear ht
                have hql : q < len := by omega
                obtain ⟨_, _, g0, g1, g2⟩ := HC.out q hql
                try simp only at g0 g1 g2
                have HFQ := Lib.hid (show fire q = (ff q && hh q) by rw [HFD.out])
                have HCL := Lib.hid (show cl q = calmF (hh q) (mm q) (ff q) by rw [HCD.out])
                generalize hh q = h at g0 HFQ HCL
                generalize mm q = m at g1 HCL
                generalize ff q = f at g2 HFQ HCL
                cases f
                · have HBS := Lib.hid (HBW.out.step (by omega) (by rw [HFQ.out]; rfl))
                  have hcm : calmF h m false = false := rfl
                  have hgt : ¬ μ < 0 := by omega
                  go_wp2_with (go_at_call 16; refine (calm_any _ _ _ _).mono ?_; rintro e w1 ⟨rfl, z2, rfl⟩)
                  go_roundw
                  case rel => exact ⟨q, 0, μ, _, rfl, rfl, rfl, by omega, by have h9 := HBS.out; rw [HCL.out, hcm] at h9; simp only [if_true, Bool.false_eq_true, if_false] at h9; first | (rw [if_pos (by omega)] at h9; exact h9) | (rw [if_neg (by omega)] at h9; exact h9), exists_ext⟩
                  case measure => simp [intOf]
                · cases h
                  · have HBS := Lib.hid (HBW.out.step (by omega) (by rw [HFQ.out]; rfl))
                    cases m
                    · have hcm : calmF false false true = true := rfl
                      by_cases hgt : μ < ρ + 1
                      · go_wp2_with (go_at_call 16; refine (calm_any _ _ _ _).mono ?_; rintro e w1 ⟨rfl, z2, rfl⟩)
                        go_roundw
                        case rel => exact ⟨q, (ρ + 1), (ρ + 1), _, rfl, rfl, rfl, by omega, by have h9 := HBS.out; rw [HCL.out, hcm] at h9; simp only [if_true, Bool.false_eq_true, if_false] at h9; first | (rw [if_pos (by omega)] at h9; exact h9) | (rw [if_neg (by omega)] at h9; exact h9), exists_ext⟩
                        case measure => simp [intOf]
                      · go_wp2_with (go_at_call 16; refine (calm_any _ _ _ _).mono ?_; rintro e w1 ⟨rfl, z2, rfl⟩)
                        go_roundw
                        case rel => exact ⟨q, (ρ + 1), μ, _, rfl, rfl, rfl, by omega, by have h9 := HBS.out; rw [HCL.out, hcm] at h9; simp only [if_true, Bool.false_eq_true, if_false] at h9; first | (rw [if_pos (by omega)] at h9; exact h9) | (rw [if_neg (by omega)] at h9; exact h9), exists_ext⟩
                        case measure => simp [intOf]
                    · have hcm : calmF false true true = false := rfl
                      have hgt : ¬ μ < 0 := by omega
                      go_wp2_with (go_at_call 16; refine (calm_any _ _ _ _).mono ?_; rintro e w1 ⟨rfl, z2, rfl⟩)
                      go_roundw
                      case rel => exact ⟨q, 0, μ, _, rfl, rfl, rfl, by omega, by have h9 := HBS.out; rw [HCL.out, hcm] at h9; simp only [if_true, Bool.false_eq_true, if_false] at h9; first | (rw [if_pos (by omega)] at h9; exact h9) | (rw [if_neg (by omega)] at h9; exact h9), exists_ext⟩
                      case measure => simp [intOf]
                  · have hb := both HBW.out HU.out.2.2 (.inr (by simpa using HFQ.out))
                    by_cases hmn : μ < (N : Int)
                    · obtain rfl : on' = true := by simpa [hmn] using hb
                      clear hb
                      go_wp2_with fail
                      go_roundw
                      case rel => exact ⟨k + 1, _, _, by omega, by go_num, HU.out.1.ext z, HU.out.2.1, HU.out.2.2, (Keeps.out : Below w.heap.size w z.val)⟩
                      case measure => simp [intOf]; omega
                    · obtain rfl : on' = false := by simpa [hmn] using hb
                      clear hb
                      go_wp2_with fail
                      go_roundw
                      case rel => exact ⟨k + 1, _, _, by omega, by go_num, HU.out.1.ext z, HU.out.2.1, HU.out.2.2, (Keeps.out : Below w.heap.size w z.val)⟩
                      case measure => simp [intOf]; omega
          · go_wp2_with fail
            refine fin_ret (v := .bool _) ?_ rfl ?_
            · refine (results_tmp rfl _ _ _).trans ?_
              refine congrArg (fun b => Result.ok (Value.bool b) _) ?_
              rfl
            · exact Keeps.out

section
open Go.ChangeShapes Go.WideShapes Go.ChangeAt
open Go.ChangeMaps (open_string shut_string)
set_option maxRecDepth 100000 in
theorem CondRuns_lifted (os : Os) (started : os.Started) (H : Type) (enc : TypeId × Value → H) :
    ReturnsInHanded {} Try.checked os 4 .any (Rows.condRunsSpec.pre6 enc Try.prog Try.f4 Rows.condRunsRow.domain false) (Rows.condRunsSpec.post enc Try.prog Try.f4 false true false false) := by
  refine returnsInHanded_of_change (C := Try.checked) own started (by kernel_rfl) Try.func4
    (ChangeSpec.witness6 (enc := enc) (C := Try.checked) false ⟨#[], #[.slice none 0 0, .int .i64 0], []⟩ 8 (by kernel_rfl) (by kernel_rfl) (by kernel_rfl) (by kernel_rfl)) ?_
  intro W base args ds gs before hval0 hW hcnd _
  have hval : ∀ (j : Nat) t v, Try.f4.params[j]? = some t → args[j]? = some v → Value.okWide Try.prog W .any base t v := hval0
  have hW' := hW
  obtain ⟨p, q, hA0, hV, rfl, hfz, hnd⟩ := hW
  have hA : DataW.TrodAll enc Try.prog W 0 (fun _ => true) true Try.f4.params.toList args.toList ds p := hA0
  rw [Try.params4] at hA hval
  obtain ⟨v0, vs0, d0, ds0, p0, q0, hargs, rfl, rfl, h0, r0⟩ := trodAll_cons hA
  obtain ⟨v1, vs1, d1, ds1, p1, q1, rfl, rfl, rfl, h1, r1⟩ := trodAll_cons r0
  obtain ⟨rfl, rfl, rfl⟩ := trodAll_nil r1
  obtain rfl : args = #[v0, v1] := by cases args; simp_all
  obtain ⟨rfl, rfl⟩ := trodVars_none hV
  have k0 := h0
  have lt0 : ∀ x ∈ p0, x.block < W.heap.size := by obtain ⟨m, hm⟩ := k0; exact DataW.trod_lt m _ _ _ hm
  have k1 := h1
  have lt1 : ∀ x ∈ p1, x.block < W.heap.size := by obtain ⟨m, hm⟩ := k1; exact DataW.trod_lt m _ _ _ hm
  obtain ⟨len, hh, mm, ff, hrd⟩ := open_rounds Try.underlying29 Try.underlying31 Try.underlying4 Try.underlying4 Try.underlying4 ⟨rfl, rfl, rfl, by kernel_rfl, by kernel_rfl, by kernel_rfl⟩ (by kernel_rfl) (hval 0 29 v0 rfl rfl) h0
  obtain ⟨n, rfl, rfl, rfl, wn⟩ := open_int Try.underlying3 (hval 1 3 v1 rfl rfl) h1
  clear hA0 hval0
  refine (runs_any _ len hh mm ff n W hrd).mono fun e W' ⟨he, x, hx⟩ => ?_
  subst he
  subst hx
  have bel := x.below
  exact ⟨_, rfl, _, _, _, [], _, [], hW', trodAll_mk1 (shut_bool Try.underlying4 _), (trodAll_cons_mk (Below.trod laidOut (by kernel_rfl) (of_decide_eq_true (by kernel_rfl)) k0 bel lt0) (trodAll_cons_mk (Below.trod laidOut (by kernel_rfl) (of_decide_eq_true (by kernel_rfl)) k1 bel lt1) trodAll_mk0)), rfl, bel.frame _, fun h => by cases h⟩
/-- CondRuns: whatever the input, the law returns true, and each argument reads as it did. -/
theorem CondRuns_holds : Rows.CondRunsSaid :=
  OpenClaim.holds_of_wide 4 Try.f4 rfl rfl rfl rfl rfl rfl rfl ⟨rfl, rfl, rfl, rfl, rfl⟩ rfl rfl rfl rfl rfl (by kernel_rfl) Try.func4 (by kernel_rfl)
    (of_decide_eq_true (by kernel_rfl)) (by unfold Func.isWrapper; first | (rw [if_pos (by decide +kernel)]; kernel_rfl) | (rw [if_neg (by decide +kernel)]; exact ⟨rfl, rfl⟩))
    (fun os started H enc _ => CondRuns_lifted os started H enc)
#print axioms CondRuns_holds
end
end Go.Proofs.Ytkgganfbcfojcaa
