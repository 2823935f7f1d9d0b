/- CondBreaks: whatever the input, the law returns true. -/
import Derived.Test.YtkgganfbcfojcaaCondL
import Derived.Test.YtkgganfbcfojcaaMem2
import Derived.Test.YtkgganfbcfojcaaOpen2
namespace Go.Proofs.Ytkgganfbcfojcaa
open Go.RowKit

/-- v reads as len numbers of one kind. -/
def IntsAt (k : IntKind) (w : World) (v : Value) (len : Nat) (z : Nat → Int) : Prop :=
  len ≤ maxLen ∧ ((v = .slice none 0 0 ∧ len = 0) ∨ ∃ a cap, v = .slice (some a) len cap ∧ len ≤ cap ∧
    ∀ i, i < len → a.spot = none ∧ a.block < w.heap.size ∧ w.cell? ⟨a.block, a.off + i, none⟩ = some (.int k (z i)) ∧ (Lit.int k (z i)).wf = true)

theorem open_intsAt {k : IntKind} {H : Type} {enc : TypeId × Value → H} {P : Program} {w : World} {r : Reach} {b0 : Nat} {t e : TypeId} {v : Value} {d : DataW H} {ps : List MemPlace} (ht : P.underlying t = some (.slice e)) (he : P.underlying e = some (.int k)) (hce : P.cellsOf e = 1)
    (hv : Value.okWide P w r b0 t v) (h : DataW.Trod enc P w 0 (fun _ => true) true t v d ps) : ∃ len z, IntsAt k w v len z := by
  obtain ⟨a0, len, cap, rfl⟩ := Go.WideShapes.okWide_slice ht hv
  obtain ⟨fuel, hf⟩ := h
  rcases Deep.open_slice1 ht hce hf with ⟨hcs, _⟩ | ⟨a, len', cap', m, n, V, D, Pl, hcs, _, hl, hm, hmm, _, hel⟩
  · simp [Value.cells] at hcs
    obtain ⟨rfl, rfl, rfl⟩ := hcs
    exact ⟨0, fun _ => 0, by unfold maxLen; omega, .inl ⟨rfl, rfl⟩⟩
  · simp [Value.cells] at hcs
    obtain ⟨rfl, rfl, rfl⟩ := hcs
    have hmm' : len ≤ m := by rw [hmm]; simp; omega
    have key : ∀ i, ∃ q : Int, i < len → a.spot = none ∧ a.block < w.heap.size ∧ w.cell? ⟨a.block, a.off + i, none⟩ = some (.int k q) ∧ (Lit.int k q).wf = true := by
      intro i
      by_cases hi : i < len
      · obtain ⟨h0, _⟩ := hel 0 (by omega)
        have hs : a.spot = none := by simpa [Addr.add] using World.cell?_spot h0
        obtain ⟨hc, hd⟩ := hel i (by omega)
        obtain ⟨q, hq, _, hw⟩ := DataW.trod_int he hd
        simp at hq
        rw [hq] at hc
        have hc' := cell_add hc (.inr hs)
        exact ⟨q, fun _ => ⟨hs, World.block_lt_of_cell? w ⟨a.block, a.off + i, none⟩ hc', hc', hw⟩⟩
      · exact ⟨0, fun h => (hi h).elim⟩
    exact ⟨len, fun i => Classical.choose (key i), by omega, .inr ⟨a, cap, rfl, hl, fun i hi => Classical.choose_spec (key i) hi⟩⟩

structure BInv (w : World) (B : Nat) (on : Bool) (calm : Int) (wr : World) : Prop where
  blk : Blk wr B #[.bool on, .int .i64 calm] 23
  keep : Below w.heap.size w wr

theorem BInv.step {w : World} {B : Nat} {on : Bool} {calm : Int} {wr : World} (inv : BInv w B on calm wr) (hB : w.heap.size ≤ B) (y : Ext wr) (o : Bool) (v : Int) : BInv w B o v ((y.val.setCell ⟨B, 0, none⟩ (.bool o)).setCell ⟨B, 1, none⟩ (.int .i64 v)) := by
  refine ⟨((inv.blk.ext y).set 0 _).set 1 _, ?_⟩
  haveI : Keeps w wr := ⟨inv.keep⟩
  haveI : GeW w B := ⟨hB⟩
  exact Keeps.out



set_option maxRecDepth 100000 in
set_option maxHeartbeats 2000000 in
theorem breaks_any (n : Int) (v : Value) (len : Nat) (z : Nat → Int) (how : Bool) (w : World) (hv : IntsAt .u16 w v len z) :
    Calls Try.prog 7 #[.int .i64 n, v, .bool how] w (RetE w (.bool true)) := by
  obtain ⟨hm, hv⟩ := hv
  unfold maxLen at hm
  have hpp := fun W => period_any n W
  cases hp : periodF n
  · simp only [hp] at hpp
    have HP := Lib.hid hpp
    clear hp hpp
    rcases hv with ⟨rfl, rfl⟩ | ⟨a, cap, rfl, _, _⟩
    all_goals
      go_enter Try.func7, Try.ntmps7
      go_wp2_with (first | (go_at_call 10; refine (awake_any _).mono ?_; rintro e w1 ⟨rfl, x1, rfl⟩) | (go_at_call 13; refine (HP.out _).mono ?_; rintro e w1 ⟨rfl, x1, rfl⟩))
      refine fin_ret (v := .bool _) ?_ rfl ?_
      · refine (results_tmp rfl _ _ _).trans ?_
        refine congrArg (fun b => Result.ok (Value.bool b) _) ?_
        rfl
      · exact Keeps.out
  · simp only [hp] at hpp
    have HP := Lib.hid hpp
    have hn : 1 ≤ n ∧ n ≤ 1000 := by simpa [periodF] using hp
    obtain ⟨hn1, hn2⟩ := hn
    clear hp hpp
    rcases Nat.eq_zero_or_pos len with h0 | h0
    · have hv' : v = .slice none 0 0 ∨ ∃ a cap, v = .slice (some a) 0 cap := by
        rcases hv with ⟨h, _⟩ | ⟨a, cap, h, _⟩
        · exact .inl h
        · exact .inr ⟨a, cap, by rw [h, h0]⟩
      clear hv h0 hm
      rcases hv' with rfl | ⟨a, cap, rfl⟩
      all_goals
        go_enter Try.func7, Try.ntmps7
        go_wp2_with (first | (go_at_call 10; refine (awake_any _).mono ?_; rintro e w1 ⟨rfl, x1, rfl⟩) | (go_at_call 13; refine (HP.out _).mono ?_; rintro e w1 ⟨rfl, x1, rfl⟩))
        refine (step_to false 0 true true true n _ true 0 rfl (by decide) (by decide)).mono ?_
        rintro e w1 ⟨rfl, x2, rfl⟩
        go_wp2_with fail
        have hge : w.heap.size ≤ x2.val.heap.size := (Keeps.out : Below w.heap.size w x2.val).size
        have inv : BInv w x2.val.heap.size true 0 _ := ⟨Blk.new x2.val _ _, Keeps.out⟩
        refine wp_loop_rounds 1 ?_
        rw [rounds_succ]
        go_wp2_with fail
        go_loopw [10] (fun i wr => ∃ (q : Nat), i = .int .i64 q ∧ (((q : Int) < n ∧ BInv w x2.val.heap.size true q wr) ∨ ((q : Int) = n ∧ BInv w x2.val.heap.size false 0 wr))) (fun i _ => (n - intOf i).toNat)
        case atStart => exact ⟨0, rfl, .inl ⟨by omega, inv⟩⟩
        case round =>
          obtain ⟨q, rfl, ⟨hq, inv'⟩ | ⟨hq, inv'⟩⟩ := hrel
          · haveI : Keeps w wr := ⟨inv'.keep⟩
            have hC := inv'.blk.cell
            have hF := inv'.blk.frozen
            haveI := inv'.blk.ltw
            have HINV := Lib.hid inv'
            clear inv' inv
            by_cases hn : n ≤ (q : Int) + 1
            · have hs : stepF ⟨true, q⟩ false false true n = ⟨false, 0⟩ := by
                simp [stepF, hn]
              have HST := Lib.hid (fun W => step_to true q false false true n W false 0 hs (by omega) (by omega))
              clear hs
              go_wp2_with (go_at_call 14; refine (HST.out _).mono ?_; rintro e w1 ⟨rfl, y, rfl⟩)
              go_roundw
              case rel => exact ⟨q + 1, by go_num, .inr ⟨by omega, HINV.out.step hge y false 0⟩⟩
              case measure => simp [intOf]; omega
            · have hs : stepF ⟨true, q⟩ false false true n = ⟨true, (q : Int) + 1⟩ := by
                simp [stepF]; omega
              have HST := Lib.hid (fun W => step_to true q false false true n W true ((q : Int) + 1) hs (by omega) (by omega))
              clear hs
              go_wp2_with (go_at_call 14; refine (HST.out _).mono ?_; rintro e w1 ⟨rfl, y, rfl⟩)
              go_roundw
              case rel => exact ⟨q + 1, by go_num, .inl ⟨by omega, by simpa using HINV.out.step hge y true ((q : Int) + 1)⟩⟩
              case measure => simp [intOf]; omega
          · subst hq
            haveI : Keeps w wr := ⟨inv'.keep⟩
            have hC := inv'.blk.cell
            have hF := inv'.blk.frozen
            haveI := inv'.blk.ltw
            have HINV := Lib.hid inv'
            clear inv' inv
            go_wp2_with fail
            refine fin_ret (v := .bool _) ?_ rfl ?_
            · refine (results_tmp rfl _ _ _).trans ?_
              refine congrArg (fun b => Result.ok (Value.bool b) _) ?_
              rfl
            · exact Keeps.out
    · obtain ⟨a, cap, rfl, hcap, hcell⟩ := hv.resolve_left (by omega)
      obtain ⟨ab, ao, asp⟩ := a
      obtain rfl : asp = none := (hcell 0 h0).1
      have hab := (hcell 0 h0).2.1
      have HC := Lib.hid hcell
      clear hcell hv
      haveI : LtW ab w := ⟨hab⟩
      by_cases hlen : 20 < len
      · go_enter Try.func7, Try.ntmps7
        go_wp2_with (first | (go_at_call 10; refine (awake_any _).mono ?_; rintro e w1 ⟨rfl, x1, rfl⟩) | (go_at_call 13; refine (HP.out _).mono ?_; rintro e w1 ⟨rfl, x1, rfl⟩))
        refine fin_ret (v := .bool _) ?_ rfl ?_
        · refine (results_tmp rfl _ _ _).trans ?_
          refine congrArg (fun b => Result.ok (Value.bool b) _) ?_
          rfl
        · exact Keeps.out
      · go_enter Try.func7, Try.ntmps7
        go_wp2_with (first | (go_at_call 10; refine (awake_any _).mono ?_; rintro e w1 ⟨rfl, x1, rfl⟩) | (go_at_call 13; refine (HP.out _).mono ?_; rintro e w1 ⟨rfl, x1, rfl⟩))
        refine (step_to false 0 true true true n _ true 0 rfl (by decide) (by decide)).mono ?_
        rintro e w1 ⟨rfl, x2, rfl⟩
        go_wp2_with fail
        have hge : w.heap.size ≤ x2.val.heap.size := (Keeps.out : Below w.heap.size w x2.val).size
        go_loopw [8] (fun i wr => ∃ (k : Nat), k ≤ len ∧ i = .int .i64 k ∧ BInv w x2.val.heap.size true 0 wr) (fun i _ => len - (intOf i).toNat)
        case atStart => exact ⟨0, by omega, rfl, Blk.new _ _ _, Keeps.out⟩
        case round =>
          obtain ⟨k, hk, rfl, inv⟩ := hrel
          by_cases hlt : k < len
          · obtain ⟨_, _, g0, hwf⟩ := HC.out k hlt
            try simp only at g0
            have hz := bounds_u16 hwf
            generalize z k = zk at g0 hwf hz
            obtain ⟨wo, rfl⟩ : ∃ wo : World, wo = wr := ⟨_, rfl⟩
            go_wp2_with fail
            have hmod : 0 ≤ zk % n ∧ zk % n < n := ⟨Int.emod_nonneg _ (by omega), Int.emod_lt_of_pos _ (by omega)⟩
            go_loopw [9] (fun i wr => ∃ (q : Nat), (q : Int) ≤ zk % n ∧ i = .int .i64 q ∧ BInv w x2.val.heap.size true q wr) (fun i _ => (n - intOf i).toNat)
            case atStart => exact ⟨0, by simpa using hmod.1, rfl, inv⟩
            case round =>
              obtain ⟨q, hq, rfl, inv'⟩ := hrel
              haveI : Keeps w wr := ⟨inv'.keep⟩
              have hkw : ∀ o, wr.cell? ⟨ab, o, none⟩ = w.cell? ⟨ab, o, none⟩ := fun o => inv'.keep.cell (p := ⟨ab, o, none⟩) hab
              haveI : LtW ab wr := ⟨Nat.lt_of_lt_of_le hab inv'.keep.size⟩
              have hC := inv'.blk.cell
              have hF := inv'.blk.frozen
              haveI := inv'.blk.ltw
              have HINV := Lib.hid inv'
              clear inv' inv
              by_cases hlq : (q : Int) < zk % n
              · have hs : stepF ⟨true, q⟩ false false true n = ⟨true, (q : Int) + 1⟩ := by
                  simp [stepF]; omega
                have HST := Lib.hid (fun W => step_to true q false false true n W true ((q : Int) + 1) hs (by omega) (by omega))
                clear hs
                go_wp2_with (go_at_call 14; refine (HST.out _).mono ?_; rintro e w1 ⟨rfl, y, rfl⟩)
                go_roundw
                case rel => exact ⟨q + 1, by omega, by go_num, by simpa using HINV.out.step hge y true ((q : Int) + 1)⟩
                case measure => simp [intOf]; omega
              · have hs : stepF ⟨true, q⟩ false how how n = ⟨true, 0⟩ := by
                  cases how <;> simp [stepF]
                have HST := Lib.hid (fun W => step_to true q false how how n W true 0 hs (by omega) (by omega))
                clear hs
                go_wp2_with (go_at_call 14; refine (HST.out _).mono ?_; rintro e w1 ⟨rfl, y, rfl⟩)
                go_roundw
                case rel => exact ⟨k + 1, by omega, by go_num, HINV.out.step hge y true 0⟩
                case measure => simp [intOf]; omega
          · go_wp2_with fail
            go_loopw [10] (fun i wr => ∃ (q : Nat), i = .int .i64 q ∧ (((q : Int) < n ∧ BInv w x2.val.heap.size true q wr) ∨ ((q : Int) = n ∧ BInv w x2.val.heap.size false 0 wr))) (fun i _ => (n - intOf i).toNat)
            case atStart => exact ⟨0, rfl, .inl ⟨by omega, inv⟩⟩
            case round =>
              obtain ⟨q, rfl, ⟨hq, inv'⟩ | ⟨hq, inv'⟩⟩ := hrel
              · haveI : Keeps w wr := ⟨inv'.keep⟩
                have hC := inv'.blk.cell
                have hF := inv'.blk.frozen
                haveI := inv'.blk.ltw
                have HINV := Lib.hid inv'
                clear inv' inv
                by_cases hn : n ≤ (q : Int) + 1
                · have hs : stepF ⟨true, q⟩ false false true n = ⟨false, 0⟩ := by
                    simp [stepF, hn]
                  have HST := Lib.hid (fun W => step_to true q false false true n W false 0 hs (by omega) (by omega))
                  clear hs
                  go_wp2_with (go_at_call 14; refine (HST.out _).mono ?_; rintro e w1 ⟨rfl, y, rfl⟩)
                  go_roundw
                  case rel => exact ⟨q + 1, by go_num, .inr ⟨by omega, HINV.out.step hge y false 0⟩⟩
                  case measure => simp [intOf]; omega
                · have hs : stepF ⟨true, q⟩ false false true n = ⟨true, (q : Int) + 1⟩ := by
                    simp [stepF]; omega
                  have HST := Lib.hid (fun W => step_to true q false false true n W true ((q : Int) + 1) hs (by omega) (by omega))
                  clear hs
                  go_wp2_with (go_at_call 14; refine (HST.out _).mono ?_; rintro e w1 ⟨rfl, y, rfl⟩)
                  go_roundw
                  case rel => exact ⟨q + 1, by go_num, .inl ⟨by omega, by simpa using HINV.out.step hge y true ((q : Int) + 1)⟩⟩
                  case measure => simp [intOf]; omega
              · subst hq
                haveI : Keeps w wr := ⟨inv'.keep⟩
                have hC := inv'.blk.cell
                have hF := inv'.blk.frozen
                haveI := inv'.blk.ltw
                have HINV := Lib.hid inv'
                clear inv' inv
                go_wp2_with fail
                refine fin_ret (v := .bool _) ?_ rfl ?_
                · refine (results_tmp rfl _ _ _).trans ?_
                  refine congrArg (fun b => Result.ok (Value.bool b) _) ?_
                  rfl
                · exact Keeps.out

section
open Go.ChangeShapes Go.WideShapes Go.ChangeAt
open Go.ChangeMaps (open_string shut_string)
set_option maxRecDepth 100000 in
theorem CondBreaks_lifted (os : Os) (started : os.Started) (H : Type) (enc : TypeId × Value → H) :
    ReturnsInHanded {} Try.checked os 7 .any (Rows.condBreaksSpec.pre6 enc Try.prog Try.f7 Rows.condBreaksRow.domain false) (Rows.condBreaksSpec.post enc Try.prog Try.f7 false true false false) := by
  refine returnsInHanded_of_change (C := Try.checked) own started (by kernel_rfl) Try.func7
    (ChangeSpec.witness6 (enc := enc) (C := Try.checked) false ⟨#[], #[.int .i64 0, .slice none 0 0, .bool false], []⟩ 8 (by kernel_rfl) (by kernel_rfl) (by kernel_rfl) (by kernel_rfl)) ?_
  intro W base args ds gs before hval0 hW hcnd _
  have hval : ∀ (j : Nat) t v, Try.f7.params[j]? = some t → args[j]? = some v → Value.okWide Try.prog W .any base t v := hval0
  have hW' := hW
  obtain ⟨p, q, hA0, hV, rfl, hfz, hnd⟩ := hW
  have hA : DataW.TrodAll enc Try.prog W 0 (fun _ => true) true Try.f7.params.toList args.toList ds p := hA0
  rw [Try.params7] at hA hval
  obtain ⟨v0, vs0, d0, ds0, p0, q0, hargs, rfl, rfl, h0, r0⟩ := trodAll_cons hA
  obtain ⟨v1, vs1, d1, ds1, p1, q1, rfl, rfl, rfl, h1, r1⟩ := trodAll_cons r0
  obtain ⟨v2, vs2, d2, ds2, p2, q2, rfl, rfl, rfl, h2, r2⟩ := trodAll_cons r1
  obtain ⟨rfl, rfl, rfl⟩ := trodAll_nil r2
  obtain rfl : args = #[v0, v1, v2] := by cases args; simp_all
  obtain ⟨rfl, rfl⟩ := trodVars_none hV
  have k0 := h0
  have lt0 : ∀ x ∈ p0, x.block < W.heap.size := by obtain ⟨m, hm⟩ := k0; exact DataW.trod_lt m _ _ _ hm
  have k1 := h1
  have lt1 : ∀ x ∈ p1, x.block < W.heap.size := by obtain ⟨m, hm⟩ := k1; exact DataW.trod_lt m _ _ _ hm
  have k2 := h2
  have lt2 : ∀ x ∈ p2, x.block < W.heap.size := by obtain ⟨m, hm⟩ := k2; exact DataW.trod_lt m _ _ _ hm
  obtain ⟨n, rfl, rfl, rfl, wn⟩ := open_int Try.underlying3 (hval 0 3 v0 rfl rfl) h0
  obtain ⟨len, z, hrd⟩ := open_intsAt (k := .u16) Try.underlying34 Try.underlying35 (by kernel_rfl) (hval 1 34 v1 rfl rfl) h1
  obtain ⟨how, rfl, rfl, rfl⟩ := open_bool Try.underlying4 (hval 2 4 v2 rfl rfl) h2
  clear hA0 hval0
  refine (breaks_any n _ len z how W hrd).mono fun e W' ⟨he, x, hx⟩ => ?_
  subst he
  subst hx
  have bel := x.below
  exact ⟨_, rfl, _, _, _, [], _, [], hW', trodAll_mk1 (shut_bool Try.underlying4 _), (trodAll_cons_mk (Below.trod laidOut (by kernel_rfl) (of_decide_eq_true (by kernel_rfl)) k0 bel lt0) (trodAll_cons_mk (Below.trod laidOut (by kernel_rfl) (of_decide_eq_true (by kernel_rfl)) k1 bel lt1) (trodAll_cons_mk (Below.trod laidOut (by kernel_rfl) (of_decide_eq_true (by kernel_rfl)) k2 bel lt2) trodAll_mk0))), rfl, bel.frame _, fun h => by cases h⟩
/-- CondBreaks: whatever the input, the law returns true, and each argument reads as it did. -/
theorem CondBreaks_holds : Rows.CondBreaksSaid :=
  OpenClaim.holds_of_wide 7 Try.f7 rfl rfl rfl rfl rfl rfl rfl ⟨rfl, rfl, rfl, rfl, rfl⟩ rfl rfl rfl rfl rfl (by kernel_rfl) Try.func7 (by kernel_rfl)
    (of_decide_eq_true (by kernel_rfl)) (by unfold Func.isWrapper; first | (rw [if_pos (by decide +kernel)]; kernel_rfl) | (rw [if_neg (by decide +kernel)]; exact ⟨rfl, rfl⟩))
    (fun os started H enc _ => CondBreaks_lifted os started H enc)
#print axioms CondBreaks_holds
end
end Go.Proofs.Ytkgganfbcfojcaa
