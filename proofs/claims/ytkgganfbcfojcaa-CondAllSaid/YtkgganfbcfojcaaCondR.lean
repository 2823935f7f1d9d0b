/- The walk of the reference's All. -/
import Derived.Test.YtkgganfbcfojcaaCondA
namespace Go.Proofs.Ytkgganfbcfojcaa
open Go.RowKit

structure RInv (c d : Nat → CC) (h m : Nat → Bool) (w : World) (k : Nat) (ev : Value) (wr : World) : Prop where
  b0 : Blk wr w.heap.size (cells3 c) 37
  b1 : Blk wr (w.heap.size + 1) #[.bool (h 0), .bool (h 1), .bool (h 2)] 38
  b2 : Blk wr (w.heap.size + 1 + 1) #[.bool (m 0), .bool (m 1), .bool (m 2)] 38
  b3 : Blk wr (w.heap.size + 1 + 1 + 1) (cells3 fun _ => ⟨false, 0⟩) 37
  b4 : Blk wr (w.heap.size + 1 + 1 + 1 + 1) (cells3 (upto (fun _ => ⟨false, 0⟩) d k)) 37
  own : ∃ q, wr.ownsRow (w.heap.size + 1 + 1 + 1 + 1 + 1) 45 4 ev q ((evs c d k).flatMap Ev.cells)
  keep : Below w.heap.size w wr

structure RMid (c d : Nat → CC) (h m : Nat → Bool) (w : World) (k : Nat) (wr : World) : Prop where
  b0 : Blk wr w.heap.size (cells3 c) 37
  b1 : Blk wr (w.heap.size + 1) #[.bool (h 0), .bool (h 1), .bool (h 2)] 38
  b2 : Blk wr (w.heap.size + 1 + 1) #[.bool (m 0), .bool (m 1), .bool (m 2)] 38
  b3 : Blk wr (w.heap.size + 1 + 1 + 1) (cells3 fun _ => ⟨false, 0⟩) 37
  b4 : Blk wr (w.heap.size + 1 + 1 + 1 + 1) (cells3 (upto (fun _ => ⟨false, 0⟩) d (k + 1))) 37
  keep : Below w.heap.size w wr

theorem RInv.round {c d : Nat → CC} {h m : Nat → Bool} {w : World} {k : Nat} {ev : Value} {wr : World} (inv : RInv c d h m w k ev wr) (hk : k < 3) {on : Bool} {calm : Int} (h1 : on = (d k).on) (h2 : calm = (d k).calm) (x : Ext wr) :
    RMid c d h m w k ((x.val.setCell ⟨w.heap.size + 1 + 1 + 1 + 1, 2 * k, none⟩ (.bool on)).setCell ⟨w.heap.size + 1 + 1 + 1 + 1, 2 * k + 1, none⟩ (.int .i64 calm)) := by
  subst h1; subst h2
  refine ⟨?_, ?_, ?_, ?_, ?_, ?_⟩
  · exact ((inv.b0.ext x).set_ne (by omega) _ _).set_ne (by omega) _ _
  · exact ((inv.b1.ext x).set_ne (by omega) _ _).set_ne (by omega) _ _
  · exact ((inv.b2.ext x).set_ne (by omega) _ _).set_ne (by omega) _ _
  · exact ((inv.b3.ext x).set_ne (by omega) _ _).set_ne (by omega) _ _
  · have := (((inv.b4.ext x).set (2 * k) (.bool (d k).on)).set (2 * k + 1) (.int .i64 (d k).calm))
    have e : ((cells3 (upto (fun _ => ⟨false, 0⟩) d k)).setIfInBounds (2 * k) (.bool (d k).on)).setIfInBounds (2 * k + 1) (.int .i64 (d k).calm) = cells3 (upto (fun _ => ⟨false, 0⟩) d (k + 1)) := by
      obtain rfl | rfl | rfl : k = 0 ∨ k = 1 ∨ k = 2 := by omega
      all_goals simp [cells3, upto]
    rw [e] at this
    exact this
  · haveI : Keeps w wr := ⟨inv.keep⟩
    exact Keeps.out

theorem RMid.ext {c d : Nat → CC} {h m : Nat → Bool} {w : World} {k : Nat} {wr : World} (mid : RMid c d h m w k wr) (x : Ext wr) : RMid c d h m w k x.val :=
  ⟨mid.b0.ext x, mid.b1.ext x, mid.b2.ext x, mid.b3.ext x, mid.b4.ext x, by haveI : Keeps w wr := ⟨mid.keep⟩; exact Keeps.out⟩

theorem RMid.same {c d : Nat → CC} {h m : Nat → Bool} {w : World} {k : Nat} {ev : Value} {wr : World} (mid : RMid c d h m w k wr) (own : ∃ q, wr.ownsRow (w.heap.size + 1 + 1 + 1 + 1 + 1) 45 4 ev q ((evs c d (k + 1)).flatMap Ev.cells)) :
    RInv c d h m w (k + 1) ev wr := ⟨mid.b0, mid.b1, mid.b2, mid.b3, mid.b4, own, mid.keep⟩

theorem RMid.grow {c d : Nat → CC} {h m : Nat → Bool} {w : World} {k : Nat} {ev : Value} {wr w1 : World} {o : Obj} {row : Option Nat} (mid : RMid c d h m w k wr) (hg : (wr.alloc o).grownBy w1 row) (hr : ∀ k', row = some k' → w.heap.size + 1 + 1 + 1 + 1 + 1 ≤ k')
    (own : ∃ q, w1.ownsRow (w.heap.size + 1 + 1 + 1 + 1 + 1) 45 4 ev q ((evs c d (k + 1)).flatMap Ev.cells)) :
    RInv c d h m w (k + 1) ev w1 := by
  have hne : ∀ b, b < w.heap.size + 1 + 1 + 1 + 1 + 1 → row ≠ some b := fun b hb e => by have := hr b e; omega
  refine ⟨(mid.b0.alloc o).grown hg (hne _ (by omega)), (mid.b1.alloc o).grown hg (hne _ (by omega)), (mid.b2.alloc o).grown hg (hne _ (by omega)), (mid.b3.alloc o).grown hg (hne _ (by omega)), (mid.b4.alloc o).grown hg (hne _ (by omega)), own, ?_⟩
  haveI : Keeps w wr := ⟨mid.keep⟩
  exact Below.grown (Keeps.out (w := wr.alloc o)) hg (Keeps.out (w0 := w) (w := wr.alloc o)).size (fun k' hk' => by have := hr k' hk'; omega)



set_option maxHeartbeats 400000 in
theorem rall_any (o0 o1 o2 : Bool) (n0 n1 n2 : Int) (h m : Nat → Bool) (fresh : Bool) (n : Int) (w : World) (hb0 : 0 ≤ n0 ∧ n0 ≤ 1000) (hb1 : 0 ≤ n1 ∧ n1 ≤ 1000) (hb2 : 0 ≤ n2 ∧ n2 ≤ 1000)
    (hr0 : rightF ⟨o0, n0⟩ n = true) (hr1 : rightF ⟨o1, n1⟩ n = true) (hr2 : rightF ⟨o2, n2⟩ n = true) (d : Nat → CC) (hdd : d = fun i => stepF (c3 o0 o1 o2 n0 n1 n2 i) (h i) (m i) fresh n) :
    Calls Try.prog 18 #[.agg #[.bool o0, .int .i64 n0, .bool o1, .int .i64 n1, .bool o2, .int .i64 n2], .agg #[.bool (h 0), .bool (h 1), .bool (h 2)], .agg #[.bool (m 0), .bool (m 1), .bool (m 2)], .bool fresh, .int .i64 n] w
      (RetP w fun v w' => ∃ ev k, v = .tuple #[.agg (cells3 d), ev] ∧
        w'.ownsRow w.heap.size 45 4 ev k ((evs (c3 o0 o1 o2 n0 n1 n2) d 3).flatMap Ev.cells)) := by
  obtain ⟨i0, hi0, hz0, hz1, hz2⟩ := info_parts Try.info45
  have HR0 := Lib.hid hr0
  have HR1 := Lib.hid hr1
  have HR2 := Lib.hid hr2
  clear hr0 hr1 hr2
  go_enter Try.func18, Try.ntmps18
  go_wp2_with fail
  go_loopw [13, 14] (fun ev i wr => ∃ k : Nat, k ≤ 3 ∧ i = .int .i64 k ∧ RInv (c3 o0 o1 o2 n0 n1 n2) d h m w k ev wr) (fun _ i _ => 3 - (intOf i).toNat)
  case atStart =>
    refine ⟨0, by omega, rfl, ?_, ?_, ?_, ?_, ?_, ?_, ?_⟩
    · exact ((((Blk.new _ _ _).alloc _).alloc _).alloc _).alloc _
    · exact (((Blk.new_at _ _ _ _ (by simp)).alloc _).alloc _).alloc _
    · exact ((Blk.new_at _ _ _ _ (by simp)).alloc _).alloc _
    · exact (Blk.new_at _ _ _ _ (by simp)).alloc _
    · exact Blk.new_at _ _ _ _ (by simp)
    · exact ⟨0, World.ownsRow_nil _ _ _ _⟩
    · exact Keeps.out
  case round =>
    obtain ⟨k, hk, hi, inv⟩ := hrel
    have HD := Lib.hid hdd
    clear hdd
    obtain rfl | rfl | rfl | rfl : k = 0 ∨ k = 1 ∨ k = 2 ∨ k = 3 := by omega
    · replace hi : _ = Value.int .i64 0 := hi
      subst hi
      have b4 : Blk wr (w.heap.size + 1 + 1 + 1 + 1) #[.bool false, .int .i64 0, .bool false, .int .i64 0, .bool false, .int .i64 0] 37 := inv.b4
      have b0 : Blk wr w.heap.size #[.bool o0, .int .i64 n0, .bool o1, .int .i64 n1, .bool o2, .int .i64 n2] 37 := inv.b0
      have hC0 := b0.cell
      have hF0 := b0.frozen
      haveI := b0.ltw
      have hC1 := inv.b1.cell
      have hF1 := inv.b1.frozen
      haveI := inv.b1.ltw
      have hC2 := inv.b2.cell
      have hF2 := inv.b2.frozen
      haveI := inv.b2.ltw
      have hC4 := b4.cell
      have hF4 := b4.frozen
      haveI := b4.ltw
      obtain ⟨q, hown⟩ := inv.own
      have HB0 := Lib.hid b0
      have HB4 := Lib.hid b4
      have HOWN := Lib.hid hown
      have HINV := Lib.hid inv
      clear b0 b4 hown inv
      have hst := fun W => rstep_any ⟨o0, n0⟩ (h 0) (m 0) fresh n W hb0.1 hb0.2 HR0.out
      have HST := Lib.hid hst
      clear hst
      go_wp2_with fail
      refine wp_region_E0 14 (by kernel_rfl) (by kernel_rfl) ?_
      simp only [List.take_succ_cons, List.take_zero, List.drop_succ_cons, List.drop_zero]
      repeat
        refine wpE_step (fun K hK => ?_)
        go_simp
        first
          | (refine hK _ ?_; clear hK K)
          | (apply Exists.intro; refine ⟨fun x => ?_, hK _ ?_⟩; (focus ((go_at_call 15; exact HST.out _))); clear hK K)
      refine wpE_nil (fun x => ?_)
      have hq : q ≤ 0 := by
        have h1 := HOWN.out.1
        have h2 := evs_len (c3 o0 o1 o2 n0 n1 n2) d 0
        simp only [evs_cells] at h1
        omega
      have hown3 : ∀ v0 v1 : Value, ((x.val.setCell ⟨w.heap.size + 1 + 1 + 1 + 1, 2 * 0, none⟩ v0).setCell ⟨w.heap.size + 1 + 1 + 1 + 1, 2 * 0 + 1, none⟩ v1).ownsRow (w.heap.size + 1 + 1 + 1 + 1 + 1) 45 4 _ q ((evs (c3 o0 o1 o2 n0 n1 n2) d 0).flatMap Ev.cells) := fun v0 v1 =>
        ownsRow_setCell_ne (ownsRow_setCell_ne (ownsRow_ext HOWN.out x) (fun e => by have := (HOWN.out.lt _ e).1; simp at this; omega) _) (fun e => by have := (HOWN.out.lt _ e).1; simp at this; omega) _
      have HO3 := Lib.hid hown3
      clear hown3
      rcases Bool.eq_false_or_eq_true (stepF ⟨o0, n0⟩ (h 0) (m 0) fresh n).on with ho | ho
      · have HO := Lib.hid ho
        have HMID := Lib.hid (HINV.out.round (k := 0) (by omega) (on := true) (by rw [HD.out]; exact ho.symm) (calm := (stepF ⟨o0, n0⟩ (h 0) (m 0) fresh n).calm) (by rw [HD.out]; rfl) x)
        go_wp2_with fail
        cases o0
        · refine wp_region_E0 9 (by kernel_rfl) (by kernel_rfl) ?_
          simp only [List.take_succ_cons, List.take_zero, List.drop_succ_cons, List.drop_zero]
          repeat
            refine wpE_step (fun K hK => ?_)
            go_simp
            first
              | (refine hK _ ?_; clear hK K)
              | (apply Exists.intro; refine ⟨fun x => ?_, hK _ ?_⟩; (focus (fail)); clear hK K)
          refine wpE_nil (fun x => ?_)
          go_wp2_with (at_builtin; go_must (refine wpList_append_own _ rfl _ _ 39 rfl (w.heap.size + 1 + 1 + 1 + 1 + 1) 45 i0 (.agg #[.int .i64 0, .string ⟨#[]⟩, .int .i64 0, .int .i64 0]) 4 40 Try.underlying39 hi0 hz0 hz1 hz2 rfl (by decide) _ q _ rfl ((ownsRow_ext (HO3.out _ _) _).alloc _) ⟨_, 0, none⟩ 1 1 [.int .i64 6, .string ⟨#[]⟩, .int .i64 0, .int .i64 0] rfl rfl ?c1 ?c2 ?c3 ?c4 ?c5 ?_))
          case c1 => exact news_alloc _ _ _ _ (by simp)
          case c2 => simp [Value.oneCell']
          case c3 => unfold maxLen; omega
          case c4 => omega
          case c5 =>
            have h3 := Nat.lt_of_lt_of_le HMID.out.b4.lt x.below.size
            simp only [World.size_alloc]
            omega
          intro v' w1 hown' hgrow _
          have HOWN' := Lib.hid hown'
          clear hown'
          have HG := Lib.hid hgrow
          clear hgrow
          go_wp2_with fail
          go_roundw
          case rel =>
            refine ⟨0 + 1, by omega, rfl, ?_⟩
            refine (HMID.out.ext x).grow HG.out (fun k' hk' => (HOWN.out.lt k' hk').1) ?_
            refine ⟨q + 1, ?_⟩
            have e : evs (c3 false o1 o2 n0 n1 n2) d (0 + 1) = evs (c3 false o1 o2 n0 n1 n2) d 0 ++ [⟨6, ⟨#[]⟩, 0, 0⟩] := by
              have he : evOf (c3 false o1 o2 n0 n1 n2 0) (d 0) 0 = [⟨6, ⟨#[]⟩, 0, 0⟩] := by rw [HD.out]; simp [evOf, c3, HO.out]
              show evs (c3 false o1 o2 n0 n1 n2) d 0 ++ evOf (c3 false o1 o2 n0 n1 n2 0) (d 0) 0 = _
              rw [he]
            rw [e, List.flatMap_append]
            simpa [Ev.cells] using HOWN'.out
          case measure => simp [intOf]
        · refine wp_region_E0 9 (by kernel_rfl) (by kernel_rfl) ?_
          simp only [List.take_succ_cons, List.take_zero, List.drop_succ_cons, List.drop_zero]
          repeat
            refine wpE_step (fun K hK => ?_)
            go_simp
            first
              | (refine hK _ ?_; clear hK K)
              | (apply Exists.intro; refine ⟨fun x => ?_, hK _ ?_⟩; (focus (fail)); clear hK K)
          refine wpE_nil (fun x => ?_)
          go_wp2_with fail
          go_roundw
          case rel =>
            refine ⟨0 + 1, by omega, rfl, ?_⟩
            refine (HMID.out.ext x).same ?_
            refine ⟨q, ?_⟩
            have e : evs (c3 true o1 o2 n0 n1 n2) d (0 + 1) = evs (c3 true o1 o2 n0 n1 n2) d 0 := by
              have he : evOf (c3 true o1 o2 n0 n1 n2 0) (d 0) 0 = [] := by rw [HD.out]; simp [evOf, c3, HO.out]
              show evs (c3 true o1 o2 n0 n1 n2) d 0 ++ evOf (c3 true o1 o2 n0 n1 n2 0) (d 0) 0 = _
              rw [he, List.append_nil]
            rw [e]
            exact ownsRow_ext (HO3.out _ _) x
          case measure => simp [intOf]
      · have HO := Lib.hid ho
        have HMID := Lib.hid (HINV.out.round (k := 0) (by omega) (on := false) (by rw [HD.out]; exact ho.symm) (calm := (stepF ⟨o0, n0⟩ (h 0) (m 0) fresh n).calm) (by rw [HD.out]; rfl) x)
        go_wp2_with fail
        cases o0
        · refine wp_region_E0 9 (by kernel_rfl) (by kernel_rfl) ?_
          simp only [List.take_succ_cons, List.take_zero, List.drop_succ_cons, List.drop_zero]
          repeat
            refine wpE_step (fun K hK => ?_)
            go_simp
            first
              | (refine hK _ ?_; clear hK K)
              | (apply Exists.intro; refine ⟨fun x => ?_, hK _ ?_⟩; (focus (fail)); clear hK K)
          refine wpE_nil (fun x => ?_)
          go_wp2_with fail
          go_roundw
          case rel =>
            refine ⟨0 + 1, by omega, rfl, ?_⟩
            refine (HMID.out.ext x).same ?_
            refine ⟨q, ?_⟩
            have e : evs (c3 false o1 o2 n0 n1 n2) d (0 + 1) = evs (c3 false o1 o2 n0 n1 n2) d 0 := by
              have he : evOf (c3 false o1 o2 n0 n1 n2 0) (d 0) 0 = [] := by rw [HD.out]; simp [evOf, c3, HO.out]
              show evs (c3 false o1 o2 n0 n1 n2) d 0 ++ evOf (c3 false o1 o2 n0 n1 n2 0) (d 0) 0 = _
              rw [he, List.append_nil]
            rw [e]
            exact ownsRow_ext (HO3.out _ _) x
          case measure => simp [intOf]
        · refine wp_region_E0 9 (by kernel_rfl) (by kernel_rfl) ?_
          simp only [List.take_succ_cons, List.take_zero, List.drop_succ_cons, List.drop_zero]
          repeat
            refine wpE_step (fun K hK => ?_)
            go_simp
            first
              | (refine hK _ ?_; clear hK K)
              | (apply Exists.intro; refine ⟨fun x => ?_, hK _ ?_⟩; (focus (fail)); clear hK K)
          refine wpE_nil (fun x => ?_)
          go_wp2_with (at_builtin; go_must (refine wpList_append_own _ rfl _ _ 39 rfl (w.heap.size + 1 + 1 + 1 + 1 + 1) 45 i0 (.agg #[.int .i64 0, .string ⟨#[]⟩, .int .i64 0, .int .i64 0]) 4 40 Try.underlying39 hi0 hz0 hz1 hz2 rfl (by decide) _ q _ rfl ((ownsRow_ext (HO3.out _ _) _).alloc _) ⟨_, 0, none⟩ 1 1 [.int .i64 7, .string ⟨#[]⟩, .int .i64 0, .int .i64 0] rfl rfl ?c1 ?c2 ?c3 ?c4 ?c5 ?_))
          case c1 => exact news_alloc _ _ _ _ (by simp)
          case c2 => simp [Value.oneCell']
          case c3 => unfold maxLen; omega
          case c4 => omega
          case c5 =>
            have h3 := Nat.lt_of_lt_of_le HMID.out.b4.lt x.below.size
            simp only [World.size_alloc]
            omega
          intro v' w1 hown' hgrow _
          have HOWN' := Lib.hid hown'
          clear hown'
          have HG := Lib.hid hgrow
          clear hgrow
          go_wp2_with fail
          go_roundw
          case rel =>
            refine ⟨0 + 1, by omega, rfl, ?_⟩
            refine (HMID.out.ext x).grow HG.out (fun k' hk' => (HOWN.out.lt k' hk').1) ?_
            refine ⟨q + 1, ?_⟩
            have e : evs (c3 true o1 o2 n0 n1 n2) d (0 + 1) = evs (c3 true o1 o2 n0 n1 n2) d 0 ++ [⟨7, ⟨#[]⟩, 0, 0⟩] := by
              have he : evOf (c3 true o1 o2 n0 n1 n2 0) (d 0) 0 = [⟨7, ⟨#[]⟩, 0, 0⟩] := by rw [HD.out]; simp [evOf, c3, HO.out]
              show evs (c3 true o1 o2 n0 n1 n2) d 0 ++ evOf (c3 true o1 o2 n0 n1 n2 0) (d 0) 0 = _
              rw [he]
            rw [e, List.flatMap_append]
            simpa [Ev.cells] using HOWN'.out
          case measure => simp [intOf]
    · replace hi : _ = Value.int .i64 1 := hi
      subst hi
      have b4 : Blk wr (w.heap.size + 1 + 1 + 1 + 1) #[.bool (d 0).on, .int .i64 (d 0).calm, .bool false, .int .i64 0, .bool false, .int .i64 0] 37 := inv.b4
      have b0 : Blk wr w.heap.size #[.bool o0, .int .i64 n0, .bool o1, .int .i64 n1, .bool o2, .int .i64 n2] 37 := inv.b0
      have hC0 := b0.cell
      have hF0 := b0.frozen
      haveI := b0.ltw
      have hC1 := inv.b1.cell
      have hF1 := inv.b1.frozen
      haveI := inv.b1.ltw
      have hC2 := inv.b2.cell
      have hF2 := inv.b2.frozen
      haveI := inv.b2.ltw
      have hC4 := b4.cell
      have hF4 := b4.frozen
      haveI := b4.ltw
      obtain ⟨q, hown⟩ := inv.own
      have HB0 := Lib.hid b0
      have HB4 := Lib.hid b4
      have HOWN := Lib.hid hown
      have HINV := Lib.hid inv
      clear b0 b4 hown inv
      have hst := fun W => rstep_any ⟨o1, n1⟩ (h 1) (m 1) fresh n W hb1.1 hb1.2 HR1.out
      have HST := Lib.hid hst
      clear hst
      go_wp2_with fail
      refine wp_region_E0 14 (by kernel_rfl) (by kernel_rfl) ?_
      simp only [List.take_succ_cons, List.take_zero, List.drop_succ_cons, List.drop_zero]
      repeat
        refine wpE_step (fun K hK => ?_)
        go_simp
        first
          | (refine hK _ ?_; clear hK K)
          | (apply Exists.intro; refine ⟨fun x => ?_, hK _ ?_⟩; (focus ((go_at_call 15; exact HST.out _))); clear hK K)
      refine wpE_nil (fun x => ?_)
      have hq : q ≤ 1 := by
        have h1 := HOWN.out.1
        have h2 := evs_len (c3 o0 o1 o2 n0 n1 n2) d 1
        simp only [evs_cells] at h1
        omega
      have hown3 : ∀ v0 v1 : Value, ((x.val.setCell ⟨w.heap.size + 1 + 1 + 1 + 1, 2 * 1, none⟩ v0).setCell ⟨w.heap.size + 1 + 1 + 1 + 1, 2 * 1 + 1, none⟩ v1).ownsRow (w.heap.size + 1 + 1 + 1 + 1 + 1) 45 4 _ q ((evs (c3 o0 o1 o2 n0 n1 n2) d 1).flatMap Ev.cells) := fun v0 v1 =>
        ownsRow_setCell_ne (ownsRow_setCell_ne (ownsRow_ext HOWN.out x) (fun e => by have := (HOWN.out.lt _ e).1; simp at this; omega) _) (fun e => by have := (HOWN.out.lt _ e).1; simp at this; omega) _
      have HO3 := Lib.hid hown3
      clear hown3
      rcases Bool.eq_false_or_eq_true (stepF ⟨o1, n1⟩ (h 1) (m 1) fresh n).on with ho | ho
      · have HO := Lib.hid ho
        have HMID := Lib.hid (HINV.out.round (k := 1) (by omega) (on := true) (by rw [HD.out]; exact ho.symm) (calm := (stepF ⟨o1, n1⟩ (h 1) (m 1) fresh n).calm) (by rw [HD.out]; rfl) x)
        go_wp2_with fail
        cases o1
        · refine wp_region_E0 9 (by kernel_rfl) (by kernel_rfl) ?_
          simp only [List.take_succ_cons, List.take_zero, List.drop_succ_cons, List.drop_zero]
          repeat
            refine wpE_step (fun K hK => ?_)
            go_simp
            first
              | (refine hK _ ?_; clear hK K)
              | (apply Exists.intro; refine ⟨fun x => ?_, hK _ ?_⟩; (focus (fail)); clear hK K)
          refine wpE_nil (fun x => ?_)
          go_wp2_with (at_builtin; go_must (refine wpList_append_own _ rfl _ _ 39 rfl (w.heap.size + 1 + 1 + 1 + 1 + 1) 45 i0 (.agg #[.int .i64 0, .string ⟨#[]⟩, .int .i64 0, .int .i64 0]) 4 40 Try.underlying39 hi0 hz0 hz1 hz2 rfl (by decide) _ q _ rfl ((ownsRow_ext (HO3.out _ _) _).alloc _) ⟨_, 0, none⟩ 1 1 [.int .i64 6, .string ⟨#[]⟩, .int .i64 1, .int .i64 0] rfl rfl ?c1 ?c2 ?c3 ?c4 ?c5 ?_))
          case c1 => exact news_alloc _ _ _ _ (by simp)
          case c2 => simp [Value.oneCell']
          case c3 => unfold maxLen; omega
          case c4 => omega
          case c5 =>
            have h3 := Nat.lt_of_lt_of_le HMID.out.b4.lt x.below.size
            simp only [World.size_alloc]
            omega
          intro v' w1 hown' hgrow _
          have HOWN' := Lib.hid hown'
          clear hown'
          have HG := Lib.hid hgrow
          clear hgrow
          go_wp2_with fail
          go_roundw
          case rel =>
            refine ⟨1 + 1, by omega, rfl, ?_⟩
            refine (HMID.out.ext x).grow HG.out (fun k' hk' => (HOWN.out.lt k' hk').1) ?_
            refine ⟨q + 1, ?_⟩
            have e : evs (c3 o0 false o2 n0 n1 n2) d (1 + 1) = evs (c3 o0 false o2 n0 n1 n2) d 1 ++ [⟨6, ⟨#[]⟩, 1, 0⟩] := by
              have he : evOf (c3 o0 false o2 n0 n1 n2 1) (d 1) 1 = [⟨6, ⟨#[]⟩, 1, 0⟩] := by rw [HD.out]; simp [evOf, c3, HO.out]
              show evs (c3 o0 false o2 n0 n1 n2) d 1 ++ evOf (c3 o0 false o2 n0 n1 n2 1) (d 1) 1 = _
              rw [he]
            rw [e, List.flatMap_append]
            simpa [Ev.cells] using HOWN'.out
          case measure => simp [intOf]
        · refine wp_region_E0 9 (by kernel_rfl) (by kernel_rfl) ?_
          simp only [List.take_succ_cons, List.take_zero, List.drop_succ_cons, List.drop_zero]
          repeat
            refine wpE_step (fun K hK => ?_)
            go_simp
            first
              | (refine hK _ ?_; clear hK K)
              | (apply Exists.intro; refine ⟨fun x => ?_, hK _ ?_⟩; (focus (fail)); clear hK K)
          refine wpE_nil (fun x => ?_)
          go_wp2_with fail
          go_roundw
          case rel =>
            refine ⟨1 + 1, by omega, rfl, ?_⟩
            refine (HMID.out.ext x).same ?_
            refine ⟨q, ?_⟩
            have e : evs (c3 o0 true o2 n0 n1 n2) d (1 + 1) = evs (c3 o0 true o2 n0 n1 n2) d 1 := by
              have he : evOf (c3 o0 true o2 n0 n1 n2 1) (d 1) 1 = [] := by rw [HD.out]; simp [evOf, c3, HO.out]
              show evs (c3 o0 true o2 n0 n1 n2) d 1 ++ evOf (c3 o0 true o2 n0 n1 n2 1) (d 1) 1 = _
              rw [he, List.append_nil]
            rw [e]
            exact ownsRow_ext (HO3.out _ _) x
          case measure => simp [intOf]
      · have HO := Lib.hid ho
        have HMID := Lib.hid (HINV.out.round (k := 1) (by omega) (on := false) (by rw [HD.out]; exact ho.symm) (calm := (stepF ⟨o1, n1⟩ (h 1) (m 1) fresh n).calm) (by rw [HD.out]; rfl) x)
        go_wp2_with fail
        cases o1
        · refine wp_region_E0 9 (by kernel_rfl) (by kernel_rfl) ?_
          simp only [List.take_succ_cons, List.take_zero, List.drop_succ_cons, List.drop_zero]
          repeat
            refine wpE_step (fun K hK => ?_)
            go_simp
            first
              | (refine hK _ ?_; clear hK K)
              | (apply Exists.intro; refine ⟨fun x => ?_, hK _ ?_⟩; (focus (fail)); clear hK K)
          refine wpE_nil (fun x => ?_)
          go_wp2_with fail
          go_roundw
          case rel =>
            refine ⟨1 + 1, by omega, rfl, ?_⟩
            refine (HMID.out.ext x).same ?_
            refine ⟨q, ?_⟩
            have e : evs (c3 o0 false o2 n0 n1 n2) d (1 + 1) = evs (c3 o0 false o2 n0 n1 n2) d 1 := by
              have he : evOf (c3 o0 false o2 n0 n1 n2 1) (d 1) 1 = [] := by rw [HD.out]; simp [evOf, c3, HO.out]
              show evs (c3 o0 false o2 n0 n1 n2) d 1 ++ evOf (c3 o0 false o2 n0 n1 n2 1) (d 1) 1 = _
              rw [he, List.append_nil]
            rw [e]
            exact ownsRow_ext (HO3.out _ _) x
          case measure => simp [intOf]
        · refine wp_region_E0 9 (by kernel_rfl) (by kernel_rfl) ?_
          simp only [List.take_succ_cons, List.take_zero, List.drop_succ_cons, List.drop_zero]
          repeat
            refine wpE_step (fun K hK => ?_)
            go_simp
            first
              | (refine hK _ ?_; clear hK K)
              | (apply Exists.intro; refine ⟨fun x => ?_, hK _ ?_⟩; (focus (fail)); clear hK K)
          refine wpE_nil (fun x => ?_)
          go_wp2_with (at_builtin; go_must (refine wpList_append_own _ rfl _ _ 39 rfl (w.heap.size + 1 + 1 + 1 + 1 + 1) 45 i0 (.agg #[.int .i64 0, .string ⟨#[]⟩, .int .i64 0, .int .i64 0]) 4 40 Try.underlying39 hi0 hz0 hz1 hz2 rfl (by decide) _ q _ rfl ((ownsRow_ext (HO3.out _ _) _).alloc _) ⟨_, 0, none⟩ 1 1 [.int .i64 7, .string ⟨#[]⟩, .int .i64 1, .int .i64 0] rfl rfl ?c1 ?c2 ?c3 ?c4 ?c5 ?_))
          case c1 => exact news_alloc _ _ _ _ (by simp)
          case c2 => simp [Value.oneCell']
          case c3 => unfold maxLen; omega
          case c4 => omega
          case c5 =>
            have h3 := Nat.lt_of_lt_of_le HMID.out.b4.lt x.below.size
            simp only [World.size_alloc]
            omega
          intro v' w1 hown' hgrow _
          have HOWN' := Lib.hid hown'
          clear hown'
          have HG := Lib.hid hgrow
          clear hgrow
          go_wp2_with fail
          go_roundw
          case rel =>
            refine ⟨1 + 1, by omega, rfl, ?_⟩
            refine (HMID.out.ext x).grow HG.out (fun k' hk' => (HOWN.out.lt k' hk').1) ?_
            refine ⟨q + 1, ?_⟩
            have e : evs (c3 o0 true o2 n0 n1 n2) d (1 + 1) = evs (c3 o0 true o2 n0 n1 n2) d 1 ++ [⟨7, ⟨#[]⟩, 1, 0⟩] := by
              have he : evOf (c3 o0 true o2 n0 n1 n2 1) (d 1) 1 = [⟨7, ⟨#[]⟩, 1, 0⟩] := by rw [HD.out]; simp [evOf, c3, HO.out]
              show evs (c3 o0 true o2 n0 n1 n2) d 1 ++ evOf (c3 o0 true o2 n0 n1 n2 1) (d 1) 1 = _
              rw [he]
            rw [e, List.flatMap_append]
            simpa [Ev.cells] using HOWN'.out
          case measure => simp [intOf]
    · replace hi : _ = Value.int .i64 2 := hi
      subst hi
      have b4 : Blk wr (w.heap.size + 1 + 1 + 1 + 1) #[.bool (d 0).on, .int .i64 (d 0).calm, .bool (d 1).on, .int .i64 (d 1).calm, .bool false, .int .i64 0] 37 := inv.b4
      have b0 : Blk wr w.heap.size #[.bool o0, .int .i64 n0, .bool o1, .int .i64 n1, .bool o2, .int .i64 n2] 37 := inv.b0
      have hC0 := b0.cell
      have hF0 := b0.frozen
      haveI := b0.ltw
      have hC1 := inv.b1.cell
      have hF1 := inv.b1.frozen
      haveI := inv.b1.ltw
      have hC2 := inv.b2.cell
      have hF2 := inv.b2.frozen
      haveI := inv.b2.ltw
      have hC4 := b4.cell
      have hF4 := b4.frozen
      haveI := b4.ltw
      obtain ⟨q, hown⟩ := inv.own
      have HB0 := Lib.hid b0
      have HB4 := Lib.hid b4
      have HOWN := Lib.hid hown
      have HINV := Lib.hid inv
      clear b0 b4 hown inv
      have hst := fun W => rstep_any ⟨o2, n2⟩ (h 2) (m 2) fresh n W hb2.1 hb2.2 HR2.out
      have HST := Lib.hid hst
      clear hst
      go_wp2_with fail
      refine wp_region_E0 14 (by kernel_rfl) (by kernel_rfl) ?_
      simp only [List.take_succ_cons, List.take_zero, List.drop_succ_cons, List.drop_zero]
      repeat
        refine wpE_step (fun K hK => ?_)
        go_simp
        first
          | (refine hK _ ?_; clear hK K)
          | (apply Exists.intro; refine ⟨fun x => ?_, hK _ ?_⟩; (focus ((go_at_call 15; exact HST.out _))); clear hK K)
      refine wpE_nil (fun x => ?_)
      have hq : q ≤ 2 := by
        have h1 := HOWN.out.1
        have h2 := evs_len (c3 o0 o1 o2 n0 n1 n2) d 2
        simp only [evs_cells] at h1
        omega
      have hown3 : ∀ v0 v1 : Value, ((x.val.setCell ⟨w.heap.size + 1 + 1 + 1 + 1, 2 * 2, none⟩ v0).setCell ⟨w.heap.size + 1 + 1 + 1 + 1, 2 * 2 + 1, none⟩ v1).ownsRow (w.heap.size + 1 + 1 + 1 + 1 + 1) 45 4 _ q ((evs (c3 o0 o1 o2 n0 n1 n2) d 2).flatMap Ev.cells) := fun v0 v1 =>
        ownsRow_setCell_ne (ownsRow_setCell_ne (ownsRow_ext HOWN.out x) (fun e => by have := (HOWN.out.lt _ e).1; simp at this; omega) _) (fun e => by have := (HOWN.out.lt _ e).1; simp at this; omega) _
      have HO3 := Lib.hid hown3
      clear hown3
      rcases Bool.eq_false_or_eq_true (stepF ⟨o2, n2⟩ (h 2) (m 2) fresh n).on with ho | ho
      · have HO := Lib.hid ho
        have HMID := Lib.hid (HINV.out.round (k := 2) (by omega) (on := true) (by rw [HD.out]; exact ho.symm) (calm := (stepF ⟨o2, n2⟩ (h 2) (m 2) fresh n).calm) (by rw [HD.out]; rfl) x)
        go_wp2_with fail
        cases o2
        · refine wp_region_E0 9 (by kernel_rfl) (by kernel_rfl) ?_
          simp only [List.take_succ_cons, List.take_zero, List.drop_succ_cons, List.drop_zero]
          repeat
            refine wpE_step (fun K hK => ?_)
            go_simp
            first
              | (refine hK _ ?_; clear hK K)
              | (apply Exists.intro; refine ⟨fun x => ?_, hK _ ?_⟩; (focus (fail)); clear hK K)
          refine wpE_nil (fun x => ?_)
          go_wp2_with (at_builtin; go_must (refine wpList_append_own _ rfl _ _ 39 rfl (w.heap.size + 1 + 1 + 1 + 1 + 1) 45 i0 (.agg #[.int .i64 0, .string ⟨#[]⟩, .int .i64 0, .int .i64 0]) 4 40 Try.underlying39 hi0 hz0 hz1 hz2 rfl (by decide) _ q _ rfl ((ownsRow_ext (HO3.out _ _) _).alloc _) ⟨_, 0, none⟩ 1 1 [.int .i64 6, .string ⟨#[]⟩, .int .i64 2, .int .i64 0] rfl rfl ?c1 ?c2 ?c3 ?c4 ?c5 ?_))
          case c1 => exact news_alloc _ _ _ _ (by simp)
          case c2 => simp [Value.oneCell']
          case c3 => unfold maxLen; omega
          case c4 => omega
          case c5 =>
            have h3 := Nat.lt_of_lt_of_le HMID.out.b4.lt x.below.size
            simp only [World.size_alloc]
            omega
          intro v' w1 hown' hgrow _
          have HOWN' := Lib.hid hown'
          clear hown'
          have HG := Lib.hid hgrow
          clear hgrow
          go_wp2_with fail
          go_roundw
          case rel =>
            refine ⟨2 + 1, by omega, rfl, ?_⟩
            refine (HMID.out.ext x).grow HG.out (fun k' hk' => (HOWN.out.lt k' hk').1) ?_
            refine ⟨q + 1, ?_⟩
            have e : evs (c3 o0 o1 false n0 n1 n2) d (2 + 1) = evs (c3 o0 o1 false n0 n1 n2) d 2 ++ [⟨6, ⟨#[]⟩, 2, 0⟩] := by
              have he : evOf (c3 o0 o1 false n0 n1 n2 2) (d 2) 2 = [⟨6, ⟨#[]⟩, 2, 0⟩] := by rw [HD.out]; simp [evOf, c3, HO.out]
              show evs (c3 o0 o1 false n0 n1 n2) d 2 ++ evOf (c3 o0 o1 false n0 n1 n2 2) (d 2) 2 = _
              rw [he]
            rw [e, List.flatMap_append]
            simpa [Ev.cells] using HOWN'.out
          case measure => simp [intOf]
        · refine wp_region_E0 9 (by kernel_rfl) (by kernel_rfl) ?_
          simp only [List.take_succ_cons, List.take_zero, List.drop_succ_cons, List.drop_zero]
          repeat
            refine wpE_step (fun K hK => ?_)
            go_simp
            first
              | (refine hK _ ?_; clear hK K)
              | (apply Exists.intro; refine ⟨fun x => ?_, hK _ ?_⟩; (focus (fail)); clear hK K)
          refine wpE_nil (fun x => ?_)
          go_wp2_with fail
          go_roundw
          case rel =>
            refine ⟨2 + 1, by omega, rfl, ?_⟩
            refine (HMID.out.ext x).same ?_
            refine ⟨q, ?_⟩
            have e : evs (c3 o0 o1 true n0 n1 n2) d (2 + 1) = evs (c3 o0 o1 true n0 n1 n2) d 2 := by
              have he : evOf (c3 o0 o1 true n0 n1 n2 2) (d 2) 2 = [] := by rw [HD.out]; simp [evOf, c3, HO.out]
              show evs (c3 o0 o1 true n0 n1 n2) d 2 ++ evOf (c3 o0 o1 true n0 n1 n2 2) (d 2) 2 = _
              rw [he, List.append_nil]
            rw [e]
            exact ownsRow_ext (HO3.out _ _) x
          case measure => simp [intOf]
      · have HO := Lib.hid ho
        have HMID := Lib.hid (HINV.out.round (k := 2) (by omega) (on := false) (by rw [HD.out]; exact ho.symm) (calm := (stepF ⟨o2, n2⟩ (h 2) (m 2) fresh n).calm) (by rw [HD.out]; rfl) x)
        go_wp2_with fail
        cases o2
        · refine wp_region_E0 9 (by kernel_rfl) (by kernel_rfl) ?_
          simp only [List.take_succ_cons, List.take_zero, List.drop_succ_cons, List.drop_zero]
          repeat
            refine wpE_step (fun K hK => ?_)
            go_simp
            first
              | (refine hK _ ?_; clear hK K)
              | (apply Exists.intro; refine ⟨fun x => ?_, hK _ ?_⟩; (focus (fail)); clear hK K)
          refine wpE_nil (fun x => ?_)
          go_wp2_with fail
          go_roundw
          case rel =>
            refine ⟨2 + 1, by omega, rfl, ?_⟩
            refine (HMID.out.ext x).same ?_
            refine ⟨q, ?_⟩
            have e : evs (c3 o0 o1 false n0 n1 n2) d (2 + 1) = evs (c3 o0 o1 false n0 n1 n2) d 2 := by
              have he : evOf (c3 o0 o1 false n0 n1 n2 2) (d 2) 2 = [] := by rw [HD.out]; simp [evOf, c3, HO.out]
              show evs (c3 o0 o1 false n0 n1 n2) d 2 ++ evOf (c3 o0 o1 false n0 n1 n2 2) (d 2) 2 = _
              rw [he, List.append_nil]
            rw [e]
            exact ownsRow_ext (HO3.out _ _) x
          case measure => simp [intOf]
        · refine wp_region_E0 9 (by kernel_rfl) (by kernel_rfl) ?_
          simp only [List.take_succ_cons, List.take_zero, List.drop_succ_cons, List.drop_zero]
          repeat
            refine wpE_step (fun K hK => ?_)
            go_simp
            first
              | (refine hK _ ?_; clear hK K)
              | (apply Exists.intro; refine ⟨fun x => ?_, hK _ ?_⟩; (focus (fail)); clear hK K)
          refine wpE_nil (fun x => ?_)
          go_wp2_with (at_builtin; go_must (refine wpList_append_own _ rfl _ _ 39 rfl (w.heap.size + 1 + 1 + 1 + 1 + 1) 45 i0 (.agg #[.int .i64 0, .string ⟨#[]⟩, .int .i64 0, .int .i64 0]) 4 40 Try.underlying39 hi0 hz0 hz1 hz2 rfl (by decide) _ q _ rfl ((ownsRow_ext (HO3.out _ _) _).alloc _) ⟨_, 0, none⟩ 1 1 [.int .i64 7, .string ⟨#[]⟩, .int .i64 2, .int .i64 0] rfl rfl ?c1 ?c2 ?c3 ?c4 ?c5 ?_))
          case c1 => exact news_alloc _ _ _ _ (by simp)
          case c2 => simp [Value.oneCell']
          case c3 => unfold maxLen; omega
          case c4 => omega
          case c5 =>
            have h3 := Nat.lt_of_lt_of_le HMID.out.b4.lt x.below.size
            simp only [World.size_alloc]
            omega
          intro v' w1 hown' hgrow _
          have HOWN' := Lib.hid hown'
          clear hown'
          have HG := Lib.hid hgrow
          clear hgrow
          go_wp2_with fail
          go_roundw
          case rel =>
            refine ⟨2 + 1, by omega, rfl, ?_⟩
            refine (HMID.out.ext x).grow HG.out (fun k' hk' => (HOWN.out.lt k' hk').1) ?_
            refine ⟨q + 1, ?_⟩
            have e : evs (c3 o0 o1 true n0 n1 n2) d (2 + 1) = evs (c3 o0 o1 true n0 n1 n2) d 2 ++ [⟨7, ⟨#[]⟩, 2, 0⟩] := by
              have he : evOf (c3 o0 o1 true n0 n1 n2 2) (d 2) 2 = [⟨7, ⟨#[]⟩, 2, 0⟩] := by rw [HD.out]; simp [evOf, c3, HO.out]
              show evs (c3 o0 o1 true n0 n1 n2) d 2 ++ evOf (c3 o0 o1 true n0 n1 n2 2) (d 2) 2 = _
              rw [he]
            rw [e, List.flatMap_append]
            simpa [Ev.cells] using HOWN'.out
          case measure => simp [intOf]
    · replace hi : _ = Value.int .i64 3 := hi
      subst hi
      have b3 : Blk wr (w.heap.size + 1 + 1 + 1) #[.bool false, .int .i64 0, .bool false, .int .i64 0, .bool false, .int .i64 0] 37 := inv.b3
      have b4 : Blk wr (w.heap.size + 1 + 1 + 1 + 1) #[.bool (d 0).on, .int .i64 (d 0).calm, .bool (d 1).on, .int .i64 (d 1).calm, .bool (d 2).on, .int .i64 (d 2).calm] 37 := inv.b4
      have hC3 := b3.cell
      have hF3 := b3.frozen
      haveI := b3.ltw
      have hC4 := b4.cell
      have hF4 := b4.frozen
      haveI := b4.ltw
      obtain ⟨q, hown⟩ := inv.own
      have HB3 := Lib.hid b3
      have HOWN := Lib.hid hown
      have HINV := Lib.hid inv
      clear b3 b4 hown inv
      go_wp2_with fail
      haveI : Keeps w wr := ⟨HINV.out.keep⟩
      have hne : ∀ o : Nat, u13.ownBlock ≠ some (⟨w.heap.size + 1 + 1 + 1, o, none⟩ : Addr).block := fun o e => by
        have := (HOWN.out.lt _ e).1
        simp at this
        omega
      refine fin_retP (.tuple #[.agg (cells3 d), u13]) ?_ rfl ?_ ?_
      · simp [results, Try.results18, go_sem, cells3, hC3]
      · exact Keeps.out
      · refine ⟨u13, q, rfl, ?_⟩
        refine ownsRow_mono (base := w.heap.size + 1 + 1 + 1 + 1 + 1) ?_ (by omega)
        exact (ownsRow_setCell_ne (ownsRow_setCell_ne (ownsRow_setCell_ne (ownsRow_setCell_ne (ownsRow_setCell_ne (ownsRow_setCell_ne HOWN.out (hne _) _) (hne _) _) (hne _) _) (hne _) _) (hne _) _) (hne _) _)
end Go.Proofs.Ytkgganfbcfojcaa
