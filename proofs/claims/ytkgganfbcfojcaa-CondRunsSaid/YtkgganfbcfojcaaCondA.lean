/- The walks of cond.All and its reference. -/
import Derived.Test.YtkgganfbcfojcaaCondW
import Derived.Test.YtkgganfbcfojcaaMem
namespace Go.Proofs.Ytkgganfbcfojcaa
open Go.RowKit

structure Ev where
  kind : Int
  id : ByteArray
  signal : Int
  n : Int

def Ev.cells (e : Ev) : List Value := [.int .i64 e.kind, .string e.id, .int .i64 e.signal, .int .i64 e.n]

def evOf (was is : CC) (i : Int) : List Ev :=
  if is.on && !was.on then [⟨6, ⟨#[]⟩, i, 0⟩] else if !is.on && was.on then [⟨7, ⟨#[]⟩, i, 0⟩] else []

def evs (c : Nat → CC) (d : Nat → CC) : Nat → List Ev
  | 0 => []
  | k + 1 => evs c d k ++ evOf (c k) (d k) k

def cells3 (c : Nat → CC) : Array Value := #[.bool (c 0).on, .int .i64 (c 0).calm, .bool (c 1).on, .int .i64 (c 1).calm, .bool (c 2).on, .int .i64 (c 2).calm]
def upto (c d : Nat → CC) (k : Nat) (i : Nat) : CC := if i < k then d i else c i

theorem Try.info45 : (Try.prog.info? 45).map (fun i => (i.zero, i.size, i.bytes)) = some (some (.agg #[.int .i64 0, .string ⟨#[]⟩, .int .i64 0, .int .i64 0]), 4, 40) := by kernel_rfl

theorem evOf_len (a b : CC) (i : Int) : (evOf a b i).length ≤ 1 := by unfold evOf; split <;> (try split) <;> simp
theorem evs_len (c d : Nat → CC) (k : Nat) : (evs c d k).length ≤ k := by
  induction k with
  | zero => simp [evs]
  | succ k ih => have := evOf_len (c k) (d k) k; simp [evs]; omega
theorem evs_cells (l : List Ev) : (l.flatMap Ev.cells).length = l.length * 4 := by
  induction l with
  | nil => rfl
  | cons a r ih => simp [List.flatMap_cons, ih, Ev.cells]; omega

structure AllInv (c d : Nat → CC) (h m : Nat → Bool) (w : World) (k : Nat) (ev : Value) (wr : World) : Prop where
  b0 : Blk wr w.heap.size (cells3 (upto c d k)) 37
  b1 : Blk wr (w.heap.size + 1) #[.bool (h 0), .bool (h 1), .bool (h 2)] 38
  b2 : Blk wr (w.heap.size + 1 + 1) #[.bool (m 0), .bool (m 1), .bool (m 2)] 38
  b3 : Blk wr (w.heap.size + 1 + 1 + 1) (cells3 fun _ => ⟨false, 0⟩) 37
  own : ∃ q, wr.ownsRow (w.heap.size + 1 + 1 + 1 + 1) 45 4 ev q ((evs c d k).flatMap Ev.cells)
  keep : Below w.heap.size w wr

def c3 (o0 o1 o2 : Bool) (n0 n1 n2 : Int) : Nat → CC
  | 0 => ⟨o0, n0⟩
  | 1 => ⟨o1, n1⟩
  | _ => ⟨o2, n2⟩

/-- Behind the round's two stores. -/
structure AllMid (c d : Nat → CC) (h m : Nat → Bool) (w : World) (k : Nat) (wr : World) : Prop where
  b0 : Blk wr w.heap.size (cells3 (upto c d (k + 1))) 37
  b1 : Blk wr (w.heap.size + 1) #[.bool (h 0), .bool (h 1), .bool (h 2)] 38
  b2 : Blk wr (w.heap.size + 1 + 1) #[.bool (m 0), .bool (m 1), .bool (m 2)] 38
  b3 : Blk wr (w.heap.size + 1 + 1 + 1) (cells3 fun _ => ⟨false, 0⟩) 37
  keep : Below w.heap.size w wr

theorem AllInv.round {c d : Nat → CC} {h m : Nat → Bool} {w : World} {k : Nat} {ev : Value} {wr : World} (inv : AllInv c d h m w k ev wr) (hk : k < 3) {on : Bool} {calm : Int} (h1 : on = (d k).on) (h2 : calm = (d k).calm) {o : Obj} (x : Ext (wr.alloc o)) :
    AllMid c d h m w k ((x.val.setCell ⟨w.heap.size, 2 * k, none⟩ (.bool on)).setCell ⟨w.heap.size, 2 * k + 1, none⟩ (.int .i64 calm)) := by
  subst h1; subst h2
  refine ⟨?_, ?_, ?_, ?_, ?_⟩
  · have := ((((inv.b0.alloc o).ext x).set (2 * k) (.bool (d k).on)).set (2 * k + 1) (.int .i64 (d k).calm))
    have e : ((cells3 (upto c d k)).setIfInBounds (2 * k) (.bool (d k).on)).setIfInBounds (2 * k + 1) (.int .i64 (d k).calm) = cells3 (upto c d (k + 1)) := by
      obtain rfl | rfl | rfl : k = 0 ∨ k = 1 ∨ k = 2 := by omega
      all_goals simp [cells3, upto]
    rw [e] at this
    exact this
  · exact (((inv.b1.alloc o).ext x).set_ne (by omega) _ _).set_ne (by omega) _ _
  · exact (((inv.b2.alloc o).ext x).set_ne (by omega) _ _).set_ne (by omega) _ _
  · exact (((inv.b3.alloc o).ext x).set_ne (by omega) _ _).set_ne (by omega) _ _
  · haveI : Keeps w wr := ⟨inv.keep⟩
    exact Keeps.out

theorem AllMid.same {c d : Nat → CC} {h m : Nat → Bool} {w : World} {k : Nat} {ev : Value} {wr : World} (mid : AllMid c d h m w k wr) (own : ∃ q, wr.ownsRow (w.heap.size + 1 + 1 + 1 + 1) 45 4 ev q ((evs c d (k + 1)).flatMap Ev.cells)) :
    AllInv c d h m w (k + 1) ev wr := ⟨mid.b0, mid.b1, mid.b2, mid.b3, own, mid.keep⟩

theorem AllMid.grow {c d : Nat → CC} {h m : Nat → Bool} {w : World} {k : Nat} {ev : Value} {wr w1 : World} {o : Obj} {row : Option Nat} (mid : AllMid c d h m w k wr) (hg : (wr.alloc o).grownBy w1 row) (hr : ∀ k', row = some k' → w.heap.size + 1 + 1 + 1 + 1 ≤ k')
    (own : ∃ q, w1.ownsRow (w.heap.size + 1 + 1 + 1 + 1) 45 4 ev q ((evs c d (k + 1)).flatMap Ev.cells)) :
    AllInv c d h m w (k + 1) ev w1 := by
  have hne : ∀ b, b < w.heap.size + 1 + 1 + 1 + 1 → row ≠ some b := fun b hb e => by have := hr b e; omega
  refine ⟨(mid.b0.alloc o).grown hg (hne _ (by omega)), (mid.b1.alloc o).grown hg (hne _ (by omega)), (mid.b2.alloc o).grown hg (hne _ (by omega)), (mid.b3.alloc o).grown hg (hne _ (by omega)), own, ?_⟩
  haveI : Keeps w wr := ⟨mid.keep⟩
  exact Below.grown (Keeps.out (w := wr.alloc o)) hg (Keeps.out (w0 := w) (w := wr.alloc o)).size (fun k' hk' => by have := hr k' hk'; omega)



set_option maxHeartbeats 400000 in
theorem all_any (o0 o1 o2 : Bool) (n0 n1 n2 : Int) (h m : Nat → Bool) (fresh : Bool) (n : Int) (w : World) (hb0 : 0 ≤ n0 ∧ n0 ≤ 1000) (hb1 : 0 ≤ n1 ∧ n1 ≤ 1000) (hb2 : 0 ≤ n2 ∧ n2 ≤ 1000)
    (d : Nat → CC) (hdd : d = fun i => stepF (c3 o0 o1 o2 n0 n1 n2 i) (h i) (m i) fresh n) :
    Calls Try.prog 17 #[.agg #[.bool o0, .int .i64 n0, .bool o1, .int .i64 n1, .bool o2, .int .i64 n2], .agg #[.bool (h 0), .bool (h 1), .bool (h 2)], .agg #[.bool (m 0), .bool (m 1), .bool (m 2)], .bool fresh, .int .i64 n] w
      (RetP w fun v w' => ∃ ev k, v = .tuple #[.agg (cells3 d), ev] ∧
        w'.ownsRow w.heap.size 45 4 ev k ((evs (c3 o0 o1 o2 n0 n1 n2) d 3).flatMap Ev.cells)) := by
  obtain ⟨i0, hi0, hz0, hz1, hz2⟩ := info_parts Try.info45
  go_enter Try.func17, Try.ntmps17
  go_wp2_with fail
  go_loopw [12, 16] (fun ev i wr => ∃ k : Nat, k ≤ 3 ∧ i = .int .i64 k ∧ AllInv (c3 o0 o1 o2 n0 n1 n2) d h m w k ev wr) (fun _ i _ => 3 - (intOf i).toNat)
  case atStart =>
    refine ⟨0, by omega, rfl, ?_, ?_, ?_, ?_, ?_, ?_⟩
    · exact (((Blk.new _ _ _).alloc _).alloc _).alloc _
    · exact ((Blk.new_at _ _ _ _ (by simp)).alloc _).alloc _
    · exact (Blk.new_at _ _ _ _ (by simp)).alloc _
    · exact Blk.new_at _ _ _ _ (by simp)
    · exact ⟨0, World.ownsRow_nil _ _ _ _⟩
    · exact Keeps.out
  case round =>
    obtain ⟨k, hk, hi, inv⟩ := hrel
    have HD := Lib.hid hdd
    clear hdd
    obtain rfl | rfl | rfl | rfl : k = 0 ∨ k = 1 ∨ k = 2 ∨ k = 3 := by omega
    · replace hi : _ = Value.int .i64 0 := hi
      subst hi
      have hix := fun (w : World) => (show (Instr.index 37 (Value.agg #[.bool o0, .int .i64 n0, .bool o1, .int .i64 n1, .bool o2, .int .i64 n2]) (.int .i64 0)).run Try.prog w = .ok (.agg #[.bool o0, .int .i64 n0]) w from by kernel_rfl)
      have b0 : Blk wr w.heap.size #[.bool o0, .int .i64 n0, .bool o1, .int .i64 n1, .bool o2, .int .i64 n2] 37 := inv.b0
      have hC0 := b0.cell
      have hF0 := b0.frozen
      haveI := b0.ltw
      have hC1 := inv.b1.cell
      have hF1 := inv.b1.frozen
      haveI := inv.b1.ltw
      have hC2 := inv.b2.cell
      have hF2 := inv.b2.frozen
      haveI := inv.b2.ltw
      obtain ⟨q, hown⟩ := inv.own
      have HB0 := Lib.hid b0
      have HOWN := Lib.hid hown
      have HINV := Lib.hid inv
      clear b0 hown inv
      have hst := fun W => step_any ⟨o0, n0⟩ (h 0) (m 0) fresh n W hb0.1 hb0.2
      have HST := Lib.hid hst
      clear hst
      go_wp2_with fail
      refine wp_region_E0 12 (by kernel_rfl) (by kernel_rfl) ?_
      simp only [List.take_succ_cons, List.take_zero, List.drop_succ_cons, List.drop_zero]
      repeat
        refine wpE_step (fun K hK => ?_)
        go_simp
        first
          | (refine hK _ ?_; clear hK K)
          | (apply Exists.intro; refine ⟨fun x => ?_, hK _ ?_⟩; (focus ((go_at_call 14; exact HST.out _))); clear hK K)
      refine wpE_nil (fun x => ?_)
      have hq : q ≤ 0 := by
        have h1 := HOWN.out.1
        have h2 := evs_len (c3 o0 o1 o2 n0 n1 n2) d 0
        simp only [evs_cells] at h1
        omega
      have hown3 : ∀ v0 v1 : Value, ((x.val.setCell ⟨w.heap.size, 2 * 0, none⟩ v0).setCell ⟨w.heap.size, 2 * 0 + 1, none⟩ v1).ownsRow (w.heap.size + 1 + 1 + 1 + 1) 45 4 _ q ((evs (c3 o0 o1 o2 n0 n1 n2) d 0).flatMap Ev.cells) := fun v0 v1 =>
        ownsRow_setCell_ne (ownsRow_setCell_ne (ownsRow_ext (HOWN.out.alloc _) x) (fun e => by have := (HOWN.out.lt _ e).1; simp at this; omega) _) (fun e => by have := (HOWN.out.lt _ e).1; simp at this; omega) _
      have HO2 := Lib.hid (fun (o : Obj) (v0 v1 : Value) => (hown3 v0 v1).alloc o)
      have HO3 := Lib.hid hown3
      clear hown3
      rcases Bool.eq_false_or_eq_true (stepF ⟨o0, n0⟩ (h 0) (m 0) fresh n).on with ho | ho <;> have HO := Lib.hid ho <;> cases o0
      · go_wp2_with (at_builtin; go_must (refine wpList_append_own _ rfl _ _ 39 rfl (w.heap.size + 1 + 1 + 1 + 1) 45 i0 (.agg #[.int .i64 0, .string ⟨#[]⟩, .int .i64 0, .int .i64 0]) 4 40 Try.underlying39 hi0 hz0 hz1 hz2 rfl (by decide) _ q _ rfl (HO2.out _ _ _) ⟨_, 0, none⟩ 1 1 [.int .i64 6, .string ⟨#[]⟩, .int .i64 0, .int .i64 0] rfl rfl ?c1 ?c2 ?c3 ?c4 ?c5 ?_))
        case c1 => exact news_alloc _ _ _ _ (by simp)
        case c2 => simp [Value.oneCell']
        case c3 => unfold maxLen; omega
        case c4 => omega
        case c5 =>
          have h1 := HINV.out.b3.lt
          have h2 := x.below.size
          simp at h2 ⊢
          omega
        intro v' w1 hown' hgrow _
        have HOWN' := Lib.hid hown'
        clear hown'
        have HG := Lib.hid hgrow
        clear hgrow
        go_wp2_with fail
        go_roundw
        case rel =>
          refine ⟨0 + 1, by omega, rfl, ?_⟩
          refine (HINV.out.round (by omega) (by rw [HD.out]; exact ho.symm) (by rw [HD.out]; rfl) x).grow HG.out (fun k' hk' => (HOWN.out.lt k' hk').1) ?_
          refine ⟨q + 1, ?_⟩
          have e : evs (c3 false o1 o2 n0 n1 n2) d (0 + 1) = evs (c3 false o1 o2 n0 n1 n2) d 0 ++ [⟨6, ⟨#[]⟩, 0, 0⟩] := by
            have he : evOf (c3 false o1 o2 n0 n1 n2 0) (d 0) 0 = [⟨6, ⟨#[]⟩, 0, 0⟩] := by rw [HD.out]; simp [evOf, c3, HO.out]
            show evs (c3 false o1 o2 n0 n1 n2) d 0 ++ evOf (c3 false o1 o2 n0 n1 n2 0) (d 0) 0 = _
            rw [he]
          rw [e, List.flatMap_append]
          simpa [Ev.cells] using HOWN'.out
        case measure => simp [intOf]
      · go_wp2_with fail
        go_roundw
        case rel =>
          refine ⟨0 + 1, by omega, rfl, ?_⟩
          refine (HINV.out.round (by omega) (by rw [HD.out]; exact ho.symm) (by rw [HD.out]; rfl) x).same ?_
          refine ⟨q, ?_⟩
          have e : evs (c3 true o1 o2 n0 n1 n2) d (0 + 1) = evs (c3 true o1 o2 n0 n1 n2) d 0 := by
            have he : evOf (c3 true o1 o2 n0 n1 n2 0) (d 0) 0 = [] := by rw [HD.out]; simp [evOf, c3, HO.out]
            show evs (c3 true o1 o2 n0 n1 n2) d 0 ++ evOf (c3 true o1 o2 n0 n1 n2 0) (d 0) 0 = _
            rw [he, List.append_nil]
          rw [e]
          exact HO3.out _ _
        case measure => simp [intOf]
      · go_wp2_with fail
        go_roundw
        case rel =>
          refine ⟨0 + 1, by omega, rfl, ?_⟩
          refine (HINV.out.round (by omega) (by rw [HD.out]; exact ho.symm) (by rw [HD.out]; rfl) x).same ?_
          refine ⟨q, ?_⟩
          have e : evs (c3 false o1 o2 n0 n1 n2) d (0 + 1) = evs (c3 false o1 o2 n0 n1 n2) d 0 := by
            have he : evOf (c3 false o1 o2 n0 n1 n2 0) (d 0) 0 = [] := by rw [HD.out]; simp [evOf, c3, HO.out]
            show evs (c3 false o1 o2 n0 n1 n2) d 0 ++ evOf (c3 false o1 o2 n0 n1 n2 0) (d 0) 0 = _
            rw [he, List.append_nil]
          rw [e]
          exact HO3.out _ _
        case measure => simp [intOf]
      · go_wp2_with (at_builtin; go_must (refine wpList_append_own _ rfl _ _ 39 rfl (w.heap.size + 1 + 1 + 1 + 1) 45 i0 (.agg #[.int .i64 0, .string ⟨#[]⟩, .int .i64 0, .int .i64 0]) 4 40 Try.underlying39 hi0 hz0 hz1 hz2 rfl (by decide) _ q _ rfl (HO2.out _ _ _) ⟨_, 0, none⟩ 1 1 [.int .i64 7, .string ⟨#[]⟩, .int .i64 0, .int .i64 0] rfl rfl ?c1 ?c2 ?c3 ?c4 ?c5 ?_))
        case c1 => exact news_alloc _ _ _ _ (by simp)
        case c2 => simp [Value.oneCell']
        case c3 => unfold maxLen; omega
        case c4 => omega
        case c5 =>
          have h1 := HINV.out.b3.lt
          have h2 := x.below.size
          simp at h2 ⊢
          omega
        intro v' w1 hown' hgrow _
        have HOWN' := Lib.hid hown'
        clear hown'
        have HG := Lib.hid hgrow
        clear hgrow
        go_wp2_with fail
        go_roundw
        case rel =>
          refine ⟨0 + 1, by omega, rfl, ?_⟩
          refine (HINV.out.round (by omega) (by rw [HD.out]; exact ho.symm) (by rw [HD.out]; rfl) x).grow HG.out (fun k' hk' => (HOWN.out.lt k' hk').1) ?_
          refine ⟨q + 1, ?_⟩
          have e : evs (c3 true o1 o2 n0 n1 n2) d (0 + 1) = evs (c3 true o1 o2 n0 n1 n2) d 0 ++ [⟨7, ⟨#[]⟩, 0, 0⟩] := by
            have he : evOf (c3 true o1 o2 n0 n1 n2 0) (d 0) 0 = [⟨7, ⟨#[]⟩, 0, 0⟩] := by rw [HD.out]; simp [evOf, c3, HO.out]
            show evs (c3 true o1 o2 n0 n1 n2) d 0 ++ evOf (c3 true o1 o2 n0 n1 n2 0) (d 0) 0 = _
            rw [he]
          rw [e, List.flatMap_append]
          simpa [Ev.cells] using HOWN'.out
        case measure => simp [intOf]
    · replace hi : _ = Value.int .i64 1 := hi
      subst hi
      have hix := fun (w : World) => (show (Instr.index 37 (Value.agg #[.bool o0, .int .i64 n0, .bool o1, .int .i64 n1, .bool o2, .int .i64 n2]) (.int .i64 1)).run Try.prog w = .ok (.agg #[.bool o1, .int .i64 n1]) w from by kernel_rfl)
      have b0 : Blk wr w.heap.size #[.bool (d 0).on, .int .i64 (d 0).calm, .bool o1, .int .i64 n1, .bool o2, .int .i64 n2] 37 := inv.b0
      have hC0 := b0.cell
      have hF0 := b0.frozen
      haveI := b0.ltw
      have hC1 := inv.b1.cell
      have hF1 := inv.b1.frozen
      haveI := inv.b1.ltw
      have hC2 := inv.b2.cell
      have hF2 := inv.b2.frozen
      haveI := inv.b2.ltw
      obtain ⟨q, hown⟩ := inv.own
      have HB0 := Lib.hid b0
      have HOWN := Lib.hid hown
      have HINV := Lib.hid inv
      clear b0 hown inv
      have hst := fun W => step_any ⟨o1, n1⟩ (h 1) (m 1) fresh n W hb1.1 hb1.2
      have HST := Lib.hid hst
      clear hst
      go_wp2_with fail
      refine wp_region_E0 12 (by kernel_rfl) (by kernel_rfl) ?_
      simp only [List.take_succ_cons, List.take_zero, List.drop_succ_cons, List.drop_zero]
      repeat
        refine wpE_step (fun K hK => ?_)
        go_simp
        first
          | (refine hK _ ?_; clear hK K)
          | (apply Exists.intro; refine ⟨fun x => ?_, hK _ ?_⟩; (focus ((go_at_call 14; exact HST.out _))); clear hK K)
      refine wpE_nil (fun x => ?_)
      have hq : q ≤ 1 := by
        have h1 := HOWN.out.1
        have h2 := evs_len (c3 o0 o1 o2 n0 n1 n2) d 1
        simp only [evs_cells] at h1
        omega
      have hown3 : ∀ v0 v1 : Value, ((x.val.setCell ⟨w.heap.size, 2 * 1, none⟩ v0).setCell ⟨w.heap.size, 2 * 1 + 1, none⟩ v1).ownsRow (w.heap.size + 1 + 1 + 1 + 1) 45 4 _ q ((evs (c3 o0 o1 o2 n0 n1 n2) d 1).flatMap Ev.cells) := fun v0 v1 =>
        ownsRow_setCell_ne (ownsRow_setCell_ne (ownsRow_ext (HOWN.out.alloc _) x) (fun e => by have := (HOWN.out.lt _ e).1; simp at this; omega) _) (fun e => by have := (HOWN.out.lt _ e).1; simp at this; omega) _
      have HO2 := Lib.hid (fun (o : Obj) (v0 v1 : Value) => (hown3 v0 v1).alloc o)
      have HO3 := Lib.hid hown3
      clear hown3
      rcases Bool.eq_false_or_eq_true (stepF ⟨o1, n1⟩ (h 1) (m 1) fresh n).on with ho | ho <;> have HO := Lib.hid ho <;> cases o1
      · go_wp2_with (at_builtin; go_must (refine wpList_append_own _ rfl _ _ 39 rfl (w.heap.size + 1 + 1 + 1 + 1) 45 i0 (.agg #[.int .i64 0, .string ⟨#[]⟩, .int .i64 0, .int .i64 0]) 4 40 Try.underlying39 hi0 hz0 hz1 hz2 rfl (by decide) _ q _ rfl (HO2.out _ _ _) ⟨_, 0, none⟩ 1 1 [.int .i64 6, .string ⟨#[]⟩, .int .i64 1, .int .i64 0] rfl rfl ?c1 ?c2 ?c3 ?c4 ?c5 ?_))
        case c1 => exact news_alloc _ _ _ _ (by simp)
        case c2 => simp [Value.oneCell']
        case c3 => unfold maxLen; omega
        case c4 => omega
        case c5 =>
          have h1 := HINV.out.b3.lt
          have h2 := x.below.size
          simp at h2 ⊢
          omega
        intro v' w1 hown' hgrow _
        have HOWN' := Lib.hid hown'
        clear hown'
        have HG := Lib.hid hgrow
        clear hgrow
        go_wp2_with fail
        go_roundw
        case rel =>
          refine ⟨1 + 1, by omega, rfl, ?_⟩
          refine (HINV.out.round (by omega) (by rw [HD.out]; exact ho.symm) (by rw [HD.out]; rfl) x).grow HG.out (fun k' hk' => (HOWN.out.lt k' hk').1) ?_
          refine ⟨q + 1, ?_⟩
          have e : evs (c3 o0 false o2 n0 n1 n2) d (1 + 1) = evs (c3 o0 false o2 n0 n1 n2) d 1 ++ [⟨6, ⟨#[]⟩, 1, 0⟩] := by
            have he : evOf (c3 o0 false o2 n0 n1 n2 1) (d 1) 1 = [⟨6, ⟨#[]⟩, 1, 0⟩] := by rw [HD.out]; simp [evOf, c3, HO.out]
            show evs (c3 o0 false o2 n0 n1 n2) d 1 ++ evOf (c3 o0 false o2 n0 n1 n2 1) (d 1) 1 = _
            rw [he]
          rw [e, List.flatMap_append]
          simpa [Ev.cells] using HOWN'.out
        case measure => simp [intOf]
      · go_wp2_with fail
        go_roundw
        case rel =>
          refine ⟨1 + 1, by omega, rfl, ?_⟩
          refine (HINV.out.round (by omega) (by rw [HD.out]; exact ho.symm) (by rw [HD.out]; rfl) x).same ?_
          refine ⟨q, ?_⟩
          have e : evs (c3 o0 true o2 n0 n1 n2) d (1 + 1) = evs (c3 o0 true o2 n0 n1 n2) d 1 := by
            have he : evOf (c3 o0 true o2 n0 n1 n2 1) (d 1) 1 = [] := by rw [HD.out]; simp [evOf, c3, HO.out]
            show evs (c3 o0 true o2 n0 n1 n2) d 1 ++ evOf (c3 o0 true o2 n0 n1 n2 1) (d 1) 1 = _
            rw [he, List.append_nil]
          rw [e]
          exact HO3.out _ _
        case measure => simp [intOf]
      · go_wp2_with fail
        go_roundw
        case rel =>
          refine ⟨1 + 1, by omega, rfl, ?_⟩
          refine (HINV.out.round (by omega) (by rw [HD.out]; exact ho.symm) (by rw [HD.out]; rfl) x).same ?_
          refine ⟨q, ?_⟩
          have e : evs (c3 o0 false o2 n0 n1 n2) d (1 + 1) = evs (c3 o0 false o2 n0 n1 n2) d 1 := by
            have he : evOf (c3 o0 false o2 n0 n1 n2 1) (d 1) 1 = [] := by rw [HD.out]; simp [evOf, c3, HO.out]
            show evs (c3 o0 false o2 n0 n1 n2) d 1 ++ evOf (c3 o0 false o2 n0 n1 n2 1) (d 1) 1 = _
            rw [he, List.append_nil]
          rw [e]
          exact HO3.out _ _
        case measure => simp [intOf]
      · go_wp2_with (at_builtin; go_must (refine wpList_append_own _ rfl _ _ 39 rfl (w.heap.size + 1 + 1 + 1 + 1) 45 i0 (.agg #[.int .i64 0, .string ⟨#[]⟩, .int .i64 0, .int .i64 0]) 4 40 Try.underlying39 hi0 hz0 hz1 hz2 rfl (by decide) _ q _ rfl (HO2.out _ _ _) ⟨_, 0, none⟩ 1 1 [.int .i64 7, .string ⟨#[]⟩, .int .i64 1, .int .i64 0] rfl rfl ?c1 ?c2 ?c3 ?c4 ?c5 ?_))
        case c1 => exact news_alloc _ _ _ _ (by simp)
        case c2 => simp [Value.oneCell']
        case c3 => unfold maxLen; omega
        case c4 => omega
        case c5 =>
          have h1 := HINV.out.b3.lt
          have h2 := x.below.size
          simp at h2 ⊢
          omega
        intro v' w1 hown' hgrow _
        have HOWN' := Lib.hid hown'
        clear hown'
        have HG := Lib.hid hgrow
        clear hgrow
        go_wp2_with fail
        go_roundw
        case rel =>
          refine ⟨1 + 1, by omega, rfl, ?_⟩
          refine (HINV.out.round (by omega) (by rw [HD.out]; exact ho.symm) (by rw [HD.out]; rfl) x).grow HG.out (fun k' hk' => (HOWN.out.lt k' hk').1) ?_
          refine ⟨q + 1, ?_⟩
          have e : evs (c3 o0 true o2 n0 n1 n2) d (1 + 1) = evs (c3 o0 true o2 n0 n1 n2) d 1 ++ [⟨7, ⟨#[]⟩, 1, 0⟩] := by
            have he : evOf (c3 o0 true o2 n0 n1 n2 1) (d 1) 1 = [⟨7, ⟨#[]⟩, 1, 0⟩] := by rw [HD.out]; simp [evOf, c3, HO.out]
            show evs (c3 o0 true o2 n0 n1 n2) d 1 ++ evOf (c3 o0 true o2 n0 n1 n2 1) (d 1) 1 = _
            rw [he]
          rw [e, List.flatMap_append]
          simpa [Ev.cells] using HOWN'.out
        case measure => simp [intOf]
    · replace hi : _ = Value.int .i64 2 := hi
      subst hi
      have hix := fun (w : World) => (show (Instr.index 37 (Value.agg #[.bool o0, .int .i64 n0, .bool o1, .int .i64 n1, .bool o2, .int .i64 n2]) (.int .i64 2)).run Try.prog w = .ok (.agg #[.bool o2, .int .i64 n2]) w from by kernel_rfl)
      have b0 : Blk wr w.heap.size #[.bool (d 0).on, .int .i64 (d 0).calm, .bool (d 1).on, .int .i64 (d 1).calm, .bool o2, .int .i64 n2] 37 := inv.b0
      have hC0 := b0.cell
      have hF0 := b0.frozen
      haveI := b0.ltw
      have hC1 := inv.b1.cell
      have hF1 := inv.b1.frozen
      haveI := inv.b1.ltw
      have hC2 := inv.b2.cell
      have hF2 := inv.b2.frozen
      haveI := inv.b2.ltw
      obtain ⟨q, hown⟩ := inv.own
      have HB0 := Lib.hid b0
      have HOWN := Lib.hid hown
      have HINV := Lib.hid inv
      clear b0 hown inv
      have hst := fun W => step_any ⟨o2, n2⟩ (h 2) (m 2) fresh n W hb2.1 hb2.2
      have HST := Lib.hid hst
      clear hst
      go_wp2_with fail
      refine wp_region_E0 12 (by kernel_rfl) (by kernel_rfl) ?_
      simp only [List.take_succ_cons, List.take_zero, List.drop_succ_cons, List.drop_zero]
      repeat
        refine wpE_step (fun K hK => ?_)
        go_simp
        first
          | (refine hK _ ?_; clear hK K)
          | (apply Exists.intro; refine ⟨fun x => ?_, hK _ ?_⟩; (focus ((go_at_call 14; exact HST.out _))); clear hK K)
      refine wpE_nil (fun x => ?_)
      have hq : q ≤ 2 := by
        have h1 := HOWN.out.1
        have h2 := evs_len (c3 o0 o1 o2 n0 n1 n2) d 2
        simp only [evs_cells] at h1
        omega
      have hown3 : ∀ v0 v1 : Value, ((x.val.setCell ⟨w.heap.size, 2 * 2, none⟩ v0).setCell ⟨w.heap.size, 2 * 2 + 1, none⟩ v1).ownsRow (w.heap.size + 1 + 1 + 1 + 1) 45 4 _ q ((evs (c3 o0 o1 o2 n0 n1 n2) d 2).flatMap Ev.cells) := fun v0 v1 =>
        ownsRow_setCell_ne (ownsRow_setCell_ne (ownsRow_ext (HOWN.out.alloc _) x) (fun e => by have := (HOWN.out.lt _ e).1; simp at this; omega) _) (fun e => by have := (HOWN.out.lt _ e).1; simp at this; omega) _
      have HO2 := Lib.hid (fun (o : Obj) (v0 v1 : Value) => (hown3 v0 v1).alloc o)
      have HO3 := Lib.hid hown3
      clear hown3
      rcases Bool.eq_false_or_eq_true (stepF ⟨o2, n2⟩ (h 2) (m 2) fresh n).on with ho | ho <;> have HO := Lib.hid ho <;> cases o2
      · go_wp2_with (at_builtin; go_must (refine wpList_append_own _ rfl _ _ 39 rfl (w.heap.size + 1 + 1 + 1 + 1) 45 i0 (.agg #[.int .i64 0, .string ⟨#[]⟩, .int .i64 0, .int .i64 0]) 4 40 Try.underlying39 hi0 hz0 hz1 hz2 rfl (by decide) _ q _ rfl (HO2.out _ _ _) ⟨_, 0, none⟩ 1 1 [.int .i64 6, .string ⟨#[]⟩, .int .i64 2, .int .i64 0] rfl rfl ?c1 ?c2 ?c3 ?c4 ?c5 ?_))
        case c1 => exact news_alloc _ _ _ _ (by simp)
        case c2 => simp [Value.oneCell']
        case c3 => unfold maxLen; omega
        case c4 => omega
        case c5 =>
          have h1 := HINV.out.b3.lt
          have h2 := x.below.size
          simp at h2 ⊢
          omega
        intro v' w1 hown' hgrow _
        have HOWN' := Lib.hid hown'
        clear hown'
        have HG := Lib.hid hgrow
        clear hgrow
        go_wp2_with fail
        go_roundw
        case rel =>
          refine ⟨2 + 1, by omega, rfl, ?_⟩
          refine (HINV.out.round (by omega) (by rw [HD.out]; exact ho.symm) (by rw [HD.out]; rfl) x).grow HG.out (fun k' hk' => (HOWN.out.lt k' hk').1) ?_
          refine ⟨q + 1, ?_⟩
          have e : evs (c3 o0 o1 false n0 n1 n2) d (2 + 1) = evs (c3 o0 o1 false n0 n1 n2) d 2 ++ [⟨6, ⟨#[]⟩, 2, 0⟩] := by
            have he : evOf (c3 o0 o1 false n0 n1 n2 2) (d 2) 2 = [⟨6, ⟨#[]⟩, 2, 0⟩] := by rw [HD.out]; simp [evOf, c3, HO.out]
            show evs (c3 o0 o1 false n0 n1 n2) d 2 ++ evOf (c3 o0 o1 false n0 n1 n2 2) (d 2) 2 = _
            rw [he]
          rw [e, List.flatMap_append]
          simpa [Ev.cells] using HOWN'.out
        case measure => simp [intOf]
      · go_wp2_with fail
        go_roundw
        case rel =>
          refine ⟨2 + 1, by omega, rfl, ?_⟩
          refine (HINV.out.round (by omega) (by rw [HD.out]; exact ho.symm) (by rw [HD.out]; rfl) x).same ?_
          refine ⟨q, ?_⟩
          have e : evs (c3 o0 o1 true n0 n1 n2) d (2 + 1) = evs (c3 o0 o1 true n0 n1 n2) d 2 := by
            have he : evOf (c3 o0 o1 true n0 n1 n2 2) (d 2) 2 = [] := by rw [HD.out]; simp [evOf, c3, HO.out]
            show evs (c3 o0 o1 true n0 n1 n2) d 2 ++ evOf (c3 o0 o1 true n0 n1 n2 2) (d 2) 2 = _
            rw [he, List.append_nil]
          rw [e]
          exact HO3.out _ _
        case measure => simp [intOf]
      · go_wp2_with fail
        go_roundw
        case rel =>
          refine ⟨2 + 1, by omega, rfl, ?_⟩
          refine (HINV.out.round (by omega) (by rw [HD.out]; exact ho.symm) (by rw [HD.out]; rfl) x).same ?_
          refine ⟨q, ?_⟩
          have e : evs (c3 o0 o1 false n0 n1 n2) d (2 + 1) = evs (c3 o0 o1 false n0 n1 n2) d 2 := by
            have he : evOf (c3 o0 o1 false n0 n1 n2 2) (d 2) 2 = [] := by rw [HD.out]; simp [evOf, c3, HO.out]
            show evs (c3 o0 o1 false n0 n1 n2) d 2 ++ evOf (c3 o0 o1 false n0 n1 n2 2) (d 2) 2 = _
            rw [he, List.append_nil]
          rw [e]
          exact HO3.out _ _
        case measure => simp [intOf]
      · go_wp2_with (at_builtin; go_must (refine wpList_append_own _ rfl _ _ 39 rfl (w.heap.size + 1 + 1 + 1 + 1) 45 i0 (.agg #[.int .i64 0, .string ⟨#[]⟩, .int .i64 0, .int .i64 0]) 4 40 Try.underlying39 hi0 hz0 hz1 hz2 rfl (by decide) _ q _ rfl (HO2.out _ _ _) ⟨_, 0, none⟩ 1 1 [.int .i64 7, .string ⟨#[]⟩, .int .i64 2, .int .i64 0] rfl rfl ?c1 ?c2 ?c3 ?c4 ?c5 ?_))
        case c1 => exact news_alloc _ _ _ _ (by simp)
        case c2 => simp [Value.oneCell']
        case c3 => unfold maxLen; omega
        case c4 => omega
        case c5 =>
          have h1 := HINV.out.b3.lt
          have h2 := x.below.size
          simp at h2 ⊢
          omega
        intro v' w1 hown' hgrow _
        have HOWN' := Lib.hid hown'
        clear hown'
        have HG := Lib.hid hgrow
        clear hgrow
        go_wp2_with fail
        go_roundw
        case rel =>
          refine ⟨2 + 1, by omega, rfl, ?_⟩
          refine (HINV.out.round (by omega) (by rw [HD.out]; exact ho.symm) (by rw [HD.out]; rfl) x).grow HG.out (fun k' hk' => (HOWN.out.lt k' hk').1) ?_
          refine ⟨q + 1, ?_⟩
          have e : evs (c3 o0 o1 true n0 n1 n2) d (2 + 1) = evs (c3 o0 o1 true n0 n1 n2) d 2 ++ [⟨7, ⟨#[]⟩, 2, 0⟩] := by
            have he : evOf (c3 o0 o1 true n0 n1 n2 2) (d 2) 2 = [⟨7, ⟨#[]⟩, 2, 0⟩] := by rw [HD.out]; simp [evOf, c3, HO.out]
            show evs (c3 o0 o1 true n0 n1 n2) d 2 ++ evOf (c3 o0 o1 true n0 n1 n2 2) (d 2) 2 = _
            rw [he]
          rw [e, List.flatMap_append]
          simpa [Ev.cells] using HOWN'.out
        case measure => simp [intOf]
    · replace hi : _ = Value.int .i64 3 := hi
      subst hi
      have b0 : Blk wr w.heap.size #[.bool (d 0).on, .int .i64 (d 0).calm, .bool (d 1).on, .int .i64 (d 1).calm, .bool (d 2).on, .int .i64 (d 2).calm] 37 := inv.b0
      have b3 : Blk wr (w.heap.size + 1 + 1 + 1) #[.bool false, .int .i64 0, .bool false, .int .i64 0, .bool false, .int .i64 0] 37 := inv.b3
      have hC0 := b0.cell
      have hF0 := b0.frozen
      haveI := b0.ltw
      have hC3 := b3.cell
      have hF3 := b3.frozen
      haveI := b3.ltw
      obtain ⟨q, hown⟩ := inv.own
      have HB3 := Lib.hid b3
      have HOWN := Lib.hid hown
      have HINV := Lib.hid inv
      clear b0 b3 hown inv
      go_wp2_with fail
      haveI : Keeps w wr := ⟨HINV.out.keep⟩
      have hne : ∀ o : Nat, u12.ownBlock ≠ some (⟨w.heap.size + 1 + 1 + 1, o, none⟩ : Addr).block := fun o e => by
        have := (HOWN.out.lt _ e).1
        simp at this
        omega
      refine fin_retP (.tuple #[.agg (cells3 d), u12]) ?_ rfl ?_ ?_
      · simp [results, Try.results17, go_sem, cells3, hC3]
      · exact Keeps.out
      · refine ⟨u12, q, rfl, ?_⟩
        refine ownsRow_mono ?_ (Nat.le_trans (Nat.le_succ _) (Nat.le_trans (Nat.le_succ _) (Nat.le_trans (Nat.le_succ _) (Nat.le_succ _))))
        exact (ownsRow_setCell_ne (ownsRow_setCell_ne (ownsRow_setCell_ne (ownsRow_setCell_ne (ownsRow_setCell_ne (ownsRow_setCell_ne HOWN.out (hne _) _) (hne _) _) (hne _) _) (hne _) _) (hne _) _) (hne _) _)
end Go.Proofs.Ytkgganfbcfojcaa
