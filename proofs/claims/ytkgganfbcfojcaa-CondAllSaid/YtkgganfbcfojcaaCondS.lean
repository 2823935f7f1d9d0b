/- The walk of the reference's SameEvents, at two alike. -/
import Derived.Test.YtkgganfbcfojcaaCondA
namespace Go.Proofs.Ytkgganfbcfojcaa
open Go.RowKit

theorem evs_cell (l : List Ev) (k : Nat) (e : Ev) (h : l[k]? = some e) : (l.flatMap Ev.cells)[k * 4]? = some (.int .i64 e.kind) ∧ (l.flatMap Ev.cells)[k * 4 + 1]? = some (.string e.id) ∧ (l.flatMap Ev.cells)[k * 4 + 2]? = some (.int .i64 e.signal) ∧ (l.flatMap Ev.cells)[k * 4 + 3]? = some (.int .i64 e.n) := by
  induction l generalizing k with
  | nil => simp at h
  | cons a r ih =>
    cases k with
    | zero => simp at h; subst h; simp [Ev.cells]
    | succ k =>
      have := ih k (by simpa using h)
      have e4 : ∀ j, ((a :: r).flatMap Ev.cells)[(k + 1) * 4 + j]? = (r.flatMap Ev.cells)[k * 4 + j]? := by
        intro j
        rw [List.flatMap_cons, List.getElem?_append_right (by simp [Ev.cells]; omega)]
        congr 1
        simp [Ev.cells]
        omega
      exact ⟨by simpa using (e4 0).trans this.1, (e4 1).trans this.2.1, (e4 2).trans this.2.2.1, (e4 3).trans this.2.2.2⟩

set_option maxHeartbeats 400000 in
theorem same_any (a b : Value) (l : List Ev) (w : World) (ha : Reads w 4 a l.length (l.flatMap Ev.cells)) (hb : Reads w 4 b l.length (l.flatMap Ev.cells)) :
    Calls Try.prog 19 #[a, b] w (RetE w (.bool true)) := by
  obtain ⟨_, hm, ha⟩ := ha
  obtain ⟨_, _, hb⟩ := hb
  unfold maxLen at hm
  rcases Nat.eq_zero_or_pos l.length with h0 | h0
  · have ea : a = .slice none 0 0 ∨ ∃ g off cap, a = .slice (some ⟨g, off, none⟩) 0 cap := by
      rcases ha with ⟨h, _⟩ | ⟨g, off, cap, h, _⟩
      · exact .inl h
      · exact .inr ⟨g, off, cap, by rw [h, h0]⟩
    have eb : b = .slice none 0 0 ∨ ∃ g off cap, b = .slice (some ⟨g, off, none⟩) 0 cap := by
      rcases hb with ⟨h, _⟩ | ⟨g, off, cap, h, _⟩
      · exact .inl h
      · exact .inr ⟨g, off, cap, by rw [h, h0]⟩
    clear ha hb hm h0
    rcases ea with rfl | ⟨g, off, cap, rfl⟩ <;> rcases eb with rfl | ⟨g', off', cap', rfl⟩
    all_goals
      go_enter Try.func19, Try.ntmps19
      go_wp2_with fail
      refine wp_loop_rounds 1 ?_
      rw [rounds_succ]
      go_wp2_with fail
      refine fin_ret (v := .bool _) ?_ rfl ?_
      · refine (results_tmp rfl _ _ _).trans ?_
        refine congrArg (fun b => Result.ok (Value.bool b) _) ?_
        rfl
      · exact Keeps.out
  · obtain ⟨g, off, cap, rfl, hc, hg, hx⟩ := ha.resolve_left (by omega)
    obtain ⟨g', off', cap', rfl, hc', hg', hx'⟩ := hb.resolve_left (by omega)
    have HX := Lib.hid hx
    have HX' := Lib.hid hx'
    clear hx hx' ha hb
    go_enter Try.func19, Try.ntmps19
    go_wp2_with fail
    go_loopw [5] (fun i wr => ∃ k : Nat, k ≤ l.length ∧ i = .int .i64 k ∧ ∃ x : Ext w, wr = x.val) (fun i _ => l.length - (intOf i).toNat)
    case atStart => exact ⟨0, by omega, rfl, ⟨w, Below.refl _ _⟩, rfl⟩
    case round =>
      obtain ⟨k, hk, rfl, x, rfl⟩ := hrel
      by_cases hlt : k < l.length
      · have he : l[k]? = some l[k] := by simp
        obtain ⟨c0, c1, c2, c3⟩ := evs_cell l k _ he
        haveI : LtW g w := ⟨hg h0⟩
        haveI : LtW g' w := ⟨hg' h0⟩
        have a0 : w.cell? ⟨g, off + k * 4, none⟩ = _ := HX.out _ _ c0
        have a1 : w.cell? ⟨g, off + k * 4 + 1, none⟩ = _ := HX.out _ _ c1
        have a2 : w.cell? ⟨g, off + k * 4 + 2, none⟩ = _ := HX.out _ _ c2
        have a3 : w.cell? ⟨g, off + k * 4 + 3, none⟩ = _ := HX.out _ _ c3
        have b0 : w.cell? ⟨g', off' + k * 4, none⟩ = _ := HX'.out _ _ c0
        have b1 : w.cell? ⟨g', off' + k * 4 + 1, none⟩ = _ := HX'.out _ _ c1
        have b2 : w.cell? ⟨g', off' + k * 4 + 2, none⟩ = _ := HX'.out _ _ c2
        have b3 : w.cell? ⟨g', off' + k * 4 + 3, none⟩ = _ := HX'.out _ _ c3
        generalize l[k] = ev at a0 a1 a2 a3 b0 b1 b2 b3
        clear c0 c1 c2 c3 he
        go_wp2_with fail
        refine wp_region_E0 9 (by kernel_rfl) (by kernel_rfl) ?_
        simp only [List.take_succ_cons, List.take_zero, List.drop_succ_cons, List.drop_zero]
        repeat
          refine wpE_step (fun K hK => ?_)
          go_simp
          first
            | (refine hK _ ?_; clear hK K)
            | (apply Exists.intro; refine ⟨fun x => ?_, hK _ ?_⟩; (focus (fail)); clear hK K)
        refine wpE_nil (fun x => ?_)
        go_wp2_with fail
        go_roundw
        case rel => exact ⟨k + 1, by omega, by go_num, exists_ext⟩
        case measure => simp [intOf]; omega
      · go_wp2_with fail
        refine fin_ret (v := .bool _) ?_ rfl ?_
        · refine (results_tmp rfl _ _ _).trans ?_
          refine congrArg (fun b => Result.ok (Value.bool b) _) ?_
          rfl
        · exact Keeps.out
end Go.Proofs.Ytkgganfbcfojcaa
