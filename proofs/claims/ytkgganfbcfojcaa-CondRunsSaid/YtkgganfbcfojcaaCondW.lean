/- The walks of cond and its reference: what each function computes. -/
import Derived.Test.YtkgganfbcfojcaaRows
import Derived.Test.YtkgganfbcfojcaaReg
namespace Go.Proofs.Ytkgganfbcfojcaa
open Go.RowKit

structure CC where
  on : Bool
  calm : Int

def rightF (c : CC) (n : Int) : Bool := if c.on then decide (0 ≤ c.calm) && decide (c.calm < n) else decide (c.calm = 0)
def periodF (n : Int) : Bool := decide (1 ≤ n) && decide (n ≤ 1000)

theorem period_any (n : Int) (w : World) :
    Calls Try.prog 13 #[.int .i64 n] w (RetE w (.bool (periodF n))) := by
  unfold periodF
  go_enter Try.func13, Try.ntmps13
  go_wp2
  all_goals
    refine fin_ret (v := .bool _) ?_ rfl ?_
    · refine (results_tmp rfl _ _ _).trans ?_
      refine congrArg (fun b => Result.ok (Value.bool b) _) ?_
      (simp <;> omega)
    · exact Keeps.out

theorem right_any (c : CC) (n : Int) (w : World) :
    Calls Try.prog 11 #[.agg #[.bool c.on, .int .i64 c.calm], .int .i64 n] w (RetE w (.bool (rightF c n))) := by
  obtain ⟨on, calm⟩ := c
  unfold rightF
  cases on
  all_goals
    go_enter Try.func11, Try.ntmps11
    go_wp2
    all_goals
      refine fin_ret (v := .bool _) ?_ rfl ?_
      · refine (results_tmp rfl _ _ _).trans ?_
        refine congrArg (fun b => Result.ok (Value.bool b) _) ?_
        first | rfl | (simp; done) | (simp; omega)
      · exact Keeps.out

theorem rright_any (c : CC) (n : Int) (w : World) :
    Calls Try.prog 12 #[.agg #[.bool c.on, .int .i64 c.calm], .int .i64 n] w (RetE w (.bool (rightF c n))) := by
  obtain ⟨on, calm⟩ := c
  unfold rightF
  cases on
  all_goals
    go_enter Try.func12, Try.ntmps12
    go_wp2
    all_goals
      refine fin_ret (v := .bool _) ?_ rfl ?_
      · refine (results_tmp rfl _ _ _).trans ?_
        refine congrArg (fun b => Result.ok (Value.bool b) _) ?_
        first | rfl | (simp; done) | (simp; omega)
      · exact Keeps.out

def stepF (c : CC) (holds met fresh : Bool) (n : Int) : CC :=
  if fresh && holds then ⟨true, 0⟩ else
  if !c.on || !fresh || met then ⟨c.on, 0⟩ else
  if n ≤ c.calm + 1 then ⟨false, 0⟩ else ⟨true, c.calm + 1⟩

theorem step_any (c : CC) (holds met fresh : Bool) (n : Int) (w : World) (h0 : 0 ≤ c.calm) (h1 : c.calm ≤ 1000) :
    Calls Try.prog 14 #[.agg #[.bool c.on, .int .i64 c.calm], .bool holds, .bool met, .bool fresh, .int .i64 n] w (RetE w (.agg #[.bool (stepF c holds met fresh n).on, .int .i64 (stepF c holds met fresh n).calm])) := by
  obtain ⟨on, calm⟩ := c
  simp only at h0 h1
  cases fresh
  · cases on
    · go_enter Try.func14, Try.ntmps14
      go_wp2
      refine fin_ret ?_ rfl ?_
      · simp [results, Try.results14, go_sem, stepF]
      · exact Keeps.out
    · go_enter Try.func14, Try.ntmps14
      go_wp2
      refine fin_ret ?_ rfl ?_
      · simp [results, Try.results14, go_sem, stepF]
      · exact Keeps.out
  · cases holds
    · cases on
      · go_enter Try.func14, Try.ntmps14
        go_wp2
        refine fin_ret ?_ rfl ?_
        · simp [results, Try.results14, go_sem, stepF]
        · exact Keeps.out
      · cases met
        · by_cases hn : n ≤ calm + 1
          · go_enter Try.func14, Try.ntmps14
            go_wp2
            refine fin_ret ?_ rfl ?_
            · simp [results, Try.results14, go_sem, stepF, hn]
            · exact Keeps.out
          · have hx : ¬ n ≤ calm + 1 := hn
            clear hn
            have hn : calm + 1 < n := by omega
            clear hx
            go_enter Try.func14, Try.ntmps14
            go_wp2
            refine fin_ret ?_ rfl ?_
            · simp [results, Try.results14, go_sem, stepF, Int.not_le.2 hn]
            · exact Keeps.out
        · go_enter Try.func14, Try.ntmps14
          go_wp2
          refine fin_ret ?_ rfl ?_
          · simp [results, Try.results14, go_sem, stepF]
          · exact Keeps.out
    · go_enter Try.func14, Try.ntmps14
      go_wp2
      refine fin_ret ?_ rfl ?_
      · simp [results, Try.results14, go_sem, stepF]
      · exact Keeps.out

theorem rstep_any (c : CC) (holds met fresh : Bool) (n : Int) (w : World) (h0 : 0 ≤ c.calm) (h1 : c.calm ≤ 1000) (hr : rightF c n = true) :
    Calls Try.prog 15 #[.agg #[.bool c.on, .int .i64 c.calm], .bool holds, .bool met, .bool fresh, .int .i64 n] w (RetE w (.agg #[.bool (stepF c holds met fresh n).on, .int .i64 (stepF c holds met fresh n).calm])) := by
  obtain ⟨on, calm⟩ := c
  simp only at h0 h1
  cases on
  · obtain rfl : calm = 0 := by simpa [rightF] using hr
    clear hr
    cases fresh
    · go_enter Try.func15, Try.ntmps15
      go_wp2
      refine fin_ret ?_ rfl ?_
      · simp [results, Try.results15, go_sem, stepF]
      · exact Keeps.out
    · cases holds
      · go_enter Try.func15, Try.ntmps15
        go_wp2
        refine fin_ret ?_ rfl ?_
        · simp [results, Try.results15, go_sem, stepF]
        · exact Keeps.out
      · go_enter Try.func15, Try.ntmps15
        go_wp2
        refine fin_ret ?_ rfl ?_
        · simp [results, Try.results15, go_sem, stepF]
        · exact Keeps.out
  · have hl : calm < n := by simp [rightF] at hr; omega
    clear hr
    cases fresh
    · go_enter Try.func15, Try.ntmps15
      go_wp2
      refine fin_ret ?_ rfl ?_
      · simp [results, Try.results15, go_sem, stepF]
      · exact Keeps.out
    · cases holds
      · cases met
        · by_cases hn : n ≤ calm + 1
          · obtain rfl : n = calm + 1 := by omega
            clear hl hn
            go_enter Try.func15, Try.ntmps15
            go_wp2
            refine fin_ret ?_ rfl ?_
            · simp [results, Try.results15, go_sem, stepF]
            · exact Keeps.out
          · have hq : (calm + 1 == n) = false := by rw [beq_eq_false_iff_ne]; omega
            have hx : calm + 1 < n := by omega
            clear hn
            go_enter Try.func15, Try.ntmps15
            go_wp2
            refine fin_ret ?_ rfl ?_
            · simp [results, Try.results15, go_sem, stepF, Int.not_le.2 hx]
            · exact Keeps.out
        · go_enter Try.func15, Try.ntmps15
          go_wp2
          refine fin_ret ?_ rfl ?_
          · simp [results, Try.results15, go_sem, stepF]
          · exact Keeps.out
      · go_enter Try.func15, Try.ntmps15
        go_wp2
        refine fin_ret ?_ rfl ?_
        · simp [results, Try.results15, go_sem, stepF]
        · exact Keeps.out

theorem step_to (on : Bool) (calm : Int) (holds met fresh : Bool) (n : Int) (w : World) (on' : Bool) (calm' : Int) (hs : stepF ⟨on, calm⟩ holds met fresh n = ⟨on', calm'⟩) (h0 : 0 ≤ calm) (h1 : calm ≤ 1000) :
    Calls Try.prog 14 #[.agg #[.bool on, .int .i64 calm], .bool holds, .bool met, .bool fresh, .int .i64 n] w (RetE w (.agg #[.bool on', .int .i64 calm'])) := by
  have := step_any ⟨on, calm⟩ holds met fresh n w h0 h1
  rw [hs] at this
  exact this

end Go.Proofs.Ytkgganfbcfojcaa
