/- Walks over abstract values, printed by my program av.py. -/
import Derived.Test.YtkdpehhdbjkljaaDoorLex8
import Derived.Test.YtkdpehhdbjkljaaDoorAvT
namespace Go.Proofs.YtkdpehhdbjkljaaDoor
open Go.RowKit

theorem bytes_kd (l : List UInt8) : ∀ x ∈ byteAVs l, x.kd = 6 ∧ 6 ≠ 0 ∧ x.cells = [x] ∧ Clr 6 x := by
  intro x hx
  obtain ⟨c, _, rfl⟩ := List.mem_map.1 hx
  exact ⟨rfl, by decide, rfl, .lit _⟩
theorem clr_fields (fs : List Field) : Clr 6 (encL fs) := by
  have h : ∀ c ∈ (fs.map encF).flatMap AV.cells, ∃ f : Field, c = .str f.text ∨ c = .lit (.int .i64 f.line) ∨ c = .lit (.int .i64 f.col) := by
    intro c hc
    obtain ⟨x, hx, hc⟩ := List.mem_flatMap.1 hc
    obtain ⟨f, _, rfl⟩ := List.mem_map.1 hx
    simp [encF, AV.cells] at hc
    exact ⟨f, hc⟩
  refine .list _ _ _ (fun c hc => ?_) (fun c hc => ?_) (fun c hc => ?_) <;> obtain ⟨f, rfl | rfl | rfl⟩ := h c hc <;> first | (simp [AV.kd]; done) | exact .str _ | exact .lit _
theorem clr_lines (l : List UInt8) : Clr 6 (.list false 31 ((lexLines l).map encL)) := by
  have h : ∀ c ∈ ((lexLines l).map encL).flatMap AV.cells, ∃ fs, c = encL fs := by
    intro c hc
    obtain ⟨x, hx, hc⟩ := List.mem_flatMap.1 hc
    obtain ⟨fs, _, rfl⟩ := List.mem_map.1 hx
    simp [encL, AV.cells] at hc
    exact ⟨fs, hc⟩
  refine .list _ _ _ (fun c hc => ?_) (fun c hc => ?_) (fun c hc => ?_) <;> obtain ⟨fs, rfl⟩ := h c hc
  · simp [encL, AV.kd]
  · simp [encL, AV.kd]
  · exact clr_fields fs
theorem keeps_ok {b : List UInt8} : (bif errI b != 0 then true else decide (lexLines b = lexLines b)) = true := by simp
theorem rd_of2 {b : List UInt8} (h : ¬ errI b ≠ 0) : readableB b = true := by
  cases hr : readableB b with
  | true => rfl
  | false => exact absurd (by unfold errI; rw [hr]; decide) h

set_option maxRecDepth 20000 in
theorem LexKeeps_T (w0 : World) (hfx : Fix (Gh.start w0) w0) (b : List UInt8) (v0 : Value) (hv0 : RelV Tryd.prog (Gh.start w0) w0 (.list false 5 (byteAVs b)) v0) : Calls Tryd.prog 7 [v0].toArray w0 fun e w' => e = .returned (.bool true) ∧ Below w0.heap.size w0 w' := by
  refine TWp.law (args := [.pin (.list false 5 (byteAVs b)) v0]) Tryd.func7 rfl (n := 45) rfl rfl hfx rfl (by intro j x v hx hv; match j, hx, hv with | 0, hx, hv => cases hx; cases hv; exact ⟨rfl, rfl, hv0⟩ | _ + 1, hx, hv => cases hx) ?_
  refine TWp.seqA (AWp.region ?_)
  refine AOps.read trivial rfl (by decide) (Reader.move (.inr rfl) (ok_const rfl) (v := .lit (.bool false)) rfl) ?_
  refine AOps.nil ?_
  refine TWp.seq ?_
  refine TWp.regionJ [13, 0, 2] [] (fun z => ⟨(13, .lit (.bool z)) :: [(0, .pin (.list false 5 (byteAVs b)) v0), (2, .lit (.bool false))], [], noM⟩) (z := decide ((b.length : Int) > 5000)) ?_ ?_
  · skip
    refine AOps.call (args := []) trivial rfl (by decide) rfl rfl Tryd.call14 (args_ok rfl) rfl (by intro j x v hx hv; match j, hx, hv with  | _ + 0, hx, hv => cases hx) (awake_any noM) ?_
    rintro _ _ ⟨rfl, rfl⟩
    refine AOps.read trivial rfl (by decide) (Reader.not (b := true) rfl rfl) ?_
    refine AOps.read trivial rfl (by decide) (Reader.move (.inl rfl) (ok_const rfl) (v := .lit (.bool false)) rfl) ?_
    refine AOps.read ⟨9, rfl, rfl⟩ rfl (by decide) (Reader.move (.inl rfl) (ok_const rfl) (v := .list false 5 (byteAVs b)) rfl) ?_
    refine AOps.read ⟨9, rfl, rfl⟩ rfl (by decide) (Reader.len' (xs := byteAVs b) rfl rfl rfl rfl Tryd.underlying22 rfl (m := b.length) (byteAVs_len _)) ?_
    refine AOps.read ⟨9, rfl, rfl⟩ rfl (by decide) (Reader.int rfl rfl rfl (r := .bool (decide ((b.length : Int) > 5000))) rfl) ?_
    refine AOps.read trivial rfl (by decide) (Reader.pick rfl (b := false) rfl (ok_const rfl) (ok_const rfl) (v := .lit (.bool (decide ((b.length : Int) > 5000)))) rfl) ?_
    exact AOps.nil rfl
  refine TWp.cond (b := decide ((b.length : Int) > 5000)) rfl (fun h1 => ?_) (fun h1 => ?_)
  · skip
    have h1' : b.length > 5000 := (big_t h1)
    clear h1
    refine TWp.seqA (AWp.region ?_)
    refine AOps.call (args := []) trivial rfl (by decide) rfl rfl Tryd.call14 (args_ok rfl) rfl (by intro j x v hx hv; match j, hx, hv with  | _ + 0, hx, hv => cases hx) (awake_any noM) ?_
    rintro _ _ ⟨rfl, rfl⟩
    refine AOps.read trivial rfl (by decide) (Reader.move (.inr rfl) (ok_const rfl) (v := .lit (.bool true)) rfl) ?_
    refine AOps.nil ?_
    refine TWp.ret ?_
    exact ⟨.inl rfl, _, ResOf.one 2 (.lit (.bool true)) rfl rfl, rfl⟩
  · skip
    have h1' : b.length ≤ 5000 := (big_f h1)
    clear h1
    refine TWp.skip ?_
    refine TWp.seqA (AWp.region ?_)
    refine AOps.buildEmpty trivial rfl (by decide) rfl rfl Tryd.underlying22 sizeOf_5 ?_
    refine AOps.read trivial rfl (by decide) (Reader.move (.inl rfl) (ok_const rfl) (v := .list false 5 (byteAVs b)) rfl) ?_
    refine AOps.appL (bytes := 1) trivial rfl (by decide) (by decide) rfl rfl rfl rfl Tryd.underlying22 Tryd.underlying22 Tryd.i5 rfl rfl rfl rfl (xs := []) (ys := (byteAVs b)) (zs := (byteAVs b)) rfl rfl (m1 := 0) (m2 := b.length) rfl (byteAVs_len _) (by first | omega | (unfold maxLen; omega)) (by omega) (by simp [byteAVs]) ?_
    refine AOps.steal trivial rfl (by decide) (by decide) (.inr rfl) (v := .list true 5 (byteAVs b)) rfl ?_
    refine AOps.nil ?_
    refine TWp.seqA (AWp.region ?_)
    refine AOps.read trivial rfl (by decide) (Reader.move (.inl rfl) (ok_const rfl) (v := .list false 5 (byteAVs b)) rfl) ?_
    refine AOps.call (args := [.list false 5 (byteAVs b)]) trivial rfl (by decide) rfl rfl Tryd.call15 (args_ok rfl) rfl (by intro j x v hx hv; match j, hx, hv with | 0, hx, hv => cases hx; cases hv; exact .inl ⟨rfl, rfl⟩ | _ + 1, hx, hv => cases hx) (lines_any b (by first | assumption | omega | decide | (simp only [List.length_append, List.length_cons, List.length_nil]; omega)) noM) ?_
    rintro _ _ ⟨rfl, rfl⟩
    refine AOps.read trivial rfl (by decide) (Reader.move (.inl rfl) (ok_const rfl) (v := .tuple [.list false 31 ((lexLines b).map encL), .lit (.int .i64 (errI b))]) rfl) ?_
    refine AOps.read trivial rfl (by decide) (Reader.extract (v := .list false 31 ((lexLines b).map encL)) rfl rfl rfl rfl) ?_
    refine AOps.read trivial rfl (by decide) (Reader.extract (v := .lit (.int .i64 (errI b))) rfl rfl rfl rfl) ?_
    refine AOps.read trivial rfl (by decide) (Reader.move (.inr rfl) (ok_const rfl) (v := .list false 31 ((lexLines b).map encL)) rfl) ?_
    refine AOps.read trivial rfl (by decide) (Reader.move (.inr rfl) (ok_const rfl) (v := .lit (.int .i64 (errI b))) rfl) ?_
    refine AOps.nil ?_
    refine TWp.seq ?_
    refine TWp.seqA (AWp.region ?_)
    refine AOps.read trivial rfl (by decide) (Reader.move (.inl rfl) (ok_const rfl) (v := .list false 5 (byteAVs b)) rfl) ?_
    refine AOps.read trivial rfl (by decide) (Reader.ofBytes (l := b) rfl Tryd.underlying22 Tryd.underlying9 Tryd.underlying5 rfl) ?_
    refine AOps.read trivial rfl (by decide) (Reader.move (.inl rfl) (ok_const rfl) (v := .list false 5 (byteAVs b)) rfl) ?_
    refine AOps.read trivial rfl (by decide) (Reader.ofBytes (l := b) rfl Tryd.underlying22 Tryd.underlying9 Tryd.underlying5 rfl) ?_
    refine AOps.read trivial rfl (by decide) (Reader.strs rfl rfl rfl (r := !(b == b)) rfl) ?_
    refine AOps.nil ?_
    refine TWp.cond (b := !(b == b)) rfl (fun h2 => ?_) (fun h2 => ?_)
    · skip
      have h2' : ¬ (b = b) := (beq_eq_false_iff_ne.1 (bnot_t h2))
      clear h2
      refine TWp.seqA (AWp.region ?_)
      refine AOps.read trivial rfl (by decide) (Reader.move (.inr rfl) (ok_const rfl) (v := .lit (.bool false)) rfl) ?_
      refine AOps.nil ?_
      refine TWp.ret ?_
      exact ⟨.inl rfl, _, ResOf.one 2 (.lit (.bool false)) rfl rfl, congrArg (fun b => AV.lit (.bool b)) (by simp at *)⟩
    · skip
      have h2' : b = b := (eq_of_beq (bnot_f h2))
      clear h2
      refine TWp.skip ?_
      refine TWp.seq ?_
      refine TWp.seqA (AWp.region ?_)
      refine AOps.read trivial rfl (by decide) (Reader.move (.inr rfl) (ok_const rfl) (v := .lit (.int .i64 0)) rfl) ?_
      refine AOps.nil ?_
      refine TWp.block ?_
      refine TWp.unpin 0 rfl ?_
      refine TWp.loopE [0, 3, 4, 5, 6] [] (fun m s => ∃ (i : Nat) (o : List UInt8), m = b.length - i ∧ s = ⟨[(0, .lit v0), (3, .list true 5 (byteAVs o)), (4, .list false 31 ((lexLines b).map encL)), (5, .lit (.int .i64 (errI b))), (6, .lit (.int .i64 (i : Int)))], [], noM⟩ ∧ (o.length = b.length)) ?_ ?_
      · exact ⟨_, 0, b, rfl, rfl, rfl⟩
      · rintro _ _ ⟨i, o, rfl, rfl, ho⟩
        refine TWp.seq ?_
        refine TWp.seqA (AWp.region ?_)
        refine AOps.read trivial rfl (by decide) (Reader.move (.inl rfl) (ok_const rfl) (v := .lit (.int .i64 (i : Int))) rfl) ?_
        refine AOps.read trivial rfl (by decide) (Reader.move (.inl rfl) (ok_const rfl) (v := .list false 5 (byteAVs o)) rfl) ?_
        refine AOps.read trivial rfl (by decide) (Reader.len' (xs := byteAVs o) rfl rfl rfl rfl Tryd.underlying22 rfl (m := b.length) (by rw [byteAVs_len]; exact ho)) ?_
        refine AOps.read trivial rfl (by decide) (Reader.int rfl rfl rfl (r := .bool (decide ((i : Int) < (b.length : Int)))) rfl) ?_
        refine AOps.nil ?_
        refine TWp.cond (b := decide ((i : Int) < (b.length : Int))) rfl (fun h3 => ?_) (fun h3 => ?_)
        · skip
          have h3' : i < b.length := (by have hh := of_decide_eq_true h3; omega)
          clear h3
          refine TWp.skip ?_
          refine TWp.seq ?_
          refine TWp.block ?_
          refine TWp.setElem (c := .lit (.int .u8 33)) (ys := (byteAVs (o.set i 33))) (m := i) [0, 3, 4, 5, 6] .i64 ⟨rfl, rfl, rfl⟩ ⟨rfl, rfl, rfl⟩ ⟨rfl, rfl, rfl⟩ ⟨rfl, rfl, rfl⟩ (by decide) Tryd.underlying22 sizeOf_5 sizeOf_5 rfl rfl (by rw [byteAVs_len]; omega) rfl (fun _ _ => .lit _) rfl rfl (bytes_kd _) (by intro i hi hne; simp only [List.mem_cons, List.mem_nil_iff, or_false] at hi; rcases hi with rfl | rfl | rfl | rfl | rfl <;> first | exact clr_lines _ | exact Clr.lit _ | exact Clr.str _ | exact absurd rfl hne) rfl (by simp [byteAVs, List.map_set]) ?_
          refine TWp.region ?_
          refine AOps.read trivial rfl (by decide) (Reader.move (.inl rfl) (ok_const rfl) (v := .lit (.int .i64 (i : Int))) rfl) ?_
          refine AOps.read trivial rfl (by decide) (Reader.sum rfl rfl rfl (m := (i : Int) + 1) (c := ((i + 1 : Nat) : Int)) rfl (by first | exact IntWalk.i64_in _ (by omega) | exact IntWalk.i64_in _ (by constructor <;> omega) | (simp only [];omega))) ?_
          refine AOps.read trivial rfl (by decide) (Reader.move (.inr rfl) (ok_const rfl) (v := .lit (.int .i64 ((i + 1 : Nat) : Int))) rfl) ?_
          refine AOps.nil ?_
          exact ⟨_, by omega, i + 1, o.set i 33, rfl, rfl, by simp [ho]⟩
        · skip
          have h3' : ¬ (i < b.length) := (by have hh := of_decide_eq_false h3; omega)
          clear h3
          refine TWp.exit ?_
          refine TWp.pin 0 (x := .list false 5 (byteAVs b)) rfl rfl hv0 ?_
          refine TWp.regionJ [2, 0, 3, 4, 5, 6, 31] [] (fun z => ⟨(2, .lit (.bool z)) :: [(0, .pin (.list false 5 (byteAVs b)) v0), (3, .list true 5 (byteAVs o)), (4, .list false 31 ((lexLines b).map encL)), (5, .lit (.int .i64 (errI b))), (6, .lit (.int .i64 (i : Int))), (31, .lit (.bool (decide ((i : Int) < (b.length : Int)))))], [], noM⟩) (z := bif ((errI b) != 0) then true else (decide ((lexLines b) = (lexLines b)))) ?_ ?_
          · skip
            refine AOps.read trivial rfl (by decide) (Reader.move (.inl rfl) (ok_const rfl) (v := .lit (.int .i64 (errI b))) rfl) ?_
            refine AOps.read trivial rfl (by decide) (Reader.int rfl rfl rfl (r := .bool ((errI b) != 0)) rfl) ?_
            refine AOps.read trivial rfl (by decide) (Reader.move (.inl rfl) (ok_const rfl) (v := .lit (.bool ((errI b) != 0))) rfl) ?_
            refine AOps.splitJ (t := 39) (b := (errI b) != 0) (x := true) (y := (decide ((lexLines b) = (lexLines b)))) rfl (fun h4 => ?_) (fun h4 => ?_)
            · skip
              have h4' : (errI b) ≠ 0 := (by have hh := bne_iff_ne.1 h4; omega)
              clear h4
              refine AOps.skip ⟨2, false, 39, _, rfl, rfl, rfl, by simp⟩ rfl (by decide) ?_
              refine AOps.skip ⟨2, false, 39, _, rfl, rfl, rfl, by simp⟩ rfl (by decide) ?_
              refine AOps.skip ⟨2, false, 39, _, rfl, rfl, rfl, by simp⟩ rfl (by decide) ?_
              refine AOps.skip ⟨2, false, 39, _, rfl, rfl, rfl, by simp⟩ rfl (by decide) ?_
              refine AOps.read trivial rfl (by decide) (Reader.pick rfl (b := true) rfl (ok_const rfl) (ok_const rfl) (v := .lit (.bool true)) rfl) ?_
              refine AOps.read trivial rfl (by decide) (Reader.move (.inr rfl) (ok_const rfl) (v := .lit (.bool true)) rfl) ?_
              exact AOps.nil rfl
            · skip
              have h4' : ¬ ((errI b) ≠ 0) := (by have hh := bne_eq_false_iff_eq.1 h4; omega)
              clear h4
              refine AOps.read ⟨39, rfl, rfl⟩ rfl (by decide) (Reader.move (.inl rfl) (ok_const rfl) (v := .list false 31 ((lexLines b).map encL)) rfl) ?_
              refine AOps.read ⟨39, rfl, rfl⟩ rfl (by decide) (Reader.move (.inl rfl) (ok_const rfl) (v := .list false 5 (byteAVs b)) rfl) ?_
              refine AOps.call (args := [.list false 5 (byteAVs b)]) ⟨39, rfl, rfl⟩ rfl (by decide) rfl rfl Tryd.call18 (args_ok rfl) rfl (by intro j x v hx hv; match j, hx, hv with | 0, hx, hv => cases hx; cases hv; exact .inl ⟨rfl, rfl⟩ | _ + 1, hx, hv => cases hx) (rlines_any b (by first | assumption | omega) (rd_of2 (by assumption)) noM) ?_
              rintro _ _ ⟨rfl, rfl⟩
              refine AOps.call (args := [.list false 31 ((lexLines b).map encL), .list false 31 ((lexLines b).map encL)]) ⟨39, rfl, rfl⟩ rfl (by decide) rfl rfl Tryd.call17 (args_ok rfl) rfl (by intro j x v hx hv; match j, hx, hv with | 0, hx, hv => cases hx; cases hv; exact .inl ⟨rfl, rfl⟩ | 1, hx, hv => cases hx; cases hv; exact .inl ⟨rfl, rfl⟩ | _ + 2, hx, hv => cases hx) (same_any (lexLines b) (lexLines b) (lex_small b) (lex_small b) noM) ?_
              rintro _ _ ⟨rfl, rfl⟩
              refine AOps.read trivial rfl (by decide) (Reader.pick rfl (b := false) rfl (ok_const rfl) (ok_const rfl) (v := .lit (.bool (decide ((lexLines b) = (lexLines b))))) rfl) ?_
              refine AOps.read trivial rfl (by decide) (Reader.move (.inr rfl) (ok_const rfl) (v := .lit (.bool (decide ((lexLines b) = (lexLines b))))) rfl) ?_
              exact AOps.nil rfl
          refine TWp.ret ?_
          exact ⟨.inl rfl, _, ResOf.one 2 (.lit (.bool (bif ((errI b) != 0) then true else (decide ((lexLines b) = (lexLines b)))))) rfl rfl, congrArg (fun b => AV.lit (.bool b)) (keeps_ok (b := b))⟩

end Go.Proofs.YtkdpehhdbjkljaaDoor
