/- Walks over abstract values, printed by my program av.py. -/
import Derived.Test.YtpfplkbbdoijnaaDoorQu4
import Derived.Test.YtpfplkbbdoijnaaDoorAvT
namespace Go.Proofs.YtpfplkbbdoijnaaDoor
open Go.RowKit

theorem strs_kd (l : List (List UInt8)) : ∀ x ∈ l.map AV.str, x.kd = 1 ∧ 1 ≠ 0 ∧ x.cells = [x] ∧ Clr 1 x := by
  intro x hx
  obtain ⟨c, _, rfl⟩ := List.mem_map.1 hx
  exact ⟨rfl, by decide, rfl, .str _⟩

set_option maxRecDepth 20000 in
theorem QuantKeeps_T (w0 : World) (hfx : Fix (Gh.start w0) w0) (n : Int) (hn : n.toNat ≤ 9223372036854775807) : Calls Tryd.prog 6 [.int .i64 n].toArray w0 fun e w' => e = .returned (.bool true) ∧ Below w0.heap.size w0 w' := by
  refine TWp.law (args := [.lit (.int .i64 n)]) Tryd.func6 rfl (n := 30) rfl rfl hfx rfl (by intro j x v hx hv; match j, hx, hv with | 0, hx, hv => cases hx; cases hv; exact RelV.lit _ | _ + 1, hx, hv => cases hx) ?_
  refine TWp.seqA (AWp.region ?_)
  refine AOps.read trivial rfl (by decide) (Reader.move (.inr rfl) (ok_const rfl) (v := .lit (.bool false)) rfl) ?_
  refine AOps.nil ?_
  refine TWp.seq ?_
  refine TWp.seqA (AWp.region ?_)
  refine AOps.call (args := []) trivial rfl (by decide) rfl rfl Tryd.call8 (args_ok rfl) rfl (by intro j x v hx hv; match j, hx, hv with  | _ + 0, hx, hv => cases hx) (awake_any noM) ?_
  rintro _ _ ⟨rfl, rfl⟩
  refine AOps.read trivial rfl (by decide) (Reader.not (b := true) rfl rfl) ?_
  refine AOps.nil ?_
  refine TWp.cond (b := false) rfl (fun hx => by cases hx) (fun hx => ?_)
  refine TWp.skip ?_
  refine TWp.seqA (AWp.region ?_)
  refine AOps.call (args := []) trivial rfl (by decide) rfl rfl Tryd.call15 (args_ok rfl) rfl (by intro j x v hx hv; match j, hx, hv with  | _ + 0, hx, hv => cases hx) (Units_any noM) ?_
  rintro _ _ ⟨rfl, rfl⟩
  refine AOps.steal trivial rfl (by decide) (by decide) (.inr rfl) (v := .list true 9 (namesL.map AV.str)) rfl ?_
  refine AOps.nil ?_
  refine TWp.seqA (AWp.region ?_)
  refine AOps.read trivial rfl (by decide) (Reader.move (.inl rfl) (ok_const rfl) (v := .lit (.int .i64 n)) rfl) ?_
  refine AOps.call (args := [.lit (.int .i64 n)]) trivial rfl (by decide) rfl rfl Tryd.call13 (args_ok rfl) rfl (by intro j x v hx hv; match j, hx, hv with | 0, hx, hv => cases hx; cases hv; exact .inl ⟨rfl, rfl⟩ | _ + 1, hx, hv => cases hx) (Print_any n (by omega) noM) ?_
  rintro _ _ ⟨rfl, rfl⟩
  refine AOps.read trivial rfl (by decide) (Reader.move (.inr rfl) (ok_const rfl) (v := .str (printV n.toNat)) rfl) ?_
  refine AOps.nil ?_
  refine TWp.seq ?_
  refine TWp.seqA (AWp.region ?_)
  refine AOps.read trivial rfl (by decide) (Reader.move (.inr rfl) (ok_const rfl) (v := .lit (.int .i64 0)) rfl) ?_
  refine AOps.nil ?_
  refine TWp.block ?_
  refine TWp.loopE [0, 3, 4, 5] [] (fun m s => ∃ (i : Nat) (o : List (List UInt8)), m = 8 - i ∧ s = ⟨[(0, .lit (.int .i64 n)), (3, .list true 9 (o.map AV.str)), (4, .str (printV n.toNat)), (5, .lit (.int .i64 (i : Int)))], [], noM⟩ ∧ (o.length = 8)) ?_ ?_
  · exact ⟨_, 0, namesL, rfl, rfl, rfl⟩
  · rintro _ _ ⟨i, o, rfl, rfl, ho⟩
    refine TWp.seq ?_
    refine TWp.seqA (AWp.region ?_)
    refine AOps.read trivial rfl (by decide) (Reader.move (.inl rfl) (ok_const rfl) (v := .lit (.int .i64 (i : Int))) rfl) ?_
    refine AOps.read trivial rfl (by decide) (Reader.move (.inl rfl) (ok_const rfl) (v := .list false 9 (o.map AV.str)) rfl) ?_
    refine AOps.read trivial rfl (by decide) (Reader.len' (xs := o.map AV.str) rfl rfl rfl rfl Tryd.underlying33 rfl (m := 8) (by rw [List.length_map]; exact ho)) ?_
    refine AOps.read trivial rfl (by decide) (Reader.int rfl rfl rfl (r := .bool (decide ((i : Int) < (8 : Int)))) rfl) ?_
    refine AOps.nil ?_
    refine TWp.cond (b := decide ((i : Int) < (8 : Int))) rfl (fun h1 => ?_) (fun h1 => ?_)
    · skip
      have h1' : i < 8 := (by have hh := of_decide_eq_true h1; omega)
      clear h1
      refine TWp.skip ?_
      refine TWp.seq ?_
      refine TWp.block ?_
      refine TWp.setElem (c := .str [63]) (ys := ((o.set i [63]).map AV.str)) (m := i) [0, 3, 4, 5] .i64 ⟨rfl, rfl, rfl⟩ ⟨rfl, rfl, rfl⟩ ⟨rfl, rfl, rfl⟩ ⟨rfl, rfl, rfl⟩ (by decide) Tryd.underlying33 sizeOf_9 sizeOf_9 rfl rfl (by rw [List.length_map]; omega) rfl (fun _ _ => .str _) rfl rfl (strs_kd _) (by intro i hi hne; simp only [List.mem_cons, List.mem_nil_iff, or_false] at hi; rcases hi with rfl | rfl | rfl | rfl <;> first  | exact Clr.lit _ | exact Clr.str _ | exact absurd rfl hne) rfl (by simp [List.map_set]) ?_
      refine TWp.region ?_
      refine AOps.read trivial rfl (by decide) (Reader.move (.inl rfl) (ok_const rfl) (v := .lit (.int .i64 (i : Int))) rfl) ?_
      refine AOps.read trivial rfl (by decide) (Reader.sum rfl rfl rfl (m := (i : Int) + 1) (c := ((i + 1 : Nat) : Int)) rfl (by first | exact IntWalk.i64_in _ (by omega) | exact IntWalk.i64_in _ (by constructor <;> omega) | (simp only [];omega))) ?_
      refine AOps.read trivial rfl (by decide) (Reader.move (.inr rfl) (ok_const rfl) (v := .lit (.int .i64 ((i + 1 : Nat) : Int))) rfl) ?_
      refine AOps.nil ?_
      exact ⟨_, by omega, i + 1, o.set i [63], rfl, rfl, by simp [ho]⟩
    · skip
      have h1' : ¬ (i < 8) := (by have hh := of_decide_eq_false h1; omega)
      clear h1
      refine TWp.exit ?_
      refine TWp.regionJ [2, 0, 3, 4, 5, 14] [] (fun z => ⟨(2, .lit (.bool z)) :: [(0, .lit (.int .i64 n)), (3, .list true 9 (o.map AV.str)), (4, .str (printV n.toNat)), (5, .lit (.int .i64 (i : Int))), (14, .lit (.bool (decide ((i : Int) < (8 : Int)))))], [], noM⟩) (z := bif ((printV n.toNat) == (printV n.toNat)) then ((namesL.getD 0 []) == [84, 105]) else false) ?_ ?_
      · skip
        refine AOps.read trivial rfl (by decide) (Reader.move (.inl rfl) (ok_const rfl) (v := .lit (.int .i64 n)) rfl) ?_
        refine AOps.call (args := [.lit (.int .i64 n)]) trivial rfl (by decide) rfl rfl Tryd.call13 (args_ok rfl) rfl (by intro j x v hx hv; match j, hx, hv with | 0, hx, hv => cases hx; cases hv; exact .inl ⟨rfl, rfl⟩ | _ + 1, hx, hv => cases hx) (Print_any n (by omega) noM) ?_
        rintro _ _ ⟨rfl, rfl⟩
        refine AOps.read trivial rfl (by decide) (Reader.move (.inl rfl) (ok_const rfl) (v := .str (printV n.toNat)) rfl) ?_
        refine AOps.read trivial rfl (by decide) (Reader.strs rfl rfl rfl (r := (printV n.toNat) == (printV n.toNat)) rfl) ?_
        refine AOps.read trivial rfl (by decide) (Reader.move (.inl rfl) (ok_const rfl) (v := .lit (.bool ((printV n.toNat) == (printV n.toNat)))) rfl) ?_
        refine AOps.splitJ (t := 24) (b := (printV n.toNat) == (printV n.toNat)) (x := ((namesL.getD 0 []) == [84, 105])) (y := false) rfl (fun h2 => ?_) (fun h2 => ?_)
        · skip
          have h2' : (printV n.toNat) = (printV n.toNat) := (eq_of_beq h2)
          clear h2
          refine AOps.call (args := []) ⟨24, rfl, rfl⟩ rfl (by decide) rfl rfl Tryd.call15 (args_ok rfl) rfl (by intro j x v hx hv; match j, hx, hv with  | _ + 0, hx, hv => cases hx) (Units_any noM) ?_
          rintro _ _ ⟨rfl, rfl⟩
          refine AOps.read ⟨24, rfl, rfl⟩ rfl (by decide) (Reader.elemAddr (m := 0) rfl Tryd.underlying33 sizeOf_9 rfl rfl rfl (e := .str (namesL.getD 0 [])) (name_at (by omega))) ?_
          refine AOps.read ⟨24, rfl, rfl⟩ rfl (by decide) (Reader.loadE rfl Tryd.underlying9 sizeOf_9 rfl (v := .str (namesL.getD 0 [])) rfl rfl) ?_
          refine AOps.read ⟨24, rfl, rfl⟩ rfl (by decide) (Reader.strs rfl rfl rfl (r := (namesL.getD 0 []) == [84, 105]) rfl) ?_
          refine AOps.read trivial rfl (by decide) (Reader.pick rfl (b := true) rfl (ok_const rfl) (ok_const rfl) (v := .lit (.bool ((namesL.getD 0 []) == [84, 105]))) rfl) ?_
          refine AOps.read trivial rfl (by decide) (Reader.move (.inr rfl) (ok_const rfl) (v := .lit (.bool ((namesL.getD 0 []) == [84, 105]))) rfl) ?_
          exact AOps.nil rfl
        · skip
          have h2' : ¬ ((printV n.toNat) = (printV n.toNat)) := (beq_eq_false_iff_ne.1 h2)
          clear h2
          refine AOps.skip ⟨4, true, 24, _, rfl, rfl, rfl, by simp⟩ rfl (by decide) ?_
          refine AOps.skip ⟨4, true, 24, _, rfl, rfl, rfl, by simp⟩ rfl (by decide) ?_
          refine AOps.skip ⟨4, true, 24, _, rfl, rfl, rfl, by simp⟩ rfl (by decide) ?_
          refine AOps.skip ⟨4, true, 24, _, rfl, rfl, rfl, by simp⟩ rfl (by decide) ?_
          refine AOps.read trivial rfl (by decide) (Reader.pick rfl (b := false) rfl (ok_const rfl) (ok_const rfl) (v := .lit (.bool false)) rfl) ?_
          refine AOps.read trivial rfl (by decide) (Reader.move (.inr rfl) (ok_const rfl) (v := .lit (.bool false)) rfl) ?_
          exact AOps.nil rfl
      refine TWp.ret ?_
      exact ⟨.inl rfl, _, ResOf.one 2 (.lit (.bool (bif ((printV n.toNat) == (printV n.toNat)) then ((namesL.getD 0 []) == [84, 105]) else false))) rfl rfl, congrArg (fun b => AV.lit (.bool b)) (by rw [beq_self_eq_true]; rfl)⟩

end Go.Proofs.YtpfplkbbdoijnaaDoor
