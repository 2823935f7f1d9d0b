/- What the layers take of Go's library: strings.Cut, strings.CutSuffix, strconv.Atoi, strconv.Itoa, bits.Mul64; an interface held against nil. -/
import Derived.Test.YtlpihekflkjkfaaDoorSplS
import Derived.Test.YtlpihekflkjkfaaDoorQuS
import Derived.Test.YtlpihekflkjkfaaDoorAvT
import Derived.Shelf.Vars
import Derived.Lib.SmallJoins
namespace Go.Proofs.YtlpihekflkjkfaaDoor
open Go.RowKit

section
variable {P : Program} {n : Nat} {s : St} {o : Oper} {d f : Nat} {t t' : TypeId} {x : Operand} {op : BinOp} {args : List AV} {M : Nat → Option (List AV)}
theorem run_if_nn {ms : Array (String × TypeId)} (k : Nat) (hu : P.underlying t = some (.interface ms)) (w : World) : (Op.equalIn (k + 1) t .nilIface .nilIface).run P w = .ok true w := by
  simp [Op.equalIn, run_underlying hu]
theorem run_if_sn {ms : Array (String × TypeId)} (k : Nat) (te : TypeId) (pv : Value) (hu : P.underlying t = some (.interface ms)) (w : World) : (Op.equalIn (k + 1) t (.iface te pv) .nilIface).run P w = .ok false w := by
  simp [Op.equalIn, run_underlying hu]
/-- An interface, held against nil. -/
theorem Reader.ifNil {ms : Array (String × TypeId)} {v : Value} {b c : Bool} (ho : o.op = .binOp op t x (.const .nilIface) t') (hu : P.underlying t = some (.interface ms)) (hx : s.eval x = .lit v) (hb : (v = .nilIface ∧ b = true) ∨ ((∃ te pv, v = .iface te pv) ∧ b = false))
    (hr : (op = .eql ∧ c = b) ∨ (op = .neq ∧ c = !b)) : Reader P n s o d (.lit (.bool c)) := by
  intro G a w h
  refine ⟨.bool c, lit_toS _, fun w' _ => ?_⟩
  have hv := h.evLit hx
  have hn : a.eval (.const .nilIface) = .nilIface := rfl
  rcases hb with ⟨rfl, rfl⟩ | ⟨⟨te, pv, rfl⟩, rfl⟩
  · have hrun := run_if_nn (P := P) 9999 hu w'
    rcases hr with ⟨rfl, rfl⟩ | ⟨rfl, rfl⟩
    · simp [execOp, ho, hv, hn, binOp, eqGuard, Op.equal, Op.maxDepth, hrun, Result.andThen]
    · simp [execOp, ho, hv, hn, binOp, eqGuard, Op.equal, Op.maxDepth, hrun, Result.andThen]
  · have hrun := run_if_sn (P := P) 9999 te pv hu w'
    rcases hr with ⟨rfl, rfl⟩ | ⟨rfl, rfl⟩
    · simp [execOp, ho, hv, hn, binOp, eqGuard, Op.equal, Op.maxDepth, hrun, Result.andThen]
    · simp [execOp, ho, hv, hn, binOp, eqGuard, Op.equal, Op.maxDepth, hrun, Result.andThen]

/-- It answers some values that hold no memory, and leaves all that was there. -/
theorem ACall.ofBelowT {C : List AV → Prop}
    (h : ∀ (G : Gh) (w : World) (vs : List Value), RelM P G w M → Fix G w → vs.length = args.length → (∀ (j : Nat) x v, args[j]? = some x → vs[j]? = some v → RelV P G w x v) →
      Calls P f vs.toArray w fun e w' => ∃ cs us, C cs ∧ (∀ c ∈ cs, c.flat = true) ∧ e = .returned (.tuple (List.toArray us)) ∧ us.length = cs.length ∧ (∀ (j : Nat) c u, cs[j]? = some c → us[j]? = some u → RelV P G w c u) ∧ Below w.heap.size w w') :
    ACall P f args M (fun r' M' => (∃ cs, C cs ∧ r' = .tuple cs) ∧ M = M') := by
  intro G w vs hm hfx hlen hrel
  refine (h G w vs hm hfx hlen hrel).mono ?_
  rintro e w' ⟨cs, us, hC, hfl, rfl, hl, hr, hb⟩
  obtain ⟨kp, st⟩ := below_keep (G := G) hb hm.far
  refine ⟨.tuple cs, M, G, .tuple us.toArray, rfl, ⟨⟨cs, hC, rfl⟩, rfl⟩, rfl, ⟨us, rfl, hl, fun j c u h1 h2 => ?_⟩, ?_, kp⟩
  · have hc := hfl c (List.mem_of_getElem? h1)
    exact RelS.toO (p := fun _ => .res j) (((hr j c u h1 h2).stab st).toS hc) (.inl hc)
  · exact hm.move st hb.size (fun q b hq h1 h2 => ⟨h2, hb.block b h1, rfl⟩) (fun b hb' => hm.far b (Nat.le_trans hb.size hb')) rfl
end

theorem cut_any (c : UInt8) (s : List UInt8) (hl : s.length ≤ 4294967280) (M : Nat → Option (List AV)) : ACall Tryd.prog 62 [.str s, .str [c]] M (fun r M' => r = .tuple [.str (cutA c s).1, .str (cutA c s).2.1, .lit (.bool (cutA c s).2.2)] ∧ M = M') := by
  refine ACall.mono (ACall.ofBelowT (C := fun cs => cs = [.str (cutA c s).1, .str (cutA c s).2.1, .lit (.bool (cutA c s).2.2)]) ?_) ?_
  · intro G w vs hm hfx hlen hrel
    obtain ⟨v, u, rfl, h1, h2⟩ := arg2 hlen hrel
    have e1 := relV_str h1
    have e2 := relV_str h2
    subst e1; subst e2
    refine (Tryd.strings_Cut_shaped ⟨s.toArray⟩ ⟨#[c]⟩ w hfx.shaped (by rw [bsize]; omega)).mono ?_
    rintro e w' ⟨rfl, n, rfl⟩
    refine ⟨_, [_, _, _], rfl, by simp [AV.flat], rfl, rfl, fun j x u hx hu => ?_, (below_drewN (Below.refl _ _) n)⟩
    have ec : Lib.cut s [c] = cutA c s := cut_one c s
    match j, hx, hu with
    | 0, hx, hu => cases hx; cases hu; simp only [ec]; exact .str _
    | 1, hx, hu => cases hx; cases hu; simp only [ec]; exact .str _
    | 2, hx, hu => cases hx; cases hu; simp only [ec]; exact .lit _
    | _ + 3, hx, hu => cases hx
  · rintro r M' ⟨⟨cs, rfl, rfl⟩, rfl⟩; exact ⟨rfl, rfl⟩

theorem suf_any (p : List UInt8) (s : List UInt8) (hl : s.length ≤ 4294967280) (M : Nat → Option (List AV)) : ACall Tryd.prog 64 [.str s, .str p] M (fun r M' => r = .tuple [.str (Lib.trimSuffix s p), .lit (.bool (Lib.hasSuffix s p))] ∧ M = M') := by
  refine ACall.mono (ACall.ofBelowT (C := fun cs => cs = [.str (Lib.trimSuffix s p), .lit (.bool (Lib.hasSuffix s p))]) ?_) ?_
  · intro G w vs hm hfx hlen hrel
    obtain ⟨v, u, rfl, h1, h2⟩ := arg2 hlen hrel
    have e1 := relV_str h1
    have e2 := relV_str h2
    subst e1; subst e2
    refine (Tryd.strings_CutSuffix ⟨s.toArray⟩ ⟨p.toArray⟩ w (by rw [bsize]; omega)).mono ?_
    rintro e w' ⟨rfl, rfl⟩
    refine ⟨_, [_, _], rfl, by simp [AV.flat], rfl, rfl, fun j x u hx hu => ?_, Below.refl _ _⟩
    match j, hx, hu with
    | 0, hx, hu => cases hx; cases hu; exact .str _
    | 1, hx, hu => cases hx; cases hu; exact .lit _
    | _ + 2, hx, hu => cases hx
  · rintro r M' ⟨⟨cs, rfl, rfl⟩, rfl⟩; exact ⟨rfl, rfl⟩

theorem mul_any (x y : Nat) (hx : x < 18446744073709551616) (hy : y < 18446744073709551616) (M : Nat → Option (List AV)) : ACall Tryd.prog 108 [.lit (.int .u64 (x : Int)), .lit (.int .u64 (y : Int))] M (fun r M' => r = .tuple [.lit (.int .u64 ((x * y / 18446744073709551616 : Nat) : Int)), .lit (.int .u64 ((x * y % 18446744073709551616 : Nat) : Int))] ∧ M = M') := by
  refine ACall.mono (ACall.ofBelowT (C := fun cs => cs = [.lit (.int .u64 ((x * y / 18446744073709551616 : Nat) : Int)), .lit (.int .u64 ((x * y % 18446744073709551616 : Nat) : Int))]) ?_) ?_
  · intro G w vs hm hfx hlen hrel
    obtain ⟨v, u, rfl, h1, h2⟩ := arg2 hlen hrel
    have e1 := relV_lit h1
    have e2 := relV_lit h2
    subst e1; subst e2
    refine (Tryd.bits_Mul64 x y hx hy w).mono ?_
    rintro e w' ⟨rfl, rfl⟩
    refine ⟨_, [_, _], rfl, by simp [AV.flat], rfl, rfl, fun j x u hx hu => ?_, Below.refl _ _⟩
    match j, hx, hu with
    | 0, hx, hu => cases hx; cases hu; exact .lit _
    | 1, hx, hu => cases hx; cases hu; exact .lit _
    | _ + 2, hx, hu => cases hx
  · rintro r M' ⟨⟨cs, rfl, rfl⟩, rfl⟩; exact ⟨rfl, rfl⟩

theorem Fix.errs {G : Gh} {w : World} (h : Fix G w) : (∃ v, w.cell? ⟨6, 0, none⟩ = some v ∧ (v = .nilIface ∨ ∃ te pe, v = .iface te pe)) ∧ (∃ v, w.cell? ⟨7, 0, none⟩ = some v ∧ (v = .nilIface ∨ ∃ te pe, v = .iface te pe)) := by
  obtain ⟨F, h1, h2⟩ := h
  exact (h2 w (fun b o e => (h1 b o e).2.1)).2.2
theorem atoi_ok (s : List UInt8) (hl : s.length ≤ 4294967280) (z : Int) (h : Lib.atoiAll s = .ok z) (M : Nat → Option (List AV)) : ACall Tryd.prog 84 [.str s] M (fun r M' => r = .tuple [.lit (.int .i64 z), .lit .nilIface] ∧ M = M') := by
  refine ACall.mono (ACall.ofBelowT (C := fun cs => cs = [.lit (.int .i64 z), .lit .nilIface]) ?_) ?_
  · intro G w vs hm hfx hlen hrel
    obtain ⟨v, rfl, h1⟩ := arg1 hlen hrel
    have e1 := relV_str h1
    subst e1
    refine (Tryd.strconv_Atoi_ok ⟨s.toArray⟩ (by rw [bsize]; omega) z h w).mono ?_
    rintro e w' ⟨rfl, hw⟩
    refine ⟨_, [_, _], rfl, by simp [AV.flat], rfl, rfl, fun j x u hx hu => ?_, ?_⟩
    · match j, hx, hu with
      | 0, hx, hu => cases hx; cases hu; exact .lit _
      | 1, hx, hu => cases hx; cases hu; exact .lit _
      | _ + 2, hx, hu => cases hx
    · rcases hw with rfl | ⟨t, rfl⟩
      · exact Below.refl _ _
      · exact Lib.bytesWorld_below _ _ _
  · rintro r M' ⟨⟨cs, rfl, rfl⟩, rfl⟩; exact ⟨rfl, rfl⟩
theorem atoi_bad (s : List UInt8) (hl : s.length ≤ 4294967280) (h : ∀ z, Lib.atoiAll s ≠ .ok z) (M : Nat → Option (List AV)) : ACall Tryd.prog 84 [.str s] M (fun r M' => (∃ z t p, r = .tuple [.lit (.int .i64 z), .lit (.iface t p)]) ∧ M = M') := by
  refine ACall.mono (ACall.ofBelowT (C := fun cs => ∃ z t p, cs = [.lit (.int .i64 z), .lit (.iface t p)]) ?_) ?_
  · intro G w vs hm hfx hlen hrel
    obtain ⟨v, rfl, h1⟩ := arg1 hlen hrel
    have e1 := relV_str h1
    subst e1
    have fin : ∀ (z : Int) (t : TypeId) (p : Value) (w' : World), Below w.heap.size w w' → ∃ cs us, (∃ z t p, cs = [AV.lit (.int .i64 z), .lit (.iface t p)]) ∧ (∀ c ∈ cs, c.flat = true) ∧ Ending.returned (.tuple #[.int .i64 z, .iface t p]) = .returned (.tuple (List.toArray us)) ∧ us.length = cs.length ∧ (∀ (j : Nat) c u, cs[j]? = some c → us[j]? = some u → RelV Tryd.prog G w c u) ∧ Below w.heap.size w w' := by
      intro z t p w' hb
      refine ⟨_, [_, _], ⟨z, t, p, rfl⟩, by simp [AV.flat], rfl, rfl, fun j x u hx hu => ?_, hb⟩
      match j, hx, hu with
      | 0, hx, hu => cases hx; cases hu; exact .lit _
      | 1, hx, hu => cases hx; cases hu; exact .lit _
      | _ + 2, hx, hu => cases hx
    have hcase : (Lib.atoiAll s = .range) ∨ ((∀ z, Lib.atoiAll s ≠ .ok z) ∧ Lib.atoiAll s ≠ .range) := by
      by_cases e : Lib.atoiAll s = .range
      · exact .inl e
      · exact .inr ⟨h, e⟩
    rcases hcase with ha | ⟨h1, h2⟩
    · obtain ⟨ev, hv, hev⟩ := hfx.errs.2
      refine (Tryd.strconv_Atoi_range ⟨s.toArray⟩ (by rw [bsize]; omega) ha ev w hv hev).mono ?_
      rintro e w' ⟨N, rfl, _, _, hb⟩
      exact fin _ _ _ _ hb
    · obtain ⟨ev, hv, hev⟩ := hfx.errs.1
      refine (Tryd.strconv_Atoi_syntax ⟨s.toArray⟩ (by rw [bsize]; omega) (by cases e : Lib.atoiAll s <;> first | rfl | exact absurd e (h1 _) | exact absurd e h2) ev w hv hev).mono ?_
      rintro e w' ⟨N, rfl, _, _, hb⟩
      exact fin _ _ _ _ hb
  · rintro r M' ⟨⟨cs, ⟨z, t, p, rfl⟩, rfl⟩, rfl⟩; exact ⟨⟨z, t, p, rfl⟩, rfl⟩
theorem itoa_int (n : Int) (h0 : -9223372036854775808 ≤ n) (h1 : n ≤ 9223372036854775807) (M : Nat → Option (List AV)) : ACall Tryd.prog 44 [.lit (.int .i64 n)] M (fun r M' => r = .str (Lib.itoa n) ∧ M = M') := by
  refine ACall.ofBelow rfl ?_
  intro G w vs hm hfx hlen hrel
  obtain ⟨v, rfl, h2⟩ := arg1 hlen hrel
  have e1 := relV_lit h2
  subst e1
  refine (Tryd.strconv_Itoa n h0 h1 w hfx.tab).mono ?_
  rintro e w' ⟨rfl, k, os, rfl⟩
  exact ⟨_, rfl, .str _, Lib.below_grow _ _ (Nat.le_refl _) _ _⟩
end Go.Proofs.YtlpihekflkjkfaaDoor
