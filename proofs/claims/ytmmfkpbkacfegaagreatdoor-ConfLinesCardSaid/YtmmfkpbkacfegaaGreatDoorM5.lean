/- LexS, QuS, ThS, Sat, Qu1, Qu2, Qu3, Th1, Th2, Th3, Th4. -/
import Derived.Test.YtmmfkpbkacfegaaGreatDoorM3
import Derived.Test.YtmmfkpbkacfegaaGreatDoorM2
import Derived.Test.YtmmfkpbkacfegaaGreatDoorPShelf
import Derived.Shelf.Strings.SlTrimAscii
import Derived.Lib.AppendIntMem
import Derived.Shelf.Vars
import Derived.Lib.SmallJoins
namespace Go.Proofs.YtmmfkpbkacfegaaGreatDoor
section
open Go.RowKit
/-- Cut at each line's end. -/
def splitNl (l : List UInt8) : List (List UInt8) := Lib.split l [10]
theorem splitNl_len (l : List UInt8) : (splitNl l).length = l.count 10 + 1 := splitC_len 10 l
theorem splitNl_le (l : List UInt8) : (splitNl l).length ≤ l.length + 1 := splitC_le 10 l
theorem splitNl_nil : splitNl [] = [[]] := rfl
theorem splitNl_10 (r : List UInt8) : splitNl (10 :: r) = [] :: splitNl r := splitC_hit 10 r
theorem splitNl_ne {c : UInt8} (h : c ≠ 10) (r : List UInt8) : ∃ hd tl, splitNl r = hd :: tl ∧ splitNl (c :: r) = (c :: hd) :: tl := splitC_ne h r
theorem splitNl_mem : ∀ (l : List UInt8) (k : Nat) (s : List UInt8), (splitNl l)[k]? = some s → s.length ≤ l.length := splitC_mem 10
theorem splitNl_any (l : List UInt8) (hl : l.length ≤ 4294967280) (M : Nat → Option (List AV)) : ACall Tryz.prog 42 [.str l, .str [10]] M (fun r M' => r = .list true 9 ((splitNl l).map AV.str) ∧ M = M') := split_any 10 l hl M
end
section
open Go.RowKit

theorem Fix.tab {G : Gh} {w : World} (h : Fix G w) : Lib.TabIs Tryz.prog w "internal/strconv.uint64pow10" .u64 Lib.pow10Tab := by
  obtain ⟨F, h1, h2⟩ := h
  have h3 := (h2 w (fun b o e => (h1 b o e).2.1)).2
  first | exact h3 | exact h3.1

theorem trim_any (s : List UInt8) (M : Nat → Option (List AV)) : ACall Tryz.prog 78 [.str s, .str [48, 49, 50, 51, 52, 53, 54, 55, 56, 57]] M (fun r M' => r = .str (s.dropWhile isD) ∧ M = M') := by
  refine ACall.ofBelow rfl ?_
  intro G w vs hm hfx hlen hrel
  obtain ⟨v, u, rfl, h1, h2⟩ := arg2 hlen hrel
  have e1 := relV_str h1
  have e2 := relV_str h2
  subst e1; subst e2
  refine (Any.strings_TrimLeft_laid Tryz.lays161 (by kernel_rfl) ⟨s.toArray⟩ ⟨[48, 49, 50, 51, 52, 53, 54, 55, 56, 57].toArray⟩ w (by decide) (Go.Proofs.ascii_of_all (by decide))).mono ?_
  rintro e w' ⟨rfl, hb⟩
  refine ⟨_, rfl, ?_, hb⟩
  have : Lib.trimLeftS s [48, 49, 50, 51, 52, 53, 54, 55, 56, 57] = s.dropWhile isD := rfl
  simp only [this]
  exact .str _

theorem itoa_any (n : Nat) (hn : n ≤ 9223372036854775807) (M : Nat → Option (List AV)) : ACall Tryz.prog 53 [.lit (.int .i64 (n : Int))] M (fun r M' => r = .str (digs n) ∧ M = M') := by
  refine ACall.ofBelow rfl ?_
  intro G w vs hm hfx hlen hrel
  obtain ⟨v, rfl, h1⟩ := arg1 hlen hrel
  have e1 := relV_lit h1
  subst e1
  refine (Tryz.strconv_Itoa (n : Int) (by omega) (by omega) w hfx.tab).mono ?_
  rintro e w' ⟨rfl, k, os, rfl⟩
  rw [itoa_digs]
  exact ⟨_, rfl, .str _, Lib.below_grow _ _ (Nat.le_refl _) _ _⟩
end
section
open Go.RowKit

section
variable {P : Program} {n : Nat} {s : St} {o : Oper} {d f : Nat} {t t' : TypeId} {x : Operand} {op : BinOp} {args : List AV} {M : Nat → Option (List AV)}
theorem run_if_nn {ms : Array (String × TypeId)} (k : Nat) (hu : P.underlying t = some (.interface ms)) (w : World) : (Op.equalIn (k + 1) t .nilIface .nilIface).run P w = .ok true w := by
  simp [Op.equalIn, run_underlying hu]
theorem run_if_sn {ms : Array (String × TypeId)} (k : Nat) (te : TypeId) (pv : Value) (hu : P.underlying t = some (.interface ms)) (w : World) : (Op.equalIn (k + 1) t (.iface te pv) .nilIface).run P w = .ok false w := by
  simp [Op.equalIn, run_underlying hu]
/-- An interface, held against nil. -/
theorem Reader.ifNil {ms : Array (String × TypeId)} {v : Value} {b c : Bool} (ho : o.op = .binOp op t x (.const .nilIface) t') (hu : P.underlying t = some (.interface ms)) (hx : s.eval x = .lit v) (hb : (v = .nilIface ∧ b = true) ∨ ((∃ te pv, v = .iface te pv) ∧ b = false))
    (hr : (op = .eql ∧ c = b) ∨ (op = .neq ∧ c = !b)) : Reader P n s o d (.lit (.bool c)) := by
  intro G a w h
  refine ⟨.bool c, lit_toS _, fun w' _ => ?_⟩
  have hv := h.evLit hx
  have hn : a.eval (.const .nilIface) = .nilIface := rfl
  rcases hb with ⟨rfl, rfl⟩ | ⟨⟨te, pv, rfl⟩, rfl⟩
  · have hrun := run_if_nn (P := P) 9999 hu w'
    rcases hr with ⟨rfl, rfl⟩ | ⟨rfl, rfl⟩
    · simp [execOp, ho, hv, hn, binOp, eqGuard, Op.equal, Op.maxDepth, hrun, Result.andThen]
    · simp [execOp, ho, hv, hn, binOp, eqGuard, Op.equal, Op.maxDepth, hrun, Result.andThen]
  · have hrun := run_if_sn (P := P) 9999 te pv hu w'
    rcases hr with ⟨rfl, rfl⟩ | ⟨rfl, rfl⟩
    · simp [execOp, ho, hv, hn, binOp, eqGuard, Op.equal, Op.maxDepth, hrun, Result.andThen]
    · simp [execOp, ho, hv, hn, binOp, eqGuard, Op.equal, Op.maxDepth, hrun, Result.andThen]

/-- It answers some values that hold no memory, and leaves all that was there. -/
theorem ACall.ofBelowT {C : List AV → Prop}
    (h : ∀ (G : Gh) (w : World) (vs : List Value), RelM P G w M → Fix G w → vs.length = args.length → (∀ (j : Nat) x v, args[j]? = some x → vs[j]? = some v → RelV P G w x v) →
      Calls P f vs.toArray w fun e w' => ∃ cs us, C cs ∧ (∀ c ∈ cs, c.flat = true) ∧ e = .returned (.tuple (List.toArray us)) ∧ us.length = cs.length ∧ (∀ (j : Nat) c u, cs[j]? = some c → us[j]? = some u → RelV P G w c u) ∧ Below w.heap.size w w') :
    ACall P f args M (fun r' M' => (∃ cs, C cs ∧ r' = .tuple cs) ∧ M = M') := by
  intro G w vs hm hfx hlen hrel
  refine (h G w vs hm hfx hlen hrel).mono ?_
  rintro e w' ⟨cs, us, hC, hfl, rfl, hl, hr, hb⟩
  obtain ⟨kp, st⟩ := below_keep (G := G) hb hm.far
  refine ⟨.tuple cs, M, G, .tuple us.toArray, rfl, ⟨⟨cs, hC, rfl⟩, rfl⟩, rfl, ⟨us, rfl, hl, fun j c u h1 h2 => ?_⟩, ?_, kp⟩
  · have hc := hfl c (List.mem_of_getElem? h1)
    exact RelS.toO (p := fun _ => .res j) (((hr j c u h1 h2).stab st).toS hc) (.inl hc)
  · exact hm.move st hb.size (fun q b hq h1 h2 => ⟨h2, hb.block b h1, rfl⟩) (fun b hb' => hm.far b (Nat.le_trans hb.size hb')) rfl
end

theorem cut_any (c : UInt8) (s : List UInt8) (hl : s.length ≤ 4294967280) (M : Nat → Option (List AV)) : ACall Tryz.prog 62 [.str s, .str [c]] M (fun r M' => r = .tuple [.str (cutA c s).1, .str (cutA c s).2.1, .lit (.bool (cutA c s).2.2)] ∧ M = M') := by
  refine ACall.mono (ACall.ofBelowT (C := fun cs => cs = [.str (cutA c s).1, .str (cutA c s).2.1, .lit (.bool (cutA c s).2.2)]) ?_) ?_
  · intro G w vs hm hfx hlen hrel
    obtain ⟨v, u, rfl, h1, h2⟩ := arg2 hlen hrel
    have e1 := relV_str h1
    have e2 := relV_str h2
    subst e1; subst e2
    refine (Tryz.strings_Cut_shaped ⟨s.toArray⟩ ⟨#[c]⟩ w hfx.shaped (by rw [bsize]; omega)).mono ?_
    rintro e w' ⟨rfl, n, rfl⟩
    refine ⟨_, [_, _, _], rfl, by simp [AV.flat], rfl, rfl, fun j x u hx hu => ?_, (below_drewN (Below.refl _ _) n)⟩
    have ec : Lib.cut s [c] = cutA c s := cut_one c s
    match j, hx, hu with
    | 0, hx, hu => cases hx; cases hu; simp only [ec]; exact .str _
    | 1, hx, hu => cases hx; cases hu; simp only [ec]; exact .str _
    | 2, hx, hu => cases hx; cases hu; simp only [ec]; exact .lit _
    | _ + 3, hx, hu => cases hx
  · rintro r M' ⟨⟨cs, rfl, rfl⟩, rfl⟩; exact ⟨rfl, rfl⟩

theorem suf_any (p : List UInt8) (s : List UInt8) (hl : s.length ≤ 4294967280) (M : Nat → Option (List AV)) : ACall Tryz.prog 65 [.str s, .str p] M (fun r M' => r = .tuple [.str (Lib.trimSuffix s p), .lit (.bool (Lib.hasSuffix s p))] ∧ M = M') := by
  refine ACall.mono (ACall.ofBelowT (C := fun cs => cs = [.str (Lib.trimSuffix s p), .lit (.bool (Lib.hasSuffix s p))]) ?_) ?_
  · intro G w vs hm hfx hlen hrel
    obtain ⟨v, u, rfl, h1, h2⟩ := arg2 hlen hrel
    have e1 := relV_str h1
    have e2 := relV_str h2
    subst e1; subst e2
    refine (Tryz.strings_CutSuffix ⟨s.toArray⟩ ⟨p.toArray⟩ w (by rw [bsize]; omega)).mono ?_
    rintro e w' ⟨rfl, rfl⟩
    refine ⟨_, [_, _], rfl, by simp [AV.flat], rfl, rfl, fun j x u hx hu => ?_, Below.refl _ _⟩
    match j, hx, hu with
    | 0, hx, hu => cases hx; cases hu; exact .str _
    | 1, hx, hu => cases hx; cases hu; exact .lit _
    | _ + 2, hx, hu => cases hx
  · rintro r M' ⟨⟨cs, rfl, rfl⟩, rfl⟩; exact ⟨rfl, rfl⟩

theorem Fix.errs {G : Gh} {w : World} (h : Fix G w) : (∃ v, w.cell? ⟨4, 0, none⟩ = some v ∧ (v = .nilIface ∨ ∃ te pe, v = .iface te pe)) ∧ (∃ v, w.cell? ⟨5, 0, none⟩ = some v ∧ (v = .nilIface ∨ ∃ te pe, v = .iface te pe)) := by
  obtain ⟨F, h1, h2⟩ := h
  exact (h2 w (fun b o e => (h1 b o e).2.1)).2.2
theorem atoi_ok (s : List UInt8) (hl : s.length ≤ 4294967280) (z : Int) (h : Lib.atoiAll s = .ok z) (M : Nat → Option (List AV)) : ACall Tryz.prog 76 [.str s] M (fun r M' => r = .tuple [.lit (.int .i64 z), .lit .nilIface] ∧ M = M') := by
  refine ACall.mono (ACall.ofBelowT (C := fun cs => cs = [.lit (.int .i64 z), .lit .nilIface]) ?_) ?_
  · intro G w vs hm hfx hlen hrel
    obtain ⟨v, rfl, h1⟩ := arg1 hlen hrel
    have e1 := relV_str h1
    subst e1
    refine (Tryz.strconv_Atoi_ok ⟨s.toArray⟩ (by rw [bsize]; omega) z h w).mono ?_
    rintro e w' ⟨rfl, hw⟩
    refine ⟨_, [_, _], rfl, by simp [AV.flat], rfl, rfl, fun j x u hx hu => ?_, ?_⟩
    · match j, hx, hu with
      | 0, hx, hu => cases hx; cases hu; exact .lit _
      | 1, hx, hu => cases hx; cases hu; exact .lit _
      | _ + 2, hx, hu => cases hx
    · rcases hw with rfl | ⟨t, rfl⟩
      · exact Below.refl _ _
      · exact Lib.bytesWorld_below _ _ _
  · rintro r M' ⟨⟨cs, rfl, rfl⟩, rfl⟩; exact ⟨rfl, rfl⟩
theorem atoi_bad (s : List UInt8) (hl : s.length ≤ 4294967280) (h : ∀ z, Lib.atoiAll s ≠ .ok z) (M : Nat → Option (List AV)) : ACall Tryz.prog 76 [.str s] M (fun r M' => (∃ z t p, r = .tuple [.lit (.int .i64 z), .lit (.iface t p)]) ∧ M = M') := by
  refine ACall.mono (ACall.ofBelowT (C := fun cs => ∃ z t p, cs = [.lit (.int .i64 z), .lit (.iface t p)]) ?_) ?_
  · intro G w vs hm hfx hlen hrel
    obtain ⟨v, rfl, h1⟩ := arg1 hlen hrel
    have e1 := relV_str h1
    subst e1
    have fin : ∀ (z : Int) (t : TypeId) (p : Value) (w' : World), Below w.heap.size w w' → ∃ cs us, (∃ z t p, cs = [AV.lit (.int .i64 z), .lit (.iface t p)]) ∧ (∀ c ∈ cs, c.flat = true) ∧ Ending.returned (.tuple #[.int .i64 z, .iface t p]) = .returned (.tuple (List.toArray us)) ∧ us.length = cs.length ∧ (∀ (j : Nat) c u, cs[j]? = some c → us[j]? = some u → RelV Tryz.prog G w c u) ∧ Below w.heap.size w w' := by
      intro z t p w' hb
      refine ⟨_, [_, _], ⟨z, t, p, rfl⟩, by simp [AV.flat], rfl, rfl, fun j x u hx hu => ?_, hb⟩
      match j, hx, hu with
      | 0, hx, hu => cases hx; cases hu; exact .lit _
      | 1, hx, hu => cases hx; cases hu; exact .lit _
      | _ + 2, hx, hu => cases hx
    have hcase : (Lib.atoiAll s = .range) ∨ ((∀ z, Lib.atoiAll s ≠ .ok z) ∧ Lib.atoiAll s ≠ .range) := by
      by_cases e : Lib.atoiAll s = .range
      · exact .inl e
      · exact .inr ⟨h, e⟩
    rcases hcase with ha | ⟨h1, h2⟩
    · obtain ⟨ev, hv, hev⟩ := hfx.errs.2
      refine (Tryz.strconv_Atoi_range ⟨s.toArray⟩ (by rw [bsize]; omega) ha ev w hv hev).mono ?_
      rintro e w' ⟨N, rfl, _, _, hb⟩
      exact fin _ _ _ _ hb
    · obtain ⟨ev, hv, hev⟩ := hfx.errs.1
      refine (Tryz.strconv_Atoi_syntax ⟨s.toArray⟩ (by rw [bsize]; omega) (by cases e : Lib.atoiAll s <;> first | rfl | exact absurd e (h1 _) | exact absurd e h2) ev w hv hev).mono ?_
      rintro e w' ⟨N, rfl, _, _, hb⟩
      exact fin _ _ _ _ hb
  · rintro r M' ⟨⟨cs, ⟨z, t, p, rfl⟩, rfl⟩, rfl⟩; exact ⟨⟨z, t, p, rfl⟩, rfl⟩
theorem itoa_int (n : Int) (h0 : -9223372036854775808 ≤ n) (h1 : n ≤ 9223372036854775807) (M : Nat → Option (List AV)) : ACall Tryz.prog 53 [.lit (.int .i64 n)] M (fun r M' => r = .str (Lib.itoa n) ∧ M = M') := by
  refine ACall.ofBelow rfl ?_
  intro G w vs hm hfx hlen hrel
  obtain ⟨v, rfl, h2⟩ := arg1 hlen hrel
  have e1 := relV_lit h2
  subst e1
  refine (Tryz.strconv_Itoa n h0 h1 w hfx.tab).mono ?_
  rintro e w' ⟨rfl, k, os, rfl⟩
  exact ⟨_, rfl, .str _, Lib.below_grow _ _ (Nat.le_refl _) _ _⟩
end
section
open Go.RowKit

theorem satN_over {x : Nat} (h : x > 9223372036854775807) : satN x = 9223372036854775807 := if_neg (by omega)
theorem add_sat {a b : Nat} (ha : a ≤ 9223372036854775807) : a + min b (9223372036854775807 - a) = satN (a + b) := by unfold satN; split <;> omega
theorem mul_over {a b : Nat} (h : (bif decide ((b : Int) > 0) then decide ((a : Int) > ((9223372036854775807 / b : Nat) : Int)) else false) = true) : a * b > 9223372036854775807 := by
  by_cases hb : (b : Int) > 0
  · rw [decide_eq_true hb, cond_true] at h
    have h1 := of_decide_eq_true h
    have h2 : 9223372036854775807 / b < a := by omega
    exact (Nat.div_lt_iff_lt_mul (by omega : 0 < b)).1 h2
  · rw [decide_eq_false hb, cond_false] at h; cases h
theorem mul_fits {a b : Nat} (_ha : a ≤ 9223372036854775807) (h : (bif decide ((b : Int) > 0) then decide ((a : Int) > ((9223372036854775807 / b : Nat) : Int)) else false) = false) : a * b ≤ 9223372036854775807 := by
  by_cases hb : (b : Int) > 0
  · rw [decide_eq_true hb, cond_true] at h
    have h1 := of_decide_eq_false h
    have h2 : a ≤ 9223372036854775807 / b := by omega
    exact (Nat.le_div_iff_mul_le (by omega : 0 < b)).1 h2
  · have : b = 0 := by omega
    subst this; simp
set_option maxRecDepth 20000 in
theorem satnum_any (a : Int) (M : Nat → Option (List AV)) : ACall Tryz.prog 97 [zI a] M (fun r M' => r = zI ((a.toNat : Nat) : Int) ∧ M = M') := by
  refine ACall.of Tryz.func97 rfl (n := 5) rfl rfl rfl ?_
  refine zg ?_
  refine zM (zI 0) ?_
  refine zN ?_
  refine zg ?_
  refine zM (zI a) ?_
  refine zr (Reader.maxI rfl rfl rfl rfl rfl (m := (a.toNat : Int)) (by omega)) ?_
  refine zM (zI (a.toNat : Int)) ?_
  refine zN ?_
  refine AWp.ret ?_
  exact ⟨.inl rfl, _, ResOf.one 2 (zI (a.toNat : Int)) rfl rfl, ⟨rfl, rfl⟩⟩

set_option maxRecDepth 20000 in
theorem sat_add (a b : Int) (ha : a.toNat ≤ 9223372036854775807) (hb : b.toNat ≤ 9223372036854775807) (M : Nat → Option (List AV)) : ACall Tryz.prog 80 [zI a, zI b] M (fun r M' => r = zI ((satN (a.toNat + b.toNat) : Nat) : Int) ∧ M = M') := by
  refine ACall.of Tryz.func80 rfl (n := 15) rfl rfl rfl ?_
  refine zg ?_
  refine zM (zI 0) ?_
  refine zN ?_
  refine zg ?_
  refine zM (zI a) ?_
  refine zc [zI a] Tryz.call97 (satnum_any a M) ?_
  rintro _ _ ⟨rfl, rfl⟩
  refine zM (zI b) ?_
  refine zc [zI b] Tryz.call97 (satnum_any b M) ?_
  rintro _ _ ⟨rfl, rfl⟩
  refine zM (zI (a.toNat : Int)) ?_
  refine zM (zI (b.toNat : Int)) ?_
  refine zN ?_
  refine zg ?_
  refine zM (zI (a.toNat : Int)) ?_
  refine zM (zI (b.toNat : Int)) ?_
  refine zM (zI (a.toNat : Int)) ?_
  refine zr (zu (9223372036854775807 - (a.toNat : Int)) ((9223372036854775807 - a.toNat : Nat) : Int) (by rw [IntWalk.i64_in _ (by omega)]; omega)) ?_
  refine zr (Reader.minI rfl rfl rfl rfl rfl (m := ((min b.toNat (9223372036854775807 - a.toNat) : Nat) : Int)) (by omega)) ?_
  refine zr (zw ((a.toNat : Int) + ((min b.toNat (9223372036854775807 - a.toNat) : Nat) : Int)) ((a.toNat + (min b.toNat (9223372036854775807 - a.toNat)) : Nat) : Int)) ?_
  refine zM (zI ((a.toNat + (min b.toNat (9223372036854775807 - a.toNat)) : Nat) : Int)) ?_
  refine zN ?_
  refine AWp.ret ?_
  exact ⟨.inl rfl, _, ResOf.one 4 (zI ((a.toNat + (min b.toNat (9223372036854775807 - a.toNat)) : Nat) : Int)) rfl rfl, ⟨congrArg (fun x : Nat => AV.lit (.int .i64 (x : Int))) (add_sat ha), rfl⟩⟩

set_option maxRecDepth 20000 in
theorem sat_mul (a b : Int) (ha : a.toNat ≤ 9223372036854775807) (hb : b.toNat ≤ 9223372036854775807) (M : Nat → Option (List AV)) : ACall Tryz.prog 81 [zI a, zI b] M (fun r M' => r = zI ((satN (a.toNat * b.toNat) : Nat) : Int) ∧ M = M') := by
  refine ACall.of Tryz.func81 rfl (n := 20) rfl rfl rfl ?_
  refine zg ?_
  refine zM (zI 0) ?_
  refine zN ?_
  refine zg ?_
  refine zM (zI a) ?_
  refine zc [zI a] Tryz.call97 (satnum_any a M) ?_
  rintro _ _ ⟨rfl, rfl⟩
  refine zM (zI b) ?_
  refine zc [zI b] Tryz.call97 (satnum_any b M) ?_
  rintro _ _ ⟨rfl, rfl⟩
  refine zM (zI (a.toNat : Int)) ?_
  refine zM (zI (b.toNat : Int)) ?_
  refine zN ?_
  refine AWp.seq ?_
  refine zj 16 [(0, zI (a.toNat : Int)), (1, zI (b.toNat : Int)), (4, zI 0)] [] M (bif (decide ((b.toNat : Int) > 0)) then (decide ((a.toNat : Int) > ((9223372036854775807 / b.toNat : Nat) : Int))) else false) ?_ ?_
  · skip
    refine zM (zI (b.toNat : Int)) ?_
    refine zr (zi (decide ((b.toNat : Int) > 0))) ?_
    refine zM (zB (decide ((b.toNat : Int) > 0))) ?_
    refine AOps.splitJ (t := 11) (b := decide ((b.toNat : Int) > 0)) (x := (decide ((a.toNat : Int) > ((9223372036854775807 / b.toNat : Nat) : Int)))) (y := false) rfl (fun h1 => ?_) (fun h1 => ?_)
    · skip
      have h1' : b.toNat > 0 := (by have hh := of_decide_eq_true h1; omega)
      clear h1
      refine zM (zI (a.toNat : Int)) ?_
      refine zM (zI (b.toNat : Int)) ?_
      refine zr (Reader.quo rfl rfl rfl (by omega) (c := ((9223372036854775807 / b.toNat : Nat) : Int)) (by rw [show (9223372036854775807 : Int) = ((9223372036854775807 : Nat) : Int) from rfl, nat_quo]; exact IntWalk.i64_in _ (by have hq := Nat.div_le_self 9223372036854775807 b.toNat; generalize 9223372036854775807 / b.toNat = q at hq ⊢; omega))) ?_
      refine zr (zi (decide ((a.toNat : Int) > ((9223372036854775807 / b.toNat : Nat) : Int)))) ?_
      refine zr (zp true (zB (decide ((a.toNat : Int) > ((9223372036854775807 / b.toNat : Nat) : Int))))) ?_
      exact AOps.nil rfl
    · skip
      have h1' : ¬ (b.toNat > 0) := (by have hh := of_decide_eq_false h1; omega)
      clear h1
      refine zs ?_
      refine zs ?_
      refine zs ?_
      refine zs ?_
      refine zr (zp false (zB false)) ?_
      exact AOps.nil rfl
  refine zC (b := bif (decide ((b.toNat : Int) > 0)) then (decide ((a.toNat : Int) > ((9223372036854775807 / b.toNat : Nat) : Int))) else false) rfl (fun h2 => ?_) (fun h2 => ?_)
  · skip
    have h2' : a.toNat * b.toNat > 9223372036854775807 := (mul_over h2)
    clear h2
    refine zg ?_
    refine zM (zI 9223372036854775807) ?_
    refine zN ?_
    refine AWp.ret ?_
    exact ⟨.inl rfl, _, ResOf.one 4 (zI 9223372036854775807) rfl rfl, ⟨congrArg (fun x : Nat => AV.lit (.int .i64 (x : Int))) ((satN_over (by assumption)).symm), rfl⟩⟩
  · skip
    have h2' : a.toNat * b.toNat ≤ 9223372036854775807 := (mul_fits ha h2)
    clear h2
    refine AWp.skip ?_
    refine zg ?_
    refine zM (zI (a.toNat : Int)) ?_
    refine zM (zI (b.toNat : Int)) ?_
    refine zr (zw ((a.toNat : Int) * (b.toNat : Int)) ((a.toNat * b.toNat : Nat) : Int)) ?_
    refine zM (zI ((a.toNat * b.toNat : Nat) : Int)) ?_
    refine zN ?_
    refine AWp.ret ?_
    exact ⟨.inl rfl, _, ResOf.one 4 (zI ((a.toNat * b.toNat : Nat) : Int)) rfl rfl, ⟨congrArg (fun x : Nat => AV.lit (.int .i64 (x : Int))) ((satN_of (by assumption)).symm), rfl⟩⟩

theorem sat_addN (a b : Nat) (ha : a ≤ 9223372036854775807) (hb : b ≤ 9223372036854775807) (M : Nat → Option (List AV)) : ACall Tryz.prog 80 [zI (a : Int), zI (b : Int)] M (fun r M' => r = zI ((satN (a + b) : Nat) : Int) ∧ M = M') := sat_add (a : Int) (b : Int) ha hb M
theorem sat_mulN (a b : Nat) (ha : a ≤ 9223372036854775807) (hb : b ≤ 9223372036854775807) (M : Nat → Option (List AV)) : ACall Tryz.prog 81 [zI (a : Int), zI (b : Int)] M (fun r M' => r = zI ((satN (a * b) : Nat) : Int) ∧ M = M') := sat_mul (a : Int) (b : Int) ha hb M
end
section
open Go.RowKit

theorem ix_at {t : List UInt8} {i j : Nat} (hno : ∀ j, j < i → (unitL.getD j u0).1 ≠ t) (hji : j ≤ i) (h : (unitL.getD j u0).1 = t) : AV.lit (.int .i64 (j : Int)) = .lit (.int .i64 (i : Int)) := by
  rcases Nat.lt_or_ge j i with h1 | h1
  · exact absurd h (hno j h1)
  · rw [show j = i by omega]
theorem nx_0 {p : Nat → Prop} {i : Nat} (h : ∀ m, m < i → p m) (hi : p i) : ∀ m, m < i + 1 → p m := by
  intro m hm
  rcases Nat.lt_or_ge m i with h1 | h1
  · exact h m h1
  · rw [show m = i by omega]; exact hi

set_option maxRecDepth 20000 in
theorem units_any  (M : Nat → Option (List AV)) : ACall Tryz.prog 52 [] M (fun r M' => r = .list true 85 (unitL.map encU) ∧ M = M') := by
  refine ACall.of Tryz.func52 rfl (n := 10) rfl rfl rfl ?_
  refine zg ?_
  refine AOps.nilList 85 trivial rfl (by decide) (.inl rfl) ?_
  refine zN ?_
  refine zg ?_
  refine zr (Reader.build (xs := [(0, .str [84, 105]), (1, zI 1099511627776)]) (Es := []) (places := places_85) rfl Tryz.underlying85 (by refine ⟨rfl, fun j p x hp hx => ?_⟩; match j, hp, hx with | 0, hp, hx => cases hp; cases hx; exact ⟨rfl, .inl ⟨rfl, rfl⟩, rfl, rfl⟩ | 1, hp, hx => cases hp; cases hx; exact ⟨rfl, .inl ⟨rfl, rfl⟩, rfl, rfl⟩ | _ + 2, hp, hx => cases hp) zero_85 rfl places_85_ok (cs := [.str [84, 105], zI 1099511627776]) rfl) ?_
  refine zr (Reader.build (xs := [(0, .str [84]), (1, zI 1000000000000)]) (Es := []) (places := places_85) rfl Tryz.underlying85 (by refine ⟨rfl, fun j p x hp hx => ?_⟩; match j, hp, hx with | 0, hp, hx => cases hp; cases hx; exact ⟨rfl, .inl ⟨rfl, rfl⟩, rfl, rfl⟩ | 1, hp, hx => cases hp; cases hx; exact ⟨rfl, .inl ⟨rfl, rfl⟩, rfl, rfl⟩ | _ + 2, hp, hx => cases hp) zero_85 rfl places_85_ok (cs := [.str [84], zI 1000000000000]) rfl) ?_
  refine zr (Reader.build (xs := [(0, .str [71, 105]), (1, zI 1073741824)]) (Es := []) (places := places_85) rfl Tryz.underlying85 (by refine ⟨rfl, fun j p x hp hx => ?_⟩; match j, hp, hx with | 0, hp, hx => cases hp; cases hx; exact ⟨rfl, .inl ⟨rfl, rfl⟩, rfl, rfl⟩ | 1, hp, hx => cases hp; cases hx; exact ⟨rfl, .inl ⟨rfl, rfl⟩, rfl, rfl⟩ | _ + 2, hp, hx => cases hp) zero_85 rfl places_85_ok (cs := [.str [71, 105], zI 1073741824]) rfl) ?_
  refine zr (Reader.build (xs := [(0, .str [71]), (1, zI 1000000000)]) (Es := []) (places := places_85) rfl Tryz.underlying85 (by refine ⟨rfl, fun j p x hp hx => ?_⟩; match j, hp, hx with | 0, hp, hx => cases hp; cases hx; exact ⟨rfl, .inl ⟨rfl, rfl⟩, rfl, rfl⟩ | 1, hp, hx => cases hp; cases hx; exact ⟨rfl, .inl ⟨rfl, rfl⟩, rfl, rfl⟩ | _ + 2, hp, hx => cases hp) zero_85 rfl places_85_ok (cs := [.str [71], zI 1000000000]) rfl) ?_
  refine zr (Reader.build (xs := [(0, .str [77, 105]), (1, zI 1048576)]) (Es := []) (places := places_85) rfl Tryz.underlying85 (by refine ⟨rfl, fun j p x hp hx => ?_⟩; match j, hp, hx with | 0, hp, hx => cases hp; cases hx; exact ⟨rfl, .inl ⟨rfl, rfl⟩, rfl, rfl⟩ | 1, hp, hx => cases hp; cases hx; exact ⟨rfl, .inl ⟨rfl, rfl⟩, rfl, rfl⟩ | _ + 2, hp, hx => cases hp) zero_85 rfl places_85_ok (cs := [.str [77, 105], zI 1048576]) rfl) ?_
  refine zr (Reader.build (xs := [(0, .str [77]), (1, zI 1000000)]) (Es := []) (places := places_85) rfl Tryz.underlying85 (by refine ⟨rfl, fun j p x hp hx => ?_⟩; match j, hp, hx with | 0, hp, hx => cases hp; cases hx; exact ⟨rfl, .inl ⟨rfl, rfl⟩, rfl, rfl⟩ | 1, hp, hx => cases hp; cases hx; exact ⟨rfl, .inl ⟨rfl, rfl⟩, rfl, rfl⟩ | _ + 2, hp, hx => cases hp) zero_85 rfl places_85_ok (cs := [.str [77], zI 1000000]) rfl) ?_
  refine zr (Reader.build (xs := [(0, .str [75, 105]), (1, zI 1024)]) (Es := []) (places := places_85) rfl Tryz.underlying85 (by refine ⟨rfl, fun j p x hp hx => ?_⟩; match j, hp, hx with | 0, hp, hx => cases hp; cases hx; exact ⟨rfl, .inl ⟨rfl, rfl⟩, rfl, rfl⟩ | 1, hp, hx => cases hp; cases hx; exact ⟨rfl, .inl ⟨rfl, rfl⟩, rfl, rfl⟩ | _ + 2, hp, hx => cases hp) zero_85 rfl places_85_ok (cs := [.str [75, 105], zI 1024]) rfl) ?_
  refine zr (Reader.build (xs := [(0, .str [107]), (1, zI 1000)]) (Es := []) (places := places_85) rfl Tryz.underlying85 (by refine ⟨rfl, fun j p x hp hx => ?_⟩; match j, hp, hx with | 0, hp, hx => cases hp; cases hx; exact ⟨rfl, .inl ⟨rfl, rfl⟩, rfl, rfl⟩ | 1, hp, hx => cases hp; cases hx; exact ⟨rfl, .inl ⟨rfl, rfl⟩, rfl, rfl⟩ | _ + 2, hp, hx => cases hp) zero_85 rfl places_85_ok (cs := [.str [107], zI 1000]) rfl) ?_
  refine zbS [] [.agg [.str [84, 105], zI 1099511627776], .agg [.str [84], zI 1000000000000], .agg [.str [71, 105], zI 1073741824], .agg [.str [71], zI 1000000000], .agg [.str [77, 105], zI 1048576], .agg [.str [77], zI 1000000], .agg [.str [75, 105], zI 1024], .agg [.str [107], zI 1000]] Tryz.underlying82 Tryz.i85 ?_
  refine zT (v := .list true 85 [.agg [.str [84, 105], zI 1099511627776], .agg [.str [84], zI 1000000000000], .agg [.str [71, 105], zI 1073741824], .agg [.str [71], zI 1000000000], .agg [.str [77, 105], zI 1048576], .agg [.str [77], zI 1000000], .agg [.str [75, 105], zI 1024], .agg [.str [107], zI 1000]]) rfl ?_
  refine zN ?_
  refine AWp.ret ?_
  exact ⟨.inl rfl, _, ResOf.one 0 (.list true 85 [.agg [.str [84, 105], zI 1099511627776], .agg [.str [84], zI 1000000000000], .agg [.str [71, 105], zI 1073741824], .agg [.str [71], zI 1000000000], .agg [.str [77, 105], zI 1048576], .agg [.str [77], zI 1000000], .agg [.str [75, 105], zI 1024], .agg [.str [107], zI 1000]]) rfl rfl, ⟨rfl, rfl⟩⟩

set_option maxRecDepth 20000 in
theorem names_any  (M : Nat → Option (List AV)) : ACall Tryz.prog 59 [] M (fun r M' => r = .list true 9 (namesL.map AV.str) ∧ M = M') := by
  refine ACall.of Tryz.func59 rfl (n := 2) rfl rfl rfl ?_
  refine zg ?_
  refine AOps.nilList 9 trivial rfl (by decide) (.inl rfl) ?_
  refine zN ?_
  refine zg ?_
  refine zbS [] [.str [84, 105], .str [84], .str [71, 105], .str [71], .str [77, 105], .str [77], .str [75, 105], .str [107]] Tryz.underlying38 Tryz.i9 ?_
  refine zT (v := .list true 9 [.str [84, 105], .str [84], .str [71, 105], .str [71], .str [77, 105], .str [77], .str [75, 105], .str [107]]) rfl ?_
  refine zN ?_
  refine AWp.ret ?_
  exact ⟨.inl rfl, _, ResOf.one 0 (.list true 9 [.str [84, 105], .str [84], .str [71, 105], .str [71], .str [77, 105], .str [77], .str [75, 105], .str [107]]) rfl rfl, ⟨rfl, rfl⟩⟩

set_option maxRecDepth 20000 in
theorem unit1_any (M : Nat → Option (List AV)) (id : Nat) (t : List UInt8) (hM : M id = some [.str t]) (nm : List UInt8) (k : Int)  : ACall Tryz.prog 96 [.agg [.str nm, zI k], .gptr id 0] M (fun r M' => r = zB (nm == t) ∧ M = M') := by
  refine ACall.of Tryz.func96 rfl (n := 8) rfl rfl rfl ?_
  refine zg ?_
  refine AOps.box trivial rfl (by decide) rfl (noL rfl) rfl (v := .agg [.str nm, zI k]) (.inl ⟨rfl, rfl⟩) rfl rfl (all_flat rfl) ?_
  refine zM (zB false) ?_
  refine zN ?_
  refine zg ?_
  refine zr (zfL Tryz.underlying85 sizeOf_9) ?_
  refine zr (zlL (.str nm) Tryz.underlying9 sizeOf_9) ?_
  refine zr (zlG (.str t) Tryz.underlying9 sizeOf_9 hM) ?_
  refine zr (zt (nm == t)) ?_
  refine zM (zB (nm == t)) ?_
  refine zN ?_
  refine AWp.ret ?_
  exact ⟨.inl rfl, _, ResOf.one 3 (zB (nm == t)) rfl rfl, ⟨rfl, rfl⟩⟩

set_option maxRecDepth 20000 in
theorem ixf_none (M : Nat → Option (List AV)) (id : Nat) (t : List UInt8) (hM : M id = some [.str t]) (hno : ∀ j, j < 8 → (unitL.getD j u0).1 ≠ t)  : ACall Tryz.prog 95 [.list false 85 (unitL.map encU), .fn 96 [.gptr id 0]] M (fun r M' => r = zI (-1) ∧ M = M') := by
  refine ACall.of Tryz.func95 rfl (n := 19) rfl rfl rfl ?_
  refine zg ?_
  refine zM (zI 0) ?_
  refine zN ?_
  refine AWp.seq ?_
  refine zg ?_
  refine zM (.list false 85 (unitL.map encU)) ?_
  refine zr (zL (unitL.map encU) 8 Tryz.underlying82 rfl) ?_
  refine zM (zI 0) ?_
  refine zN ?_
  refine AWp.block ?_
  refine AWp.loopE [0, 1, 7, 8] [] (fun m s => ∃ (j : Nat), m = 8 - j ∧ s = ⟨[(0, .list false 85 (unitL.map encU)), (1, .fn 96 [.gptr id 0]), (7, zI (8 : Int)), (8, zI (j : Int))], [], M⟩ ∧ (j ≤ 8)) ?_ ?_
  · exact ⟨_, 0, rfl, rfl, by omega⟩
  · rintro _ _ ⟨j, rfl, rfl, hji⟩
    refine zg ?_
    refine zr (zi (decide ((j : Int) < (8 : Int)))) ?_
    refine zN ?_
    refine AWp.seq ?_
    refine zC (b := decide ((j : Int) < (8 : Int))) rfl (fun h1 => ?_) (fun h1 => ?_)
    · skip
      have h1' : j < 8 := (by have hh := of_decide_eq_true h1; omega)
      clear h1
      refine AWp.skip ?_
      refine AWp.seq ?_
      refine AWp.block ?_
      refine zg ?_
      refine zM (zI (j : Int)) ?_
      refine zM (zI (j : Int)) ?_
      refine zN ?_
      refine zg ?_
      refine zM (.fn 96 [.gptr id 0]) ?_
      refine zM (.list false 85 (unitL.map encU)) ?_
      refine zM (zI (j : Int)) ?_
      refine zr (zel j (encU (unitL.getD j u0)) Tryz.underlying82 sizeOf_85 (unit_at (by omega))) ?_
      refine zr (zlE (encU (unitL.getD j u0)) Tryz.underlying85 sizeOf_85) ?_
      refine zcv [encU (unitL.getD j u0)] [.gptr id 0] [encU (unitL.getD j u0), .gptr id 0] Tryz.call96 (unit1_any M id t hM ((unitL.getD j u0).1) _) ?_
      rintro _ _ ⟨rfl, rfl⟩
      refine zN ?_
      refine zC (b := ((unitL.getD j u0).1) == t) rfl (fun h2 => ?_) (fun h2 => ?_)
      · skip
        have h2' : ((unitL.getD j u0).1) = t := (eq_of_beq h2)
        clear h2
        refine zg ?_
        refine zM (zI (j : Int)) ?_
        refine zM (zI (j : Int)) ?_
        refine zN ?_
        refine AWp.ret ?_
        exact ⟨.inl rfl, _, ResOf.one 4 (zI (j : Int)) rfl rfl, ⟨absurd (by assumption) (hno j (by omega)), rfl⟩⟩
      · skip
        have h2' : ¬ ((unitL.getD j u0).1) = t := (beq_eq_false_iff_ne.1 h2)
        clear h2
        refine AWp.skip ?_
        refine AWp.region ?_
        refine zr (zw ((j : Int) + 1) ((j + 1 : Nat) : Int)) ?_
        refine zM (zI ((j + 1 : Nat) : Int)) ?_
        refine zN ?_
        exact ⟨_, by omega, j + 1, rfl, rfl, by omega⟩
    · skip
      have h1' : ¬ (j < 8) := (by have hh := of_decide_eq_false h1; omega)
      clear h1
      refine AWp.exit ?_
      refine zg ?_
      refine zM (zI (-1)) ?_
      refine zN ?_
      refine AWp.ret ?_
      exact ⟨.inl rfl, _, ResOf.one 4 (zI (-1)) rfl rfl, ⟨rfl, rfl⟩⟩

set_option maxRecDepth 20000 in
theorem ixf_some (M : Nat → Option (List AV)) (id : Nat) (t : List UInt8) (hM : M id = some [.str t]) (i : Nat) (hi : i < 8) (hno : ∀ j, j < i → (unitL.getD j u0).1 ≠ t) (he : (unitL.getD i u0).1 = t)  : ACall Tryz.prog 95 [.list false 85 (unitL.map encU), .fn 96 [.gptr id 0]] M (fun r M' => r = zI (i : Int) ∧ M = M') := by
  refine ACall.of Tryz.func95 rfl (n := 19) rfl rfl rfl ?_
  refine zg ?_
  refine zM (zI 0) ?_
  refine zN ?_
  refine AWp.seq ?_
  refine zg ?_
  refine zM (.list false 85 (unitL.map encU)) ?_
  refine zr (zL (unitL.map encU) 8 Tryz.underlying82 rfl) ?_
  refine zM (zI 0) ?_
  refine zN ?_
  refine AWp.block ?_
  refine AWp.loopE [0, 1, 7, 8] [] (fun m s => ∃ (j : Nat), m = 8 - j ∧ s = ⟨[(0, .list false 85 (unitL.map encU)), (1, .fn 96 [.gptr id 0]), (7, zI (8 : Int)), (8, zI (j : Int))], [], M⟩ ∧ (j ≤ i)) ?_ ?_
  · exact ⟨_, 0, rfl, rfl, by omega⟩
  · rintro _ _ ⟨j, rfl, rfl, hji⟩
    refine zg ?_
    refine zr (zi (decide ((j : Int) < (8 : Int)))) ?_
    refine zN ?_
    refine AWp.seq ?_
    refine zC (b := decide ((j : Int) < (8 : Int))) rfl (fun h1 => ?_) (fun h1 => ?_)
    · skip
      have h1' : j < 8 := (by have hh := of_decide_eq_true h1; omega)
      clear h1
      refine AWp.skip ?_
      refine AWp.seq ?_
      refine AWp.block ?_
      refine zg ?_
      refine zM (zI (j : Int)) ?_
      refine zM (zI (j : Int)) ?_
      refine zN ?_
      refine zg ?_
      refine zM (.fn 96 [.gptr id 0]) ?_
      refine zM (.list false 85 (unitL.map encU)) ?_
      refine zM (zI (j : Int)) ?_
      refine zr (zel j (encU (unitL.getD j u0)) Tryz.underlying82 sizeOf_85 (unit_at (by omega))) ?_
      refine zr (zlE (encU (unitL.getD j u0)) Tryz.underlying85 sizeOf_85) ?_
      refine zcv [encU (unitL.getD j u0)] [.gptr id 0] [encU (unitL.getD j u0), .gptr id 0] Tryz.call96 (unit1_any M id t hM ((unitL.getD j u0).1) _) ?_
      rintro _ _ ⟨rfl, rfl⟩
      refine zN ?_
      refine zC (b := ((unitL.getD j u0).1) == t) rfl (fun h2 => ?_) (fun h2 => ?_)
      · skip
        have h2' : ((unitL.getD j u0).1) = t := (eq_of_beq h2)
        clear h2
        refine zg ?_
        refine zM (zI (j : Int)) ?_
        refine zM (zI (j : Int)) ?_
        refine zN ?_
        refine AWp.ret ?_
        exact ⟨.inl rfl, _, ResOf.one 4 (zI (j : Int)) rfl rfl, ⟨ix_at hno hji (by assumption), rfl⟩⟩
      · skip
        have h2' : ¬ ((unitL.getD j u0).1) = t := (beq_eq_false_iff_ne.1 h2)
        clear h2
        refine AWp.skip ?_
        refine AWp.region ?_
        refine zr (zw ((j : Int) + 1) ((j + 1 : Nat) : Int)) ?_
        refine zM (zI ((j + 1 : Nat) : Int)) ?_
        refine zN ?_
        have hne : j ≠ i := fun e => (by assumption : ¬ (unitL.getD j u0).1 = t) (by rw [e]; exact he)
        exact ⟨_, by omega, j + 1, rfl, rfl, by omega⟩
    · skip
      have h1' : ¬ (j < 8) := (by have hh := of_decide_eq_false h1; omega)
      clear h1
      refine AWp.exit ?_
      refine zg ?_
      refine zM (zI (-1)) ?_
      refine zN ?_
      refine AWp.ret ?_
      exact ⟨.inl rfl, _, ResOf.one 4 (zI (-1)) rfl rfl, ⟨absurd hji (by omega), rfl⟩⟩

set_option maxRecDepth 20000 in
theorem Unit_nil  (M : Nat → Option (List AV)) : ACall Tryz.prog 79 [.str []] M (fun r M' => r = zI 1 ∧ M = M') := by
  refine ACall.subM ?_
  refine ACall.of Tryz.func79 rfl (n := 18) rfl rfl rfl ?_
  refine zg ?_
  refine AOps.boxG trivial rfl (by decide) (by decide) rfl (v := .str []) (.inl ⟨rfl, rfl⟩) rfl rfl rfl (all_flat rfl) ?_
  intro id1 hid1n hid1t
  refine zM (zI 0) ?_
  refine zN ?_
  refine AWp.seq ?_
  refine zg ?_
  refine zr (zlG (.str []) Tryz.underlying9 sizeOf_9 setM_get) ?_
  refine zr (zt true) ?_
  refine zN ?_
  refine AWp.cond (b := true) rfl (fun hx => ?_) (fun hx => by cases hx)
  refine zg ?_
  refine zM (zI 1) ?_
  refine zN ?_
  refine AWp.ret ?_
  exact ⟨.inl rfl, _, ResOf.one 2 (zI 1) rfl rfl, ⟨M, ⟨rfl, rfl⟩, setM_sub hid1n⟩⟩

set_option maxRecDepth 20000 in
theorem Unit_none (s : List UInt8) (h0 : s ≠ []) (hno : ∀ j, j < 8 → (unitL.getD j u0).1 ≠ s) (M : Nat → Option (List AV)) : ACall Tryz.prog 79 [.str s] M (fun r M' => r = zI 0 ∧ M = M') := by
  refine ACall.subM ?_
  refine ACall.of Tryz.func79 rfl (n := 18) rfl rfl rfl ?_
  refine zg ?_
  refine AOps.boxG trivial rfl (by decide) (by decide) rfl (v := .str s) (.inl ⟨rfl, rfl⟩) rfl rfl rfl (all_flat rfl) ?_
  intro id1 hid1n hid1t
  refine zM (zI 0) ?_
  refine zN ?_
  refine AWp.seq ?_
  refine zg ?_
  refine zr (zlG (.str s) Tryz.underlying9 sizeOf_9 setM_get) ?_
  refine zr (zt (s == [])) ?_
  refine zN ?_
  refine zC (b := s == []) rfl (fun h1 => ?_) (fun h1 => ?_)
  · skip
    have h1' : s = [] := (eq_of_beq h1)
    clear h1
    refine zg ?_
    refine zM (zI 1) ?_
    refine zN ?_
    refine AWp.ret ?_
    exact ⟨.inl rfl, _, ResOf.one 2 (zI 1) rfl rfl, ⟨M, ⟨absurd (by assumption) h0, rfl⟩, setM_sub hid1n⟩⟩
  · skip
    have h1' : ¬ (s = []) := (beq_eq_false_iff_ne.1 h1)
    clear h1
    refine AWp.skip ?_
    refine zg ?_
    refine zc [] Tryz.call52 (units_any (setM M id1 [.str s])) ?_
    rintro _ _ ⟨rfl, rfl⟩
    refine zT (v := .list true 85 (unitL.map encU)) rfl ?_
    refine zN ?_
    refine zg ?_
    refine zM (.list false 85 (unitL.map encU)) ?_
    refine zr (Reader.mkFunc rfl rfl) ?_
    refine zc [.list false 85 (unitL.map encU), .fn 96 [.gptr id1 0]] Tryz.call95 (ixf_none (setM M id1 [.str s]) id1 s setM_get hno) ?_
    rintro _ _ ⟨rfl, rfl⟩
    refine zM (zI (-1)) ?_
    refine zN ?_
    refine AWp.seq ?_
    refine zg ?_
    refine zM (zI (-1)) ?_
    refine zr (zi true) ?_
    refine zN ?_
    refine AWp.cond (b := true) rfl (fun hx => ?_) (fun hx => by cases hx)
    refine zg ?_
    refine zM (zI 0) ?_
    refine zN ?_
    refine AWp.ret ?_
    exact ⟨.inl rfl, _, ResOf.one 2 (zI 0) rfl rfl, ⟨M, ⟨rfl, rfl⟩, setM_sub hid1n⟩⟩

set_option maxRecDepth 20000 in
theorem Unit_some (s : List UInt8) (h0 : s ≠ []) (i : Nat) (hi : i < 8) (hno : ∀ j, j < i → (unitL.getD j u0).1 ≠ s) (he : (unitL.getD i u0).1 = s) (M : Nat → Option (List AV)) : ACall Tryz.prog 79 [.str s] M (fun r M' => r = zI ((unitL.getD i u0).2 : Int) ∧ M = M') := by
  have hun := unit_n hi
  refine ACall.subM ?_
  refine ACall.of Tryz.func79 rfl (n := 18) rfl rfl rfl ?_
  refine zg ?_
  refine AOps.boxG trivial rfl (by decide) (by decide) rfl (v := .str s) (.inl ⟨rfl, rfl⟩) rfl rfl rfl (all_flat rfl) ?_
  intro id1 hid1n hid1t
  refine zM (zI 0) ?_
  refine zN ?_
  refine AWp.seq ?_
  refine zg ?_
  refine zr (zlG (.str s) Tryz.underlying9 sizeOf_9 setM_get) ?_
  refine zr (zt (s == [])) ?_
  refine zN ?_
  refine zC (b := s == []) rfl (fun h1 => ?_) (fun h1 => ?_)
  · skip
    have h1' : s = [] := (eq_of_beq h1)
    clear h1
    refine zg ?_
    refine zM (zI 1) ?_
    refine zN ?_
    refine AWp.ret ?_
    exact ⟨.inl rfl, _, ResOf.one 2 (zI 1) rfl rfl, ⟨M, ⟨absurd (by assumption) h0, rfl⟩, setM_sub hid1n⟩⟩
  · skip
    have h1' : ¬ (s = []) := (beq_eq_false_iff_ne.1 h1)
    clear h1
    refine AWp.skip ?_
    refine zg ?_
    refine zc [] Tryz.call52 (units_any (setM M id1 [.str s])) ?_
    rintro _ _ ⟨rfl, rfl⟩
    refine zT (v := .list true 85 (unitL.map encU)) rfl ?_
    refine zN ?_
    refine zg ?_
    refine zM (.list false 85 (unitL.map encU)) ?_
    refine zr (Reader.mkFunc rfl rfl) ?_
    refine zc [.list false 85 (unitL.map encU), .fn 96 [.gptr id1 0]] Tryz.call95 (ixf_some (setM M id1 [.str s]) id1 s setM_get i hi hno he) ?_
    rintro _ _ ⟨rfl, rfl⟩
    refine zM (zI (i : Int)) ?_
    refine zN ?_
    refine AWp.seq ?_
    refine zg ?_
    refine zM (zI (i : Int)) ?_
    refine zr (zi (decide ((i : Int) < 0))) ?_
    refine zN ?_
    refine zC (b := decide ((i : Int) < 0)) rfl (fun h2 => ?_) (fun h2 => ?_)
    · skip
      have h2' : i < 0 := (by have hh := of_decide_eq_true h2; omega)
      clear h2
      refine zg ?_
      refine zM (zI 0) ?_
      refine zN ?_
      refine AWp.ret ?_
      exact ⟨.inl rfl, _, ResOf.one 2 (zI 0) rfl rfl, ⟨M, ⟨absurd (by assumption) (by omega), rfl⟩, setM_sub hid1n⟩⟩
    · skip
      have h2' : ¬ (i < 0) := (by have hh := of_decide_eq_false h2; omega)
      clear h2
      refine AWp.skip ?_
      refine zg ?_
      refine zM (.list false 85 (unitL.map encU)) ?_
      refine zM (zI (i : Int)) ?_
      refine zr (zel i (encU (unitL.getD i u0)) Tryz.underlying82 sizeOf_85 (unit_at (by omega))) ?_
      refine zr (zfE Tryz.underlying85 sizeOf_3) ?_
      refine zr (zlE (zI (((unitL.getD i u0).2 : Nat) : Int)) Tryz.underlying3 sizeOf_3) ?_
      refine zM (zI (((unitL.getD i u0).2 : Nat) : Int)) ?_
      refine zN ?_
      refine AWp.ret ?_
      exact ⟨.inl rfl, _, ResOf.one 2 (zI (((unitL.getD i u0).2 : Nat) : Int)) rfl rfl, ⟨M, ⟨rfl, rfl⟩, setM_sub hid1n⟩⟩

theorem Unit_any (s : List UInt8) (M : Nat → Option (List AV)) : ACall Tryz.prog 79 [.str s] M (fun r M' => r = zI ((unitOf s : Nat) : Int) ∧ M = M') := by
  by_cases h0 : s = []
  · subst h0; exact Unit_nil M
  · rcases ix_cases s with h | ⟨i, hi, hno, he⟩
    · have := Unit_none s h0 h M
      rw [unitOf_none h h0]; exact this
    · have := Unit_some s h0 i hi hno he M
      rw [unitOf_some hi he]; exact this

set_option maxRecDepth 20000 in
theorem rUnit_any (t : List UInt8) (M : Nat → Option (List AV)) : ACall Tryz.prog 51 [.str t] M (fun r M' => r = zI ((unitOf t : Nat) : Int) ∧ M = M') := by
  refine ACall.of Tryz.func51 rfl (n := 34) rfl rfl rfl ?_
  refine zg ?_
  refine zM (zI 0) ?_
  refine zN ?_
  refine AWp.seq ?_
  refine zg ?_
  refine zM (.str t) ?_
  refine zr (zt (t == [])) ?_
  refine zN ?_
  refine zC (b := t == []) rfl (fun h1 => ?_) (fun h1 => ?_)
  · skip
    have h1' : t = [] := (eq_of_beq h1)
    clear h1
    refine zg ?_
    refine zM (zI 1) ?_
    refine zN ?_
    refine AWp.ret ?_
    exact ⟨.inl rfl, _, ResOf.one 2 (zI 1) rfl rfl, ⟨by rw [show t = [] by assumption]; rfl, rfl⟩⟩
  · skip
    have h1' : ¬ (t = []) := (beq_eq_false_iff_ne.1 h1)
    clear h1
    refine AWp.skip ?_
    refine zg ?_
    refine zc [] Tryz.call59 (names_any M) ?_
    rintro _ _ ⟨rfl, rfl⟩
    refine zT (v := .list true 9 (namesL.map AV.str)) rfl ?_
    refine zN ?_
    refine AWp.seq ?_
    refine zg ?_
    refine zM (zI 0) ?_
    refine zN ?_
    refine AWp.block ?_
    refine AWp.loopE [0, 3, 4] [] (fun m s => ∃ (i : Nat), m = 8 - i ∧ s = ⟨[(0, .str t), (3, .list true 9 (namesL.map AV.str)), (4, zI (i : Int))], [], M⟩ ∧ (i ≤ 8) ∧ (t ≠ []) ∧ (∀ j, j < i → (unitL.getD j u0).1 ≠ t)) ?_ ?_
    · exact ⟨_, 0, rfl, rfl, by omega, by assumption, fun j hj => by omega⟩
    · rintro _ _ ⟨i, rfl, rfl, hi, h0, hno⟩
      refine AWp.seq ?_
      refine zg ?_
      refine zM (zI (i : Int)) ?_
      refine zr (zi (decide ((i : Int) < 8))) ?_
      refine zN ?_
      refine zC (b := decide ((i : Int) < 8)) rfl (fun h2 => ?_) (fun h2 => ?_)
      · skip
        have h2' : i < 8 := (by have hh := of_decide_eq_true h2; omega)
        clear h2
        refine AWp.skip ?_
        refine AWp.seq ?_
        refine AWp.block ?_
        refine zg ?_
        refine zM (.list false 9 (namesL.map AV.str)) ?_
        refine zM (zI (i : Int)) ?_
        refine zr (zel i (.str (namesL.getD i [])) Tryz.underlying38 sizeOf_9 (name_at (by omega))) ?_
        refine zr (zlE (.str (namesL.getD i [])) Tryz.underlying9 sizeOf_9) ?_
        refine zM (.str t) ?_
        refine zr (zt ((namesL.getD i []) == t)) ?_
        refine zN ?_
        refine zC (b := (namesL.getD i []) == t) rfl (fun h3 => ?_) (fun h3 => ?_)
        · skip
          have h3' : (namesL.getD i []) = t := (eq_of_beq h3)
          clear h3
          refine zg ?_
          refine zM (zI 1) ?_
          refine zN ?_
          refine AWp.seq ?_
          refine zg ?_
          refine zM (zI (i : Int)) ?_
          refine zr (Reader.quo rfl rfl rfl (by decide) (c := ((i / 2 : Nat) : Int)) (by rw [show (2 : Int) = ((2 : Nat) : Int) from rfl, nat_quo]; exact IntWalk.i64_in _ (by omega))) ?_
          refine zM (zI ((i / 2 : Nat) : Int)) ?_
          refine zN ?_
          refine AWp.block ?_
          refine AWp.loopE [0, 3, 4, 5, 6] [] (fun m s => ∃ (k : Nat), m = 4 - k ∧ s = ⟨[(0, .str t), (3, .list true 9 (namesL.map AV.str)), (4, zI (i : Int)), (5, zI ((pw i k : Nat) : Int)), (6, zI (k : Int))], [], M⟩ ∧ (i / 2 ≤ k) ∧ (k ≤ 4) ∧ (i < 8) ∧ ((unitL.getD i u0).1 = t)) ?_ ?_
          · exact ⟨_, i / 2, rfl, (by rw [pw_0]; rfl), by omega, by omega, by omega, by rw [← name_unit (by omega)]; assumption⟩
          · rintro _ _ ⟨k, rfl, rfl, hk1, hk4, hi8, hnm⟩
            have hpw := pw_le (i := i) (k := k) hk4
            refine AWp.seq ?_
            refine zg ?_
            refine zM (zI (k : Int)) ?_
            refine zr (zi (decide ((k : Int) < 4))) ?_
            refine zN ?_
            refine zC (b := decide ((k : Int) < 4)) rfl (fun h4 => ?_) (fun h4 => ?_)
            · skip
              have h4' : k < 4 := (by have hh := of_decide_eq_true h4; omega)
              clear h4
              refine AWp.skip ?_
              refine AWp.seq ?_
              refine AWp.block ?_
              refine zg ?_
              refine zM (zI (i : Int)) ?_
              refine zr (Reader.rem rfl rfl rfl (by decide) (c := ((i % 2 : Nat) : Int)) (by first | rfl | exact nat_rem _ _)) ?_
              refine zr (zi (((i % 2 : Nat) : Int) == 0)) ?_
              refine zN ?_
              refine zC (b := ((i % 2 : Nat) : Int) == 0) rfl (fun h5 => ?_) (fun h5 => ?_)
              · skip
                have h5' : (i % 2) = 0 := (by have hh := eq_of_beq h5; omega)
                clear h5
                refine AWp.region ?_
                refine zM (zI ((pw i k : Nat) : Int)) ?_
                refine zr (zw (((pw i k : Nat) : Int) * 1024) (((pw i k) * 1024 : Nat) : Int)) ?_
                refine zM (zI (((pw i k) * 1024 : Nat) : Int)) ?_
                refine zN ?_
                refine AWp.region ?_
                refine zM (zI (k : Int)) ?_
                refine zr (zw ((k : Int) + 1) ((k + 1 : Nat) : Int)) ?_
                refine zM (zI ((k + 1 : Nat) : Int)) ?_
                refine zN ?_
                have hpk := pw_le (i := i) (k := k) hk4
                first | exact ⟨_, by omega, k + 1, rfl, (by rw [← pw_even hk1 (by assumption)]; rfl), by omega, by omega, hi8, hnm⟩ | exact ⟨_, by omega, k + 1, rfl, (by rw [← pw_odd hk1 (by assumption)]; rfl), by omega, by omega, hi8, hnm⟩
              · skip
                have h5' : ¬ ((i % 2) = 0) := (by have hh := beq_eq_false_iff_ne.1 h5; omega)
                clear h5
                refine AWp.region ?_
                refine zM (zI ((pw i k : Nat) : Int)) ?_
                refine zr (zw (((pw i k : Nat) : Int) * 1000) (((pw i k) * 1000 : Nat) : Int)) ?_
                refine zM (zI (((pw i k) * 1000 : Nat) : Int)) ?_
                refine zN ?_
                refine AWp.region ?_
                refine zM (zI (k : Int)) ?_
                refine zr (zw ((k : Int) + 1) ((k + 1 : Nat) : Int)) ?_
                refine zM (zI ((k + 1 : Nat) : Int)) ?_
                refine zN ?_
                have hpk := pw_le (i := i) (k := k) hk4
                first | exact ⟨_, by omega, k + 1, rfl, (by rw [← pw_even hk1 (by assumption)]; rfl), by omega, by omega, hi8, hnm⟩ | exact ⟨_, by omega, k + 1, rfl, (by rw [← pw_odd hk1 (by assumption)]; rfl), by omega, by omega, hi8, hnm⟩
            · skip
              have h4' : ¬ (k < 4) := (by have hh := of_decide_eq_false h4; omega)
              clear h4
              refine AWp.exit ?_
              refine zg ?_
              refine zM (zI ((pw i k : Nat) : Int)) ?_
              refine zM (zI ((pw i k : Nat) : Int)) ?_
              refine zN ?_
              refine AWp.ret ?_
              exact ⟨.inl rfl, _, ResOf.one 2 (zI ((pw i k : Nat) : Int)) rfl rfl, ⟨by rw [unitOf_some hi8 hnm, ← pw_unit hi8, show k = 4 by omega], rfl⟩⟩
        · skip
          have h3' : ¬ ((namesL.getD i []) = t) := (beq_eq_false_iff_ne.1 h3)
          clear h3
          refine AWp.skip ?_
          refine AWp.region ?_
          refine zM (zI (i : Int)) ?_
          refine zr (zw ((i : Int) + 1) ((i + 1 : Nat) : Int)) ?_
          refine zM (zI ((i + 1 : Nat) : Int)) ?_
          refine zN ?_
          exact ⟨_, by omega, i + 1, rfl, rfl, by omega, h0, nx_0 hno (by rw [← name_unit (by omega)]; assumption)⟩
      · skip
        have h2' : ¬ (i < 8) := (by have hh := of_decide_eq_false h2; omega)
        clear h2
        refine AWp.exit ?_
        refine zg ?_
        refine zM (zI 0) ?_
        refine zN ?_
        refine AWp.ret ?_
        exact ⟨.inl rfl, _, ResOf.one 2 (zI 0) rfl rfl, ⟨by rw [unitOf_none (fun j hj => hno j (by omega)) h0]; rfl, rfl⟩⟩
end
section
open Go.RowKit

/-- Where the reader stopped. -/
structure Stop (t : List UInt8) (i : Nat) : Prop where
  tw : t.takeWhile isD = t.take i
  dw : t.dropWhile isD = t.drop i
  le : i ≤ t.length
theorem Stop.of {t : List UInt8} {i : Nat} (hi : i ≤ t.length) (hall : ∀ j, j < i → isD (t.getD j 0) = true) (hs : i < t.length → isD (t.getD i 0) = false) : Stop t i := by
  obtain ⟨h1, h2⟩ := tw_to isD t i hi hall hs
  exact ⟨h1, h2, hi⟩
theorem conv_dig {n : Nat} (h : n < 10) : IntKind.u8.wrap ((48 + n : Nat) : Int) = (((UInt8.ofNat (48 + n)).toNat : Nat) : Int) := by
  rw [IntWalk.u8_in _ (by omega), UInt8.toNat_ofNat_of_lt' (by show 48 + n < 256; omega)]
theorem digs_one {n : Nat} (h : n < 10) : [UInt8.ofNat (48 + n)] = digs n := (digs_small h).symm
theorem digs_len20 (n : Nat) (h : n ≤ 9223372036854775807) : (digs n).length ≤ 19 := digs_len n 19 (by omega) (by decide)

set_option maxRecDepth 20000 in
theorem Read_any (t : List UInt8) (hl : t.length ≤ 140737488355328) (M : Nat → Option (List AV)) : ACall Tryz.prog 66 [.str t] M (fun r M' => r = .tuple [zI ((qv t : Nat) : Int), zI (qe t)] ∧ M = M') := by
  have hdl := dw_le isD t
  have htl := tw_le isD t
  have hul := unitOf_le (t.dropWhile isD)
  refine ACall.of Tryz.func66 rfl (n := 44) rfl rfl rfl ?_
  refine zg ?_
  refine zM (zI 0) ?_
  refine zM (zI 0) ?_
  refine zN ?_
  refine zg ?_
  refine zM (.str t) ?_
  refine zc [.str t, .str [48, 49, 50, 51, 52, 53, 54, 55, 56, 57]] Tryz.call78 (trim_any t M) ?_
  rintro _ _ ⟨rfl, rfl⟩
  refine zM (.str (t.dropWhile isD)) ?_
  refine zN ?_
  refine zg ?_
  refine zM (.str t) ?_
  refine zM (.str t) ?_
  refine zr (zS t t.length Tryz.underlying9) ?_
  refine zM (.str (t.dropWhile isD)) ?_
  refine zr (zS (t.dropWhile isD) ((t.dropWhile isD).length) Tryz.underlying9 (by first | rfl | simp)) ?_
  refine zr (zu ((t.length : Int) - (((t.dropWhile isD).length : Nat) : Int)) ((t.length - ((t.dropWhile isD).length) : Nat) : Int) (by rw [IntWalk.i64_in _ (by omega)]; omega)) ?_
  refine zr (Reader.sub (i := 0) (j := t.length - ((t.dropWhile isD).length)) rfl Tryz.underlying9 rfl rfl ⟨_, _, rfl, rfl⟩ (by first | omega | (simp; omega)) (by first | omega | (simp; omega)) (m := (t.takeWhile isD)) (tw_take isD t)) ?_
  refine zM (.str (t.takeWhile isD)) ?_
  refine zN ?_
  refine zg ?_
  refine zM (.str (t.dropWhile isD)) ?_
  refine zc [.str (t.dropWhile isD)] Tryz.call79 (Unit_any (t.dropWhile isD) M) ?_
  rintro _ _ ⟨rfl, rfl⟩
  refine zM (zI ((unitOf (t.dropWhile isD) : Nat) : Int)) ?_
  refine zN ?_
  refine AWp.seq ?_
  refine zj 26 [(0, .str t), (2, zI 0), (3, zI 0), (4, .str (t.dropWhile isD)), (5, .str (t.takeWhile isD)), (6, zI ((unitOf (t.dropWhile isD) : Nat) : Int))] [] M (bif ((t.takeWhile isD) == []) then true else (((unitOf (t.dropWhile isD) : Nat) : Int) == 0)) ?_ ?_
  · skip
    refine zM (.str (t.takeWhile isD)) ?_
    refine zr (zt ((t.takeWhile isD) == [])) ?_
    refine zM (zB ((t.takeWhile isD) == [])) ?_
    refine AOps.splitJ (t := 23) (b := (t.takeWhile isD) == []) (x := true) (y := (((unitOf (t.dropWhile isD) : Nat) : Int) == 0)) rfl (fun h1 => ?_) (fun h1 => ?_)
    · skip
      have h1' : (t.takeWhile isD) = [] := (eq_of_beq h1)
      clear h1
      refine zs ?_
      refine zs ?_
      refine zr (zp true (zB true)) ?_
      exact AOps.nil rfl
    · skip
      have h1' : ¬ ((t.takeWhile isD) = []) := (beq_eq_false_iff_ne.1 h1)
      clear h1
      refine zM (zI ((unitOf (t.dropWhile isD) : Nat) : Int)) ?_
      refine zr (zi (((unitOf (t.dropWhile isD) : Nat) : Int) == 0)) ?_
      refine zr (zp false (zB (((unitOf (t.dropWhile isD) : Nat) : Int) == 0))) ?_
      exact AOps.nil rfl
  refine zC (b := bif ((t.takeWhile isD) == []) then true else (((unitOf (t.dropWhile isD) : Nat) : Int) == 0)) rfl (fun h2 => ?_) (fun h2 => ?_)
  · skip
    have h2' : quantV t = none := (qbad_of h2)
    clear h2
    refine zg ?_
    refine zM (zI 0) ?_
    refine zM (zI 2) ?_
    refine zN ?_
    refine AWp.ret ?_
    exact ⟨.inl rfl, _, ResOf.two 2 3 (zI 0) (zI 2) rfl rfl (.inl rfl) (.inl rfl) (by decide), ⟨by rw [(q_none (by assumption)).1, (q_none (by assumption)).2]; rfl, rfl⟩⟩
  · skip
    have h2' : quantV t = some (satN (decV (t.takeWhile isD) * unitOf (t.dropWhile isD))) := (qgood_of h2)
    clear h2
    refine AWp.skip ?_
    refine zg ?_
    refine zM (zI 0) ?_
    refine zN ?_
    refine AWp.seq ?_
    refine zg ?_
    refine zM (.str (t.takeWhile isD)) ?_
    refine AOps.toBytes (_D := .bool) trivial rfl (by decide) rfl Tryz.underlying9 Tryz.underlying22 Tryz.underlying5 rfl (sizeOf_5) (by first | omega | (simp; omega)) ?_
    refine zr (zL (byteAVs (t.takeWhile isD)) ((t.takeWhile isD).length) Tryz.underlying22 (byteAVs_len _)) ?_
    refine zM (zI 0) ?_
    refine zN ?_
    refine AWp.block ?_
    refine AWp.loopE [4, 6, 7, 28, 29, 30] [] (fun m s => ∃ (k : Nat), m = (t.takeWhile isD).length - k ∧ s = ⟨[(4, .str (t.dropWhile isD)), (6, zI ((unitOf (t.dropWhile isD) : Nat) : Int)), (7, zI ((decV ((t.takeWhile isD).take k) : Nat) : Int)), (28, .list false 5 (byteAVs (t.takeWhile isD))), (29, zI (((t.takeWhile isD).length : Nat) : Int)), (30, zI (k : Int))], [], M⟩ ∧ (k ≤ (t.takeWhile isD).length) ∧ (quantV t = some (satN (decV (t.takeWhile isD) * unitOf (t.dropWhile isD))))) ?_ ?_
    · exact ⟨_, 0, rfl, rfl, Nat.zero_le _, by assumption⟩
    · rintro _ _ ⟨k, rfl, rfl, hk, hq⟩
      have hdg := tw_dig t k
      have hdv := decV_le ((t.takeWhile isD).take k)
      have hs1 := satN_le (decV ((t.takeWhile isD).take k) * 10)
      refine zg ?_
      refine zr (zi (decide ((k : Int) < (((t.takeWhile isD).length : Nat) : Int)))) ?_
      refine zN ?_
      refine AWp.seq ?_
      refine zC (b := decide ((k : Int) < (((t.takeWhile isD).length : Nat) : Int))) rfl (fun h3 => ?_) (fun h3 => ?_)
      · skip
        have h3' : k < ((t.takeWhile isD).length) := (by have hh := of_decide_eq_true h3; omega)
        clear h3
        refine AWp.skip ?_
        refine AWp.seq ?_
        refine AWp.block ?_
        refine zg ?_
        refine zr (zel k (.lit (.int .u8 (((t.takeWhile isD).getD k 0).toNat : Int))) Tryz.underlying22 sizeOf_5 (byteAVs_at (by first | omega | (simp; omega)))) ?_
        refine zr (zlE (.lit (.int .u8 (((t.takeWhile isD).getD k 0).toNat : Int))) Tryz.underlying5 sizeOf_5) ?_
        refine zM (.lit (.int .u8 (((t.takeWhile isD).getD k 0).toNat : Int))) ?_
        refine zN ?_
        refine AWp.region ?_
        refine zM (zI ((decV ((t.takeWhile isD).take k) : Nat) : Int)) ?_
        refine zc [zI ((decV ((t.takeWhile isD).take k) : Nat) : Int), zI 10] Tryz.call81 (sat_mulN (decV ((t.takeWhile isD).take k)) 10 (by first | assumption | omega) (by first | assumption | omega) M) ?_
        rintro _ _ ⟨rfl, rfl⟩
        refine zM (.lit (.int .u8 (((t.takeWhile isD).getD k 0).toNat : Int))) ?_
        refine zr (zu ((((t.takeWhile isD).getD k 0).toNat : Int) - 48) (((((t.takeWhile isD).getD k 0).toNat) - 48 : Nat) : Int) (by rw [IntWalk.u8_in _ (by omega)]; omega)) ?_
        refine zr (Reader.conv rfl Tryz.underlying5 Tryz.underlying3 (by simp) rfl (c := (((((t.takeWhile isD).getD k 0).toNat) - 48 : Nat) : Int)) (by first | exact IntWalk.i64_in _ (by omega) | exact IntWalk.i64_in _ (by constructor <;> omega) | (simp only [];omega))) ?_
        refine zc [zI ((satN ((decV ((t.takeWhile isD).take k)) * 10) : Nat) : Int), zI (((((t.takeWhile isD).getD k 0).toNat) - 48 : Nat) : Int)] Tryz.call80 (sat_addN (satN ((decV ((t.takeWhile isD).take k)) * 10)) ((((t.takeWhile isD).getD k 0).toNat) - 48) (by first | assumption | omega) (by first | assumption | omega) M) ?_
        rintro _ _ ⟨rfl, rfl⟩
        refine zM (zI ((satN ((satN ((decV ((t.takeWhile isD).take k)) * 10)) + ((((t.takeWhile isD).getD k 0).toNat) - 48)) : Nat) : Int)) ?_
        refine zN ?_
        refine AWp.region ?_
        refine zr (zw ((k : Int) + 1) ((k + 1 : Nat) : Int)) ?_
        refine zM (zI ((k + 1 : Nat) : Int)) ?_
        refine zN ?_
        exact ⟨_, by omega, k + 1, rfl, (by rw [← decV_step (by omega)]; rfl), by omega, hq⟩
      · skip
        have h3' : ¬ (k < ((t.takeWhile isD).length)) := (by have hh := of_decide_eq_false h3; omega)
        clear h3
        refine AWp.exit ?_
        refine zg ?_
        refine zM (zI ((decV ((t.takeWhile isD).take k) : Nat) : Int)) ?_
        refine zM (zI ((unitOf (t.dropWhile isD) : Nat) : Int)) ?_
        refine zc [zI ((decV ((t.takeWhile isD).take k) : Nat) : Int), zI ((unitOf (t.dropWhile isD) : Nat) : Int)] Tryz.call81 (sat_mulN (decV ((t.takeWhile isD).take k)) (unitOf (t.dropWhile isD)) (by first | assumption | omega) (by first | assumption | omega) M) ?_
        rintro _ _ ⟨rfl, rfl⟩
        refine zM (zI ((satN ((decV ((t.takeWhile isD).take k)) * (unitOf (t.dropWhile isD))) : Nat) : Int)) ?_
        refine zM (zI 0) ?_
        refine zN ?_
        refine AWp.ret ?_
        exact ⟨.inl rfl, _, ResOf.two 2 3 (zI ((satN ((decV ((t.takeWhile isD).take k)) * (unitOf (t.dropWhile isD))) : Nat) : Int)) (zI 0) rfl rfl (.inl rfl) (.inl rfl) (by decide), ⟨by rw [(q_some hq).1, (q_some hq).2, List.take_of_length_le (by omega)], rfl⟩⟩

set_option maxRecDepth 20000 in
theorem digits_step (n : Nat) (hn : n ≤ 9223372036854775807) (IH : ∀ m, m < n → m ≤ 9223372036854775807 → ∀ M, ACall Tryz.prog 60 [zI (m : Int)] M (fun r M' => r = .str (digs m) ∧ M = M')) (M : Nat → Option (List AV)) : ACall Tryz.prog 60 [zI (n : Int)] M (fun r M' => r = .str (digs n) ∧ M = M') := by
  have hd1 := digs_len20 (n / 10) (by omega)
  have hd2 := digs_len20 (n % 10) (by omega)
  refine ACall.of Tryz.func60 rfl (n := 17) rfl rfl rfl ?_
  refine zg ?_
  refine zM (.str []) ?_
  refine zN ?_
  refine AWp.seq ?_
  refine zg ?_
  refine zM (zI (n : Int)) ?_
  refine zr (zi (decide ((n : Int) < 10))) ?_
  refine zN ?_
  refine zC (b := decide ((n : Int) < 10)) rfl (fun h1 => ?_) (fun h1 => ?_)
  · skip
    have h1' : n < 10 := (by have hh := of_decide_eq_true h1; omega)
    clear h1
    refine zg ?_
    refine zM (zI (n : Int)) ?_
    refine zr (zw (48 + (n : Int)) ((48 + n : Nat) : Int)) ?_
    refine zr (Reader.conv rfl Tryz.underlying3 Tryz.underlying5 (by simp) rfl (c := (((UInt8.ofNat (48 + n)).toNat : Nat) : Int)) (conv_dig (by omega))) ?_
    refine zbS [] (byteAVs [UInt8.ofNat (48 + n)]) Tryz.underlying22 Tryz.i5 ?_
    refine zr (Reader.ofBytes (l := [UInt8.ofNat (48 + n)]) rfl Tryz.underlying22 Tryz.underlying9 Tryz.underlying5 rfl) ?_
    refine zM (.str [UInt8.ofNat (48 + n)]) ?_
    refine zN ?_
    refine AWp.ret ?_
    exact ⟨.inl rfl, _, ResOf.one 2 (.str [UInt8.ofNat (48 + n)]) rfl rfl, ⟨congrArg AV.str (digs_one (by omega)), rfl⟩⟩
  · skip
    have h1' : ¬ (n < 10) := (by have hh := of_decide_eq_false h1; omega)
    clear h1
    refine AWp.skip ?_
    refine zg ?_
    refine zM (zI (n : Int)) ?_
    refine zr (Reader.quo rfl rfl rfl (by decide) (c := ((n / 10 : Nat) : Int)) (by rw [show (10 : Int) = ((10 : Nat) : Int) from rfl, nat_quo]; exact IntWalk.i64_in _ (by omega))) ?_
    refine zc [zI ((n / 10 : Nat) : Int)] Tryz.call60 (IH (n / 10) (by omega) (by omega) M) ?_
    rintro _ _ ⟨rfl, rfl⟩
    refine zM (zI (n : Int)) ?_
    refine zr (Reader.rem rfl rfl rfl (by decide) (c := ((n % 10 : Nat) : Int)) (by first | rfl | exact nat_rem _ _)) ?_
    refine zc [zI ((n % 10 : Nat) : Int)] Tryz.call60 (IH (n % 10) (by omega) (by omega) M) ?_
    rintro _ _ ⟨rfl, rfl⟩
    refine zr (Reader.cat rfl rfl rfl (by first | omega | (simp only [List.length_append, List.length_cons, List.length_nil]; omega) | (simp; omega)) (c := (digs (n / 10)) ++ (digs (n % 10))) rfl) ?_
    refine zM (.str ((digs (n / 10)) ++ (digs (n % 10)))) ?_
    refine zN ?_
    refine AWp.ret ?_
    exact ⟨.inl rfl, _, ResOf.one 2 (.str ((digs (n / 10)) ++ (digs (n % 10)))) rfl rfl, ⟨congrArg AV.str ((digs_big (by omega)).symm), rfl⟩⟩

theorem Digits_any (n : Nat) (hn : n ≤ 9223372036854775807) : ∀ M, ACall Tryz.prog 60 [zI (n : Int)] M (fun r M' => r = .str (digs n) ∧ M = M') := by
  induction n using Nat.strongRecOn with
  | _ n ih => intro M; exact digits_step n hn (fun m hm hm2 => ih m hm hm2) M
end
section
open Go.RowKit

theorem unit_len {i : Nat} : (unitL.getD i u0).1.length ≤ 2 := by
  match i with
  | 0 | 1 | 2 | 3 | 4 | 5 | 6 | 7 => decide
  | i + 8 => exact Nat.zero_le _
theorem pr_t {n u : Nat} (h : (bif decide ((n : Int) > 0) then (((n % u : Nat) : Int) == 0) else false) = true) : n > 0 ∧ n % u = 0 := by
  by_cases h1 : (n : Int) > 0
  · rw [decide_eq_true h1, cond_true] at h
    have := eq_of_beq h
    omega
  · rw [decide_eq_false h1] at h; cases h
theorem pr_f {n u : Nat} (h : (bif decide ((n : Int) > 0) then (((n % u : Nat) : Int) == 0) else false) = false) : ¬ (n > 0 ∧ n % u = 0) := by
  rintro ⟨h1, h2⟩
  rw [decide_eq_true (show (n : Int) > 0 by omega), cond_true, h2] at h
  simp at h
theorem find_first {p : List UInt8 × Nat → Bool} {i : Nat} (hi : i < 8) (hno : ∀ j, j < i → p (unitL.getD j u0) = false) (he : p (unitL.getD i u0) = true) : unitL.find? p = some (unitL.getD i u0) := by
  have key : ∀ (l : List (List UInt8 × Nat)) (i : Nat), i < l.length → (∀ j, j < i → p (l.getD j u0) = false) → p (l.getD i u0) = true → l.find? p = some (l.getD i u0) := by
    intro l
    induction l with
    | nil => intro i h; simp at h
    | cons a r ih =>
      intro i h h1 h2
      cases i with
      | zero => simp at h2; simp [h2]
      | succ i =>
        have h0 := h1 0 (by omega)
        simp at h0
        have := ih i (by simpa using h) (fun j hj => by simpa using h1 (j + 1) (by omega)) (by simpa using h2)
        simp only [List.find?_cons, h0, List.getD_cons_succ]
        exact this
  exact key unitL i hi hno he
theorem find_none {p : List UInt8 × Nat → Bool} (hno : ∀ j, j < 8 → p (unitL.getD j u0) = false) : unitL.find? p = none := by
  rw [List.find?_eq_none]
  intro u hu
  rw [unitL_eq] at hu
  obtain ⟨j, hj, rfl⟩ := List.mem_map.1 hu
  rw [hno j (List.mem_range.1 hj)]; simp
theorem print_some {n i : Nat} (hi : i < 8) (hno : ∀ j, j < i → ¬ (n > 0 ∧ n % (unitL.getD j u0).2 = 0)) (h : n > 0 ∧ n % (unitL.getD i u0).2 = 0) : digs (n / (unitL.getD i u0).2) ++ (unitL.getD i u0).1 = printV n := by
  unfold printV
  rw [if_neg (by omega), find_first (p := fun u => n % u.2 == 0) hi (fun j hj => ?_) (by simpa using h.2)]
  have := hno j hj
  simp only [beq_eq_false_iff_ne]
  intro e
  exact this ⟨h.1, e⟩
theorem print_none {n i : Nat} (hno : ∀ j, j < i → ¬ (n > 0 ∧ n % (unitL.getD j u0).2 = 0)) (hi : 8 ≤ i) : digs n = printV n := by
  unfold printV
  by_cases h0 : n = 0
  · subst h0; rw [if_pos rfl, digs_small (by decide)]; rfl
  · rw [if_neg h0, find_none (p := fun u => n % u.2 == 0) (fun j hj => ?_)]
    have := hno j (by omega)
    simp only [beq_eq_false_iff_ne]
    intro e
    exact this ⟨by omega, e⟩
theorem nm_unit {j : Nat} : j < 8 → unitOf (namesL.getD j []) = (unitL.getD j u0).2 ∧ 1000 ≤ (unitL.getD j u0).2 ∧ (unitL.getD j u0).2 ≤ 1099511627776 := fun h => ⟨by rw [name_unit h]; exact unit_ofN h, unit_n h⟩
/-- The greatest unit from the k-th on that divides. -/
def bst (n k : Nat) : List UInt8 := match (unitL.drop k).find? (fun u => n % u.2 == 0) with | some u => u.1 | none => []
theorem bst_pos (n : Nat) (k : Nat) : 1 ≤ unitOf (bst n k) ∧ unitOf (bst n k) ≤ 1099511627776 := by
  unfold bst
  split
  · rename_i u hu
    have hm := List.mem_of_mem_drop (List.mem_of_find?_eq_some hu)
    have := unit_pos hm
    rw [unit_of hm]; omega
  · decide
theorem bst_len (n : Nat) (k : Nat) : (bst n k).length ≤ 2 := by
  unfold bst
  split
  · rename_i u hu
    have hm := List.mem_of_mem_drop (List.mem_of_find?_eq_some hu)
    simp only [unitL, List.mem_cons, List.mem_nil_iff, or_false] at hm
    rcases hm with rfl | rfl | rfl | rfl | rfl | rfl | rfl | rfl <;> decide
  · exact Nat.zero_le _
theorem drop_unit {k : Nat} (h : k < 8) : unitL.drop k = unitL.getD k u0 :: unitL.drop (k + 1) := by
  rw [List.drop_eq_getElem_cons (by rw [unitL_len]; exact h), List.getD_eq_getElem?_getD, List.getElem?_eq_getElem (by rw [unitL_len]; exact h)]; rfl
theorem bst_yes {n : Nat} {i : Int} (h0 : 0 ≤ i) (h7 : i ≤ 7) (h : n % unitOf (namesL.getD i.toNat []) = 0) : bst n (i - 1 + 1).toNat = namesL.getD i.toNat [] := by
  have e : (i - 1 + 1).toNat = i.toNat := by congr 1; omega
  rw [(nm_unit (j := i.toNat) (by omega)).1] at h
  have hh : (n % (unitL.getD i.toNat u0).2 == 0) = true := by rw [h]; rfl
  rw [e, bst, drop_unit (by omega), List.find?_cons, name_unit (by omega)]
  simp only [hh]
theorem bst_no {n : Nat} {i : Int} (h0 : 0 ≤ i) (h7 : i ≤ 7) (h : ¬ n % unitOf (namesL.getD i.toNat []) = 0) : bst n (i - 1 + 1).toNat = bst n (i + 1).toNat := by
  have e : (i - 1 + 1).toNat = i.toNat := by congr 1; omega
  have e2 : (i + 1).toNat = i.toNat + 1 := by omega
  rw [(nm_unit (j := i.toNat) (by omega)).1] at h
  have hh : (n % (unitL.getD i.toNat u0).2 == 0) = false := beq_eq_false_iff_ne.2 h
  rw [e, e2, bst, drop_unit (by omega), List.find?_cons, bst]
  simp only [hh]
theorem rprint_0 {n : Nat} (h : n ≤ 0) : [48] = printV n := by
  have : n = 0 := by omega
  subst this; rfl
theorem rprint_ok {n : Nat} {i : Int} (hn : ¬ n ≤ 0) (hi : (i + 1).toNat = 0) : digs (n / unitOf (bst n (i + 1).toNat)) ++ bst n (i + 1).toNat = printV n := by
  rw [hi]
  unfold printV bst
  rw [if_neg (by omega), List.drop_zero]
  cases hu : unitL.find? (fun u => n % u.2 == 0) with
  | some u => simp only [unit_of (List.mem_of_find?_eq_some hu)]
  | none => simp only [unitOf_nil, Nat.div_one, List.append_nil]

set_option maxRecDepth 20000 in
theorem Print_any (n : Int) (hn : n.toNat ≤ 9223372036854775807) (M : Nat → Option (List AV)) : ACall Tryz.prog 29 [zI n] M (fun r M' => r = .str (printV n.toNat) ∧ M = M') := by
  refine ACall.of Tryz.func29 rfl (n := 33) rfl rfl rfl ?_
  refine zg ?_
  refine zM (.str []) ?_
  refine zN ?_
  refine zg ?_
  refine zM (zI n) ?_
  refine zr (Reader.maxI rfl rfl rfl rfl rfl (m := (n.toNat : Int)) (by omega)) ?_
  refine zM (zI (n.toNat : Int)) ?_
  refine zN ?_
  refine AWp.seq ?_
  refine zg ?_
  refine zc [] Tryz.call52 (units_any M) ?_
  rintro _ _ ⟨rfl, rfl⟩
  refine zr (zL (unitL.map encU) 8 Tryz.underlying82 rfl) ?_
  refine zM (zI 0) ?_
  refine zN ?_
  refine AWp.block ?_
  refine AWp.loopE [0, 7, 8, 9] [] (fun m s => ∃ (i : Nat), m = 8 - i ∧ s = ⟨[(0, zI (n.toNat : Int)), (7, .list true 85 (unitL.map encU)), (8, zI (8 : Int)), (9, zI (i : Int))], [], M⟩ ∧ (i ≤ 8) ∧ (∀ j, j < i → ¬ (n.toNat > 0 ∧ n.toNat % (unitL.getD j u0).2 = 0))) ?_ ?_
  · exact ⟨_, 0, rfl, rfl, by omega, fun j hj => by omega⟩
  · rintro _ _ ⟨i, rfl, rfl, hi, hno⟩
    have hun := unit_n (i := i)
    have hul := unit_len (i := i)
    have hdl := digs_len20 (n.toNat / (unitL.getD i u0).2) (by have hq := Nat.div_le_self n.toNat (unitL.getD i u0).2; omega)
    refine zg ?_
    refine zr (zi (decide ((i : Int) < (8 : Int)))) ?_
    refine zN ?_
    refine AWp.seq ?_
    refine zC (b := decide ((i : Int) < (8 : Int))) rfl (fun h1 => ?_) (fun h1 => ?_)
    · skip
      have h1' : i < 8 := (by have hh := of_decide_eq_true h1; omega)
      clear h1
      refine AWp.skip ?_
      refine AWp.seq ?_
      refine AWp.block ?_
      refine zg ?_
      refine zr (zel i (encU (unitL.getD i u0)) Tryz.underlying82 sizeOf_85 (unit_at (by omega))) ?_
      refine zr (zlE (encU (unitL.getD i u0)) Tryz.underlying85 sizeOf_85) ?_
      refine zal [] zero_85 [.str [], zI 0] ?_
      refine zst sizeOf_85 (encU (unitL.getD i u0)) ?_
      refine zN ?_
      refine zj 21 [(0, zI (n.toNat : Int)), (7, .list true 85 (unitL.map encU)), (8, zI (8 : Int)), (9, zI (i : Int)), (10, zB (decide ((i : Int) < (8 : Int)))), (4, .lptr 4 0)] [(4, [.str ((unitL.getD i u0).1), zI (((unitL.getD i u0).2 : Nat) : Int)])] M (bif (decide ((n.toNat : Int) > 0)) then (((n.toNat % ((unitL.getD i u0).2) : Nat) : Int) == 0) else false) ?_ ?_
      · skip
        refine zM (zI (n.toNat : Int)) ?_
        refine zr (zi (decide ((n.toNat : Int) > 0))) ?_
        refine zM (zB (decide ((n.toNat : Int) > 0))) ?_
        refine AOps.splitJ (t := 15) (b := decide ((n.toNat : Int) > 0)) (x := (((n.toNat % ((unitL.getD i u0).2) : Nat) : Int) == 0)) (y := false) rfl (fun h2 => ?_) (fun h2 => ?_)
        · skip
          have h2' : n.toNat > 0 := (by have hh := of_decide_eq_true h2; omega)
          clear h2
          refine zM (zI (n.toNat : Int)) ?_
          refine zr (zfL Tryz.underlying85 sizeOf_3) ?_
          refine zr (zlL (zI (((unitL.getD i u0).2 : Nat) : Int)) Tryz.underlying3 sizeOf_3) ?_
          refine zr (Reader.rem rfl rfl rfl (by omega) (c := ((n.toNat % ((unitL.getD i u0).2) : Nat) : Int)) (nat_rem _ _)) ?_
          refine zr (zi (((n.toNat % ((unitL.getD i u0).2) : Nat) : Int) == 0)) ?_
          refine zr (zp true (zB (((n.toNat % ((unitL.getD i u0).2) : Nat) : Int) == 0))) ?_
          exact AOps.nil rfl
        · skip
          have h2' : ¬ (n.toNat > 0) := (by have hh := of_decide_eq_false h2; omega)
          clear h2
          refine zs ?_
          refine zs ?_
          refine zs ?_
          refine zs ?_
          refine zs ?_
          refine zr (zp false (zB false)) ?_
          exact AOps.nil rfl
      refine zC (b := bif (decide ((n.toNat : Int) > 0)) then (((n.toNat % ((unitL.getD i u0).2) : Nat) : Int) == 0) else false) rfl (fun h3 => ?_) (fun h3 => ?_)
      · skip
        have h3' : n.toNat > 0 ∧ n.toNat % (unitL.getD i u0).2 = 0 := (pr_t h3)
        clear h3
        refine AWp.seq (AWp.drawnAll (by kernel_rfl) (by kernel_rfl) ?_)
        refine ze (zm (zI (n.toNat : Int))) ?_
        refine ze (zfL Tryz.underlying85 sizeOf_3) ?_
        refine ze (zlL (zI (((unitL.getD i u0).2 : Nat) : Int)) Tryz.underlying3 sizeOf_3) ?_
        refine ze (Reader.quo rfl rfl rfl (by omega) (c := ((n.toNat / ((unitL.getD i u0).2) : Nat) : Int)) (by rw [nat_quo]; exact IntWalk.i64_in _ (by have hq := Nat.div_le_self n.toNat ((unitL.getD i u0).2); generalize n.toNat / ((unitL.getD i u0).2) = q at hq ⊢; omega))) ?_
        refine zcE [zI ((n.toNat / ((unitL.getD i u0).2) : Nat) : Int)] (.str (digs (n.toNat / ((unitL.getD i u0).2)))) Tryz.call53 (itoa_any (n.toNat / ((unitL.getD i u0).2)) (by first | omega | (have hq := Nat.div_le_self n.toNat (unitL.getD i u0).2; omega)) noM) ?_
        refine ze (zfL Tryz.underlying85 sizeOf_9) ?_
        refine ze (zlL (.str ((unitL.getD i u0).1)) Tryz.underlying9 sizeOf_9) ?_
        refine ze (Reader.cat rfl rfl rfl (by first | omega | (simp only [List.length_append, List.length_cons, List.length_nil]; omega) | (simp; omega)) (c := (digs (n.toNat / ((unitL.getD i u0).2))) ++ ((unitL.getD i u0).1)) rfl) ?_
        refine ze (zm (.str ((digs (n.toNat / ((unitL.getD i u0).2))) ++ ((unitL.getD i u0).1)))) ?_
        refine AOpsE.nil ?_
        refine AWp.ret ?_
        exact ⟨.inl rfl, _, ResOf.one 2 (.str ((digs (n.toNat / ((unitL.getD i u0).2))) ++ ((unitL.getD i u0).1))) rfl rfl, ⟨congrArg AV.str (print_some (by omega) hno (by assumption)), rfl⟩⟩
      · skip
        have h3' : ¬ (n.toNat > 0 ∧ n.toNat % (unitL.getD i u0).2 = 0) := (pr_f h3)
        clear h3
        refine AWp.skip ?_
        refine AWp.region ?_
        refine zr (zw ((i : Int) + 1) ((i + 1 : Nat) : Int)) ?_
        refine zM (zI ((i + 1 : Nat) : Int)) ?_
        refine zN ?_
        exact ⟨_, by omega, i + 1, rfl, rfl, by omega, nx_0 hno (by assumption)⟩
    · skip
      have h1' : ¬ (i < 8) := (by have hh := of_decide_eq_false h1; omega)
      clear h1
      refine AWp.exit ?_
      refine zg ?_
      refine zM (zI (n.toNat : Int)) ?_
      refine zc [zI (n.toNat : Int)] Tryz.call53 (itoa_any n.toNat (by first | omega | (have hq := Nat.div_le_self n.toNat (unitL.getD i u0).2; omega)) M) ?_
      rintro _ _ ⟨rfl, rfl⟩
      refine zM (.str (digs n.toNat)) ?_
      refine zN ?_
      refine AWp.ret ?_
      exact ⟨.inl rfl, _, ResOf.one 2 (.str (digs n.toNat)) rfl rfl, ⟨congrArg AV.str (print_none hno (by omega)), rfl⟩⟩

set_option maxRecDepth 20000 in
theorem rPrint_any (n : Nat) (hn : n ≤ 9223372036854775807) (M : Nat → Option (List AV)) : ACall Tryz.prog 39 [zI (n : Int)] M (fun r M' => r = .str (printV n) ∧ M = M') := by
  refine ACall.of Tryz.func39 rfl (n := 32) rfl rfl rfl ?_
  refine zg ?_
  refine zM (.str []) ?_
  refine zN ?_
  refine AWp.seq ?_
  refine zg ?_
  refine zM (zI (n : Int)) ?_
  refine zr (zi (decide ((n : Int) ≤ 0))) ?_
  refine zN ?_
  refine zC (b := decide ((n : Int) ≤ 0)) rfl (fun h1 => ?_) (fun h1 => ?_)
  · skip
    have h1' : n ≤ 0 := (by have hh := of_decide_eq_true h1; omega)
    clear h1
    refine zg ?_
    refine zM (.str [48]) ?_
    refine zN ?_
    refine AWp.ret ?_
    exact ⟨.inl rfl, _, ResOf.one 2 (.str [48]) rfl rfl, ⟨congrArg AV.str (rprint_0 (by omega)), rfl⟩⟩
  · skip
    have h1' : ¬ (n ≤ 0) := (by have hh := of_decide_eq_false h1; omega)
    clear h1
    refine AWp.skip ?_
    refine zg ?_
    refine zM (.str []) ?_
    refine zN ?_
    refine zg ?_
    refine zc [] Tryz.call59 (names_any M) ?_
    rintro _ _ ⟨rfl, rfl⟩
    refine zT (v := .list true 9 (namesL.map AV.str)) rfl ?_
    refine zN ?_
    refine AWp.seq ?_
    refine zg ?_
    refine zM (zI 7) ?_
    refine zN ?_
    refine AWp.block ?_
    refine AWp.loopE [0, 3, 4, 5] [] (fun m s => ∃ (i : Int), m = (i + 1).toNat ∧ s = ⟨[(0, zI (n : Int)), (3, .str (bst n (i + 1).toNat)), (4, .list true 9 (namesL.map AV.str)), (5, zI i)], [], M⟩ ∧ (-1 ≤ i) ∧ (i ≤ 7) ∧ (¬ n ≤ 0)) ?_ ?_
    · exact ⟨_, 7, rfl, rfl, by omega, by omega, by assumption⟩
    · rintro _ _ ⟨i, rfl, rfl, hi1, hi7, hn0⟩
      have hun := nm_unit (j := i.toNat)
      have hb0 := bst_pos n (i + 1).toNat
      have hb2 := bst_len n (i + 1).toNat
      have hdl := digs_len20 (n / unitOf (bst n (i + 1).toNat)) (Nat.le_trans (Nat.div_le_self _ _) hn)
      refine AWp.seq ?_
      refine zg ?_
      refine zM (zI i) ?_
      refine zr (zi (decide (i ≥ 0))) ?_
      refine zN ?_
      refine zC (b := decide (i ≥ 0)) rfl (fun h2 => ?_) (fun h2 => ?_)
      · skip
        have h2' : i ≥ 0 := (by have hh := of_decide_eq_true h2; omega)
        clear h2
        refine AWp.skip ?_
        refine AWp.seq ?_
        refine AWp.block ?_
        refine zg ?_
        refine zM (zI (n : Int)) ?_
        refine zM (.list false 9 (namesL.map AV.str)) ?_
        refine zM (zI i) ?_
        refine zr (Reader.elemAddr (m := i.toNat) rfl Tryz.underlying38 sizeOf_9 rfl rfl (by omega) (e := .str (namesL.getD i.toNat [])) (name_at (by omega))) ?_
        refine zr (zlE (.str (namesL.getD i.toNat [])) Tryz.underlying9 sizeOf_9) ?_
        refine zc [.str (namesL.getD i.toNat [])] Tryz.call51 (rUnit_any (namesL.getD i.toNat []) M) ?_
        rintro _ _ ⟨rfl, rfl⟩
        refine zr (Reader.rem rfl rfl rfl (by omega) (c := ((n % (unitOf (namesL.getD i.toNat [])) : Nat) : Int)) (nat_rem _ _)) ?_
        refine zr (zi (((n % (unitOf (namesL.getD i.toNat [])) : Nat) : Int) == 0)) ?_
        refine zN ?_
        refine zC (b := ((n % (unitOf (namesL.getD i.toNat [])) : Nat) : Int) == 0) rfl (fun h3 => ?_) (fun h3 => ?_)
        · skip
          have h3' : (n % (unitOf (namesL.getD i.toNat []))) = 0 := (by have hh := eq_of_beq h3; omega)
          clear h3
          refine AWp.region ?_
          refine zM (.list false 9 (namesL.map AV.str)) ?_
          refine zM (zI i) ?_
          refine zr (Reader.elemAddr (m := i.toNat) rfl Tryz.underlying38 sizeOf_9 rfl rfl (by omega) (e := .str (namesL.getD i.toNat [])) (name_at (by omega))) ?_
          refine zr (zlE (.str (namesL.getD i.toNat [])) Tryz.underlying9 sizeOf_9) ?_
          refine zM (.str (namesL.getD i.toNat [])) ?_
          refine zN ?_
          refine AWp.region ?_
          refine zM (zI i) ?_
          refine zr (zw (i - 1) (i - 1)) ?_
          refine zM (zI (i - 1)) ?_
          refine zN ?_
          first | exact ⟨_, by omega, i - 1, rfl, (by rw [bst_yes (i := i) (by omega) (by omega) (by assumption)]; rfl), by omega, by omega, hn0⟩ | exact ⟨_, by omega, i - 1, rfl, (by rw [bst_no (i := i) (by omega) (by omega) (by assumption)]; rfl), by omega, by omega, hn0⟩
        · skip
          have h3' : ¬ ((n % (unitOf (namesL.getD i.toNat []))) = 0) := (by have hh := beq_eq_false_iff_ne.1 h3; omega)
          clear h3
          refine AWp.skip ?_
          refine AWp.region ?_
          refine zM (zI i) ?_
          refine zr (zw (i - 1) (i - 1)) ?_
          refine zM (zI (i - 1)) ?_
          refine zN ?_
          first | exact ⟨_, by omega, i - 1, rfl, (by rw [bst_yes (i := i) (by omega) (by omega) (by assumption)]; rfl), by omega, by omega, hn0⟩ | exact ⟨_, by omega, i - 1, rfl, (by rw [bst_no (i := i) (by omega) (by omega) (by assumption)]; rfl), by omega, by omega, hn0⟩
      · skip
        have h2' : ¬ (i ≥ 0) := (by have hh := of_decide_eq_false h2; omega)
        clear h2
        refine AWp.exit ?_
        refine zg ?_
        refine zM (zI (n : Int)) ?_
        refine zM (.str (bst n (i + 1).toNat)) ?_
        refine zc [.str (bst n (i + 1).toNat)] Tryz.call51 (rUnit_any (bst n (i + 1).toNat) M) ?_
        rintro _ _ ⟨rfl, rfl⟩
        refine zr (Reader.quo rfl rfl rfl (by omega) (c := ((n / (unitOf (bst n (i + 1).toNat)) : Nat) : Int)) (by rw [nat_quo]; exact IntWalk.i64_in _ (by have hq := Nat.div_le_self n (unitOf (bst n (i + 1).toNat)); generalize n / (unitOf (bst n (i + 1).toNat)) = q at hq ⊢; omega))) ?_
        refine zc [zI ((n / (unitOf (bst n (i + 1).toNat)) : Nat) : Int)] Tryz.call60 (Digits_any (n / (unitOf (bst n (i + 1).toNat))) (Nat.le_trans (Nat.div_le_self _ _) hn) M) ?_
        rintro _ _ ⟨rfl, rfl⟩
        refine zM (.str (bst n (i + 1).toNat)) ?_
        refine zr (Reader.cat rfl rfl rfl (by first | omega | (simp only [List.length_append, List.length_cons, List.length_nil]; omega) | (simp; omega)) (c := (digs (n / (unitOf (bst n (i + 1).toNat)))) ++ (bst n (i + 1).toNat)) rfl) ?_
        refine zM (.str ((digs (n / (unitOf (bst n (i + 1).toNat)))) ++ (bst n (i + 1).toNat))) ?_
        refine zN ?_
        refine AWp.ret ?_
        exact ⟨.inl rfl, _, ResOf.one 2 (.str ((digs (n / (unitOf (bst n (i + 1).toNat)))) ++ (bst n (i + 1).toNat))) rfl rfl, ⟨congrArg AV.str (rprint_ok (by assumption) (by omega)), rfl⟩⟩
end
section
open Go.RowKit

theorem zz_iff {a b : Int} : ((a == 0) = (b == 0)) ↔ (a = 0 ↔ b = 0) := by rw [Bool.eq_iff_iff, beq_iff_eq, beq_iff_eq]
/-- The signals' words, in order. -/
def sigL : List (List UInt8) := [w0L, w1L, w2L]
theorem strs_at {ws : List (List UInt8)} {i : Nat} (h : i < ws.length) : (ws.map AV.str)[i]? = some (.str (ws.getD i [])) := by
  rw [List.getElem?_map, List.getD_eq_getElem?_getD, List.getElem?_eq_getElem h]; rfl
theorem idx_none {ws : List (List UInt8)} {t : List UInt8} {i : Nat} (hno : ∀ j, j < i → ws.getD j [] ≠ t) (hi : ws.length ≤ i) : idxL ws t = -1 := by
  unfold idxL
  have : ws.findIdx? (· == t) = none := by
    rw [List.findIdx?_eq_none_iff]
    intro x hx
    obtain ⟨j, hj, rfl⟩ := List.mem_iff_getElem.1 hx
    have := hno j (by omega)
    rw [List.getD_eq_getElem?_getD, List.getElem?_eq_getElem hj] at this
    exact beq_eq_false_iff_ne.2 this
  rw [this]
theorem idx_some {ws : List (List UInt8)} {t : List UInt8} {i : Nat} (hi : i < ws.length) (hno : ∀ j, j < i → ws.getD j [] ≠ t) (he : t = ws.getD i []) : idxL ws t = (i : Int) := by
  unfold idxL
  have : ws.findIdx? (· == t) = some i := by
    rw [List.findIdx?_eq_some_iff_getElem]
    refine ⟨hi, ?_, fun j hj => ?_⟩
    · rw [List.getD_eq_getElem?_getD, List.getElem?_eq_getElem hi] at he
      exact beq_iff_eq.2 he.symm
    · have := hno j hj
      rw [List.getD_eq_getElem?_getD, List.getElem?_eq_getElem (by omega)] at this
      simp only [Bool.not_eq_true]
      exact beq_eq_false_iff_ne.2 this
  rw [this]
theorem sig_idx (t : List UInt8) : idxL sigL t = sigOf t := by
  unfold idxL sigL sigOf
  by_cases h0 : t = w0L
  · subst h0; rfl
  · by_cases h1 : t = w1L
    · subst h1; rfl
    · by_cases h2 : t = w2L
      · subst h2; rfl
      · rw [if_neg h0, if_neg h1, if_neg h2]
        simp [Ne.symm h0, Ne.symm h1, Ne.symm h2, List.findIdx?_cons]

set_option maxRecDepth 20000 in
theorem Index_any (ws : List (List UInt8)) (t : List UInt8) (hw : ws.length ≤ 140737488355328) (M : Nat → Option (List AV)) : ACall Tryz.prog 75 [.list false 9 (ws.map AV.str), .str t] M (fun r M' => r = zI (idxL ws t) ∧ M = M') := by
  refine ACall.of Tryz.func75 rfl (n := 19) rfl rfl rfl ?_
  refine zg ?_
  refine zM (zI 0) ?_
  refine zN ?_
  refine AWp.seq ?_
  refine zg ?_
  refine zM (.list false 9 (ws.map AV.str)) ?_
  refine zr (zL (ws.map AV.str) ws.length Tryz.underlying38 (by simp)) ?_
  refine zM (zI 0) ?_
  refine zN ?_
  refine AWp.block ?_
  refine AWp.loopE [0, 1, 6, 7, 8] [] (fun m s => ∃ (i : Nat), m = ws.length - i ∧ s = ⟨[(0, .list false 9 (ws.map AV.str)), (1, .str t), (6, .list false 9 (ws.map AV.str)), (7, zI (ws.length : Int)), (8, zI (i : Int))], [], M⟩ ∧ (i ≤ ws.length) ∧ (∀ j, j < i → ws.getD j [] ≠ t)) ?_ ?_
  · exact ⟨_, 0, rfl, rfl, Nat.zero_le _, fun j hj => by omega⟩
  · rintro _ _ ⟨i, rfl, rfl, hi, hno⟩
    refine zg ?_
    refine zr (zi (decide ((i : Int) < (ws.length : Int)))) ?_
    refine zN ?_
    refine AWp.seq ?_
    refine zC (b := decide ((i : Int) < (ws.length : Int))) rfl (fun h1 => ?_) (fun h1 => ?_)
    · skip
      have h1' : i < ws.length := (by have hh := of_decide_eq_true h1; omega)
      clear h1
      refine AWp.skip ?_
      refine AWp.seq ?_
      refine AWp.block ?_
      refine zg ?_
      refine zM (zI (i : Int)) ?_
      refine zM (zI (i : Int)) ?_
      refine zN ?_
      refine zg ?_
      refine zM (.str t) ?_
      refine zM (.list false 9 (ws.map AV.str)) ?_
      refine zM (zI (i : Int)) ?_
      refine zr (zel i (.str (ws.getD i [])) Tryz.underlying38 sizeOf_9 (strs_at (by first | omega | (show _ < 0; omega)))) ?_
      refine zr (zlE (.str (ws.getD i [])) Tryz.underlying9 sizeOf_9) ?_
      refine zr (zt (t == (ws.getD i []))) ?_
      refine zN ?_
      refine zC (b := t == (ws.getD i [])) rfl (fun h2 => ?_) (fun h2 => ?_)
      · skip
        have h2' : t = (ws.getD i []) := (eq_of_beq h2)
        clear h2
        refine zg ?_
        refine zM (zI (i : Int)) ?_
        refine zM (zI (i : Int)) ?_
        refine zN ?_
        refine AWp.ret ?_
        exact ⟨.inl rfl, _, ResOf.one 4 (zI (i : Int)) rfl rfl, ⟨congrArg (fun x : Int => AV.lit (.int .i64 x)) ((idx_some (by omega) hno (by assumption)).symm), rfl⟩⟩
      · skip
        have h2' : ¬ (t = (ws.getD i [])) := (beq_eq_false_iff_ne.1 h2)
        clear h2
        refine AWp.skip ?_
        refine AWp.region ?_
        refine zr (zw ((i : Int) + 1) ((i + 1 : Nat) : Int)) ?_
        refine zM (zI ((i + 1 : Nat) : Int)) ?_
        refine zN ?_
        exact ⟨_, by omega, i + 1, rfl, rfl, by omega, nx_0 hno (fun e => (by assumption : ¬ t = (ws.getD i [])) e.symm)⟩
    · skip
      have h1' : ¬ (i < ws.length) := (by have hh := of_decide_eq_false h1; omega)
      clear h1
      refine AWp.exit ?_
      refine zg ?_
      refine zM (zI (-1)) ?_
      refine zN ?_
      refine AWp.ret ?_
      exact ⟨.inl rfl, _, ResOf.one 4 (zI (-1)) rfl rfl, ⟨congrArg (fun x : Int => AV.lit (.int .i64 x)) ((idx_none hno (by omega)).symm), rfl⟩⟩

set_option maxRecDepth 20000 in
theorem twords_any  (M : Nat → Option (List AV)) : ACall Tryz.prog 54 [] M (fun r M' => r = .list true 9 (sigL.map AV.str) ∧ M = M') := by
  refine ACall.of Tryz.func54 rfl (n := 2) rfl rfl rfl ?_
  refine zg ?_
  refine AOps.nilList 9 trivial rfl (by decide) (.inl rfl) ?_
  refine zN ?_
  refine zg ?_
  refine zbS [] [.str [109, 101, 109, 111, 114, 121], .str [100, 105, 115, 107], .str [112, 105, 100]] Tryz.underlying38 Tryz.i9 ?_
  refine zT (v := .list true 9 [.str [109, 101, 109, 111, 114, 121], .str [100, 105, 115, 107], .str [112, 105, 100]]) rfl ?_
  refine zN ?_
  refine AWp.ret ?_
  exact ⟨.inl rfl, _, ResOf.one 0 (.list true 9 [.str [109, 101, 109, 111, 114, 121], .str [100, 105, 115, 107], .str [112, 105, 100]]) rfl rfl, ⟨rfl, rfl⟩⟩

set_option maxRecDepth 20000 in
theorem Signal_any (t : List UInt8) (M : Nat → Option (List AV)) : ACall Tryz.prog 63 [.str t] M (fun r M' => r = .tuple [zI ((sigOf t).toNat : Int), zB (decide (sigOf t ≥ 0))] ∧ M = M') := by
  have hsr := sig_range t
  rw [← sig_idx] at hsr
  refine ACall.of Tryz.func63 rfl (n := 12) rfl rfl rfl ?_
  refine zg ?_
  refine zM (zI 0) ?_
  refine zM (zB false) ?_
  refine zN ?_
  refine zg ?_
  refine zc [] Tryz.call54 (twords_any M) ?_
  rintro _ _ ⟨rfl, rfl⟩
  refine zM (.str t) ?_
  refine zc [.list false 9 (sigL.map AV.str), .str t] Tryz.call75 (Index_any sigL t (by decide) M) ?_
  rintro _ _ ⟨rfl, rfl⟩
  refine zM (zI (idxL sigL t)) ?_
  refine zN ?_
  refine zg ?_
  refine zM (zI (idxL sigL t)) ?_
  refine zr (Reader.maxI rfl rfl rfl rfl rfl (m := (((idxL sigL t).toNat : Nat) : Int)) (by omega)) ?_
  refine zM (zI (idxL sigL t)) ?_
  refine zr (zi (decide (idxL sigL t ≥ 0))) ?_
  refine zM (zI (((idxL sigL t).toNat : Nat) : Int)) ?_
  refine zM (zB (decide (idxL sigL t ≥ 0))) ?_
  refine zN ?_
  refine AWp.ret ?_
  exact ⟨.inl rfl, _, ResOf.two 2 3 (zI (((idxL sigL t).toNat : Nat) : Int)) (zB (decide (idxL sigL t ≥ 0))) rfl rfl (.inl rfl) (.inl rfl) (by decide), ⟨by rw [sig_idx], rfl⟩⟩

set_option maxRecDepth 20000 in
theorem Right_any (u : Thr) (M : Nat → Option (List AV)) : ACall Tryz.prog 36 [encT u] M (fun r M' => r = zB (decide (RightT u)) ∧ M = M') := by
  refine ACall.of Tryz.func36 rfl (n := 64) rfl rfl rfl ?_
  refine zg ?_
  refine AOps.box trivial rfl (by decide) rfl (noL rfl) rfl (v := encT u) (.inl ⟨rfl, rfl⟩) rfl rfl (all_flat rfl) ?_
  refine zM (zB false) ?_
  refine zN ?_
  refine AWp.seq ?_
  refine zj 13 [(0, encT u), (1, .lptr 1 0), (2, zB false)] [(1, [zI u.sig, zI u.pct, zI u.amt, zB u.soft, zI u.gr])] M (bif (decide (u.sig < 0)) then true else (decide (u.sig ≥ 3))) ?_ ?_
  · skip
    refine zr (zfL Tryz.underlying40 sizeOf_3) ?_
    refine zr (zlL (zI u.sig) Tryz.underlying3 sizeOf_3) ?_
    refine zr (zi (decide (u.sig < 0))) ?_
    refine zM (zB (decide (u.sig < 0))) ?_
    refine AOps.splitJ (t := 9) (b := decide (u.sig < 0)) (x := true) (y := (decide (u.sig ≥ 3))) rfl (fun h1 => ?_) (fun h1 => ?_)
    · skip
      have h1' : u.sig < 0 := (by have hh := of_decide_eq_true h1; omega)
      clear h1
      refine zs ?_
      refine zs ?_
      refine zs ?_
      refine zr (zp true (zB true)) ?_
      exact AOps.nil rfl
    · skip
      have h1' : ¬ (u.sig < 0) := (by have hh := of_decide_eq_false h1; omega)
      clear h1
      refine zr (zfL Tryz.underlying40 sizeOf_3) ?_
      refine zr (zlL (zI u.sig) Tryz.underlying3 sizeOf_3) ?_
      refine zr (zi (decide (u.sig ≥ 3))) ?_
      refine zr (zp false (zB (decide (u.sig ≥ 3)))) ?_
      exact AOps.nil rfl
  refine zC (b := bif (decide (u.sig < 0)) then true else (decide (u.sig ≥ 3))) rfl (fun h2 => ?_) (fun h2 => ?_)
  · skip
    refine zg ?_
    refine zM (zB false) ?_
    refine zN ?_
    refine AWp.ret ?_
    exact ⟨.inl rfl, _, ResOf.one 2 (zB false) rfl rfl, ⟨congrArg (fun b => AV.lit (.bool b)) (by refine Bool.eq_iff_iff.2 (Iff.trans ?_ decide_eq_true_iff.symm); unfold RightT; rcases Bool.eq_false_or_eq_true u.soft with hs | hs <;> simp [hs, Bool.cond_eq_ite] at * <;> first | omega | (split <;> omega) | (simp only [zz_iff] at *; omega)), rfl⟩⟩
  · skip
    refine AWp.skip ?_
    refine zj 3 [(13, zB (bif (decide (u.sig < 0)) then true else (decide (u.sig ≥ 3)))), (0, encT u), (1, .lptr 1 0), (2, zB false)] [(1, [zI u.sig, zI u.pct, zI u.amt, zB u.soft, zI u.gr])] M (bif (decide (u.pct ≥ 1)) then (bif (decide (u.pct ≤ 100)) then (u.amt == 0) else false) else false) ?_ ?_
    · skip
      refine zr (zfL Tryz.underlying40 sizeOf_3) ?_
      refine zr (zlL (zI u.pct) Tryz.underlying3 sizeOf_3) ?_
      refine zr (zi (decide (u.pct ≥ 1))) ?_
      refine zM (zB (decide (u.pct ≥ 1))) ?_
      refine AOps.splitJ (t := 17) (b := decide (u.pct ≥ 1)) (x := (bif (decide (u.pct ≤ 100)) then (u.amt == 0) else false)) (y := false) rfl (fun h3 => ?_) (fun h3 => ?_)
      · skip
        have h3' : u.pct ≥ 1 := (by have hh := of_decide_eq_true h3; omega)
        clear h3
        refine zr (zfL Tryz.underlying40 sizeOf_3) ?_
        refine zr (zlL (zI u.pct) Tryz.underlying3 sizeOf_3) ?_
        refine zr (zi (decide (u.pct ≤ 100))) ?_
        refine zr (zp true (zB (decide (u.pct ≤ 100)))) ?_
        refine zM (zB (decide (u.pct ≤ 100))) ?_
        refine AOps.splitJ (t := 22) (b := decide (u.pct ≤ 100)) (x := (u.amt == 0)) (y := false) rfl (fun h4 => ?_) (fun h4 => ?_)
        · skip
          have h4' : u.pct ≤ 100 := (by have hh := of_decide_eq_true h4; omega)
          clear h4
          refine zr (zfL Tryz.underlying40 sizeOf_3) ?_
          refine zr (zlL (zI u.amt) Tryz.underlying3 sizeOf_3) ?_
          refine zr (zi (u.amt == 0)) ?_
          refine zr (zp true (zB (u.amt == 0))) ?_
          refine zM (zB (u.amt == 0)) ?_
          exact AOps.nil rfl
        · skip
          have h4' : ¬ (u.pct ≤ 100) := (by have hh := of_decide_eq_false h4; omega)
          clear h4
          refine zs ?_
          refine zs ?_
          refine zs ?_
          refine zr (zp false (zB false)) ?_
          refine zM (zB false) ?_
          exact AOps.nil rfl
      · skip
        have h3' : ¬ (u.pct ≥ 1) := (by have hh := of_decide_eq_false h3; omega)
        clear h3
        refine zs ?_
        refine zs ?_
        refine zs ?_
        refine zr (zp false (zB false)) ?_
        refine zM (zB false) ?_
        refine zs ?_
        refine zs ?_
        refine zs ?_
        refine zr (zp false (zB false)) ?_
        refine zM (zB false) ?_
        exact AOps.nil rfl
    refine zj 4 [(3, zB (bif (decide (u.pct ≥ 1)) then (bif (decide (u.pct ≤ 100)) then (u.amt == 0) else false) else false)), (13, zB (bif (decide (u.sig < 0)) then true else (decide (u.sig ≥ 3)))), (0, encT u), (1, .lptr 1 0), (2, zB false)] [(1, [zI u.sig, zI u.pct, zI u.amt, zB u.soft, zI u.gr])] M (bif (u.pct == 0) then (decide (u.amt > 0)) else false) ?_ ?_
    · skip
      refine zr (zfL Tryz.underlying40 sizeOf_3) ?_
      refine zr (zlL (zI u.pct) Tryz.underlying3 sizeOf_3) ?_
      refine zr (zi (u.pct == 0)) ?_
      refine zM (zB (u.pct == 0)) ?_
      refine AOps.splitJ (t := 30) (b := u.pct == 0) (x := (decide (u.amt > 0))) (y := false) rfl (fun h5 => ?_) (fun h5 => ?_)
      · skip
        have h5' : u.pct = 0 := (by have hh := eq_of_beq h5; omega)
        clear h5
        refine zr (zfL Tryz.underlying40 sizeOf_3) ?_
        refine zr (zlL (zI u.amt) Tryz.underlying3 sizeOf_3) ?_
        refine zr (zi (decide (u.amt > 0))) ?_
        refine zr (zp true (zB (decide (u.amt > 0)))) ?_
        refine zM (zB (decide (u.amt > 0))) ?_
        exact AOps.nil rfl
      · skip
        have h5' : ¬ (u.pct = 0) := (by have hh := beq_eq_false_iff_ne.1 h5; omega)
        clear h5
        refine zs ?_
        refine zs ?_
        refine zs ?_
        refine zr (zp false (zB false)) ?_
        refine zM (zB false) ?_
        exact AOps.nil rfl
    refine zj 5 [(4, zB (bif (u.pct == 0) then (decide (u.amt > 0)) else false)), (3, zB (bif (decide (u.pct ≥ 1)) then (bif (decide (u.pct ≤ 100)) then (u.amt == 0) else false) else false)), (13, zB (bif (decide (u.sig < 0)) then true else (decide (u.sig ≥ 3)))), (0, encT u), (1, .lptr 1 0), (2, zB false)] [(1, [zI u.sig, zI u.pct, zI u.amt, zB u.soft, zI u.gr])] M (bif u.soft then (bif (decide (u.gr ≥ 1)) then (bif (decide (u.gr ≤ 1000)) then true else (bif (!u.soft) then (u.gr == 0) else false)) else (bif (!u.soft) then (u.gr == 0) else false)) else (bif (!u.soft) then (u.gr == 0) else false)) ?_ ?_
    · skip
      refine zr (zfL Tryz.underlying40 sizeOf_4) ?_
      refine zr (zlL (zB u.soft) Tryz.underlying4 sizeOf_4) ?_
      refine zM (zB u.soft) ?_
      refine AOps.splitJ (t := 37) (b := u.soft) (x := (bif (decide (u.gr ≥ 1)) then (bif (decide (u.gr ≤ 1000)) then true else (bif (!u.soft) then (u.gr == 0) else false)) else (bif (!u.soft) then (u.gr == 0) else false))) (y := (bif (!u.soft) then (u.gr == 0) else false)) rfl (fun h6 => ?_) (fun h6 => ?_)
      · skip
        refine zr (zfL Tryz.underlying40 sizeOf_3) ?_
        refine zr (zlL (zI u.gr) Tryz.underlying3 sizeOf_3) ?_
        refine zr (zi (decide (u.gr ≥ 1))) ?_
        refine zr (zp true (zB (decide (u.gr ≥ 1)))) ?_
        refine zM (zB (decide (u.gr ≥ 1))) ?_
        refine AOps.splitJ (t := 42) (b := decide (u.gr ≥ 1)) (x := (bif (decide (u.gr ≤ 1000)) then true else (bif (!u.soft) then (u.gr == 0) else false))) (y := (bif (!u.soft) then (u.gr == 0) else false)) rfl (fun h7 => ?_) (fun h7 => ?_)
        · skip
          have h7' : u.gr ≥ 1 := (by have hh := of_decide_eq_true h7; omega)
          clear h7
          refine zr (zfL Tryz.underlying40 sizeOf_3) ?_
          refine zr (zlL (zI u.gr) Tryz.underlying3 sizeOf_3) ?_
          refine zr (zi (decide (u.gr ≤ 1000))) ?_
          refine zr (zp true (zB (decide (u.gr ≤ 1000)))) ?_
          refine zM (zB (decide (u.gr ≤ 1000))) ?_
          refine AOps.splitJ (t := 47) (b := decide (u.gr ≤ 1000)) (x := true) (y := (bif (!u.soft) then (u.gr == 0) else false)) rfl (fun h8 => ?_) (fun h8 => ?_)
          · skip
            have h8' : u.gr ≤ 1000 := (by have hh := of_decide_eq_true h8; omega)
            clear h8
            refine zs ?_
            refine zs ?_
            refine zs ?_
            refine zs ?_
            refine zs ?_
            refine zs ?_
            refine zs ?_
            refine zs ?_
            refine zr (zp true (zB true)) ?_
            refine zM (zB true) ?_
            exact AOps.nil rfl
          · skip
            have h8' : ¬ (u.gr ≤ 1000) := (by have hh := of_decide_eq_false h8; omega)
            clear h8
            refine zr (zfL Tryz.underlying40 sizeOf_4) ?_
            refine zr (zlL (zB u.soft) Tryz.underlying4 sizeOf_4) ?_
            refine zr (zn u.soft) ?_
            refine zM (zB (!u.soft)) ?_
            refine AOps.splitJ (t := 51) (b := !u.soft) (x := (u.gr == 0)) (y := false) rfl (fun h9 => ?_) (fun h9 => ?_)
            · skip
              refine zr (zfL Tryz.underlying40 sizeOf_3) ?_
              refine zr (zlL (zI u.gr) Tryz.underlying3 sizeOf_3) ?_
              refine zr (zi (u.gr == 0)) ?_
              refine zr (zp true (zB (u.gr == 0))) ?_
              refine zr (zp false (zB (u.gr == 0))) ?_
              refine zM (zB (u.gr == 0)) ?_
              exact AOps.nil rfl
            · skip
              refine zs ?_
              refine zs ?_
              refine zs ?_
              refine zr (zp false (zB false)) ?_
              refine zr (zp false (zB false)) ?_
              refine zM (zB false) ?_
              exact AOps.nil rfl
        · skip
          have h7' : ¬ (u.gr ≥ 1) := (by have hh := of_decide_eq_false h7; omega)
          clear h7
          refine zs ?_
          refine zs ?_
          refine zs ?_
          refine zr (zp false (zB false)) ?_
          refine zM (zB false) ?_
          refine zr (zfL Tryz.underlying40 sizeOf_4) ?_
          refine zr (zlL (zB u.soft) Tryz.underlying4 sizeOf_4) ?_
          refine zr (zn u.soft) ?_
          refine zM (zB (!u.soft)) ?_
          refine AOps.splitJ (t := 51) (b := !u.soft) (x := (u.gr == 0)) (y := false) rfl (fun h10 => ?_) (fun h10 => ?_)
          · skip
            refine zr (zfL Tryz.underlying40 sizeOf_3) ?_
            refine zr (zlL (zI u.gr) Tryz.underlying3 sizeOf_3) ?_
            refine zr (zi (u.gr == 0)) ?_
            refine zr (zp true (zB (u.gr == 0))) ?_
            refine zr (zp false (zB (u.gr == 0))) ?_
            refine zM (zB (u.gr == 0)) ?_
            exact AOps.nil rfl
          · skip
            refine zs ?_
            refine zs ?_
            refine zs ?_
            refine zr (zp false (zB false)) ?_
            refine zr (zp false (zB false)) ?_
            refine zM (zB false) ?_
            exact AOps.nil rfl
      · skip
        refine zs ?_
        refine zs ?_
        refine zs ?_
        refine zr (zp false (zB false)) ?_
        refine zM (zB false) ?_
        refine zs ?_
        refine zs ?_
        refine zs ?_
        refine zr (zp false (zB false)) ?_
        refine zM (zB false) ?_
        refine zr (zfL Tryz.underlying40 sizeOf_4) ?_
        refine zr (zlL (zB u.soft) Tryz.underlying4 sizeOf_4) ?_
        refine zr (zn u.soft) ?_
        refine zM (zB (!u.soft)) ?_
        refine AOps.splitJ (t := 51) (b := !u.soft) (x := (u.gr == 0)) (y := false) rfl (fun h11 => ?_) (fun h11 => ?_)
        · skip
          refine zr (zfL Tryz.underlying40 sizeOf_3) ?_
          refine zr (zlL (zI u.gr) Tryz.underlying3 sizeOf_3) ?_
          refine zr (zi (u.gr == 0)) ?_
          refine zr (zp true (zB (u.gr == 0))) ?_
          refine zr (zp false (zB (u.gr == 0))) ?_
          refine zM (zB (u.gr == 0)) ?_
          exact AOps.nil rfl
        · skip
          refine zs ?_
          refine zs ?_
          refine zs ?_
          refine zr (zp false (zB false)) ?_
          refine zr (zp false (zB false)) ?_
          refine zM (zB false) ?_
          exact AOps.nil rfl
    refine zj 2 [(5, zB (bif u.soft then (bif (decide (u.gr ≥ 1)) then (bif (decide (u.gr ≤ 1000)) then true else (bif (!u.soft) then (u.gr == 0) else false)) else (bif (!u.soft) then (u.gr == 0) else false)) else (bif (!u.soft) then (u.gr == 0) else false))), (4, zB (bif (u.pct == 0) then (decide (u.amt > 0)) else false)), (3, zB (bif (decide (u.pct ≥ 1)) then (bif (decide (u.pct ≤ 100)) then (u.amt == 0) else false) else false)), (13, zB (bif (decide (u.sig < 0)) then true else (decide (u.sig ≥ 3)))), (0, encT u), (1, .lptr 1 0)] [(1, [zI u.sig, zI u.pct, zI u.amt, zB u.soft, zI u.gr])] M (bif (bif (decide (u.pct ≥ 1)) then (bif (decide (u.pct ≤ 100)) then (u.amt == 0) else false) else false) then (bif u.soft then (bif (decide (u.gr ≥ 1)) then (bif (decide (u.gr ≤ 1000)) then true else (bif (!u.soft) then (u.gr == 0) else false)) else (bif (!u.soft) then (u.gr == 0) else false)) else (bif (!u.soft) then (u.gr == 0) else false)) else (bif (bif (u.pct == 0) then (decide (u.amt > 0)) else false) then (bif u.soft then (bif (decide (u.gr ≥ 1)) then (bif (decide (u.gr ≤ 1000)) then true else (bif (!u.soft) then (u.gr == 0) else false)) else (bif (!u.soft) then (u.gr == 0) else false)) else (bif (!u.soft) then (u.gr == 0) else false)) else false)) ?_ ?_
    · skip
      refine zM (zB (bif (decide (u.pct ≥ 1)) then (bif (decide (u.pct ≤ 100)) then (u.amt == 0) else false) else false)) ?_
      refine zM (zB (bif (decide (u.pct ≥ 1)) then (bif (decide (u.pct ≤ 100)) then (u.amt == 0) else false) else false)) ?_
      refine AOps.splitJ (t := 58) (b := bif (decide (u.pct ≥ 1)) then (bif (decide (u.pct ≤ 100)) then (u.amt == 0) else false) else false) (x := (bif u.soft then (bif (decide (u.gr ≥ 1)) then (bif (decide (u.gr ≤ 1000)) then true else (bif (!u.soft) then (u.gr == 0) else false)) else (bif (!u.soft) then (u.gr == 0) else false)) else (bif (!u.soft) then (u.gr == 0) else false))) (y := (bif (bif (u.pct == 0) then (decide (u.amt > 0)) else false) then (bif u.soft then (bif (decide (u.gr ≥ 1)) then (bif (decide (u.gr ≤ 1000)) then true else (bif (!u.soft) then (u.gr == 0) else false)) else (bif (!u.soft) then (u.gr == 0) else false)) else (bif (!u.soft) then (u.gr == 0) else false)) else false)) rfl (fun h12 => ?_) (fun h12 => ?_)
      · skip
        refine zs ?_
        refine zr (zp true (zB true)) ?_
        refine zM (zB true) ?_
        refine zM (zB (bif u.soft then (bif (decide (u.gr ≥ 1)) then (bif (decide (u.gr ≤ 1000)) then true else (bif (!u.soft) then (u.gr == 0) else false)) else (bif (!u.soft) then (u.gr == 0) else false)) else (bif (!u.soft) then (u.gr == 0) else false))) ?_
        refine zr (zp true (zB (bif u.soft then (bif (decide (u.gr ≥ 1)) then (bif (decide (u.gr ≤ 1000)) then true else (bif (!u.soft) then (u.gr == 0) else false)) else (bif (!u.soft) then (u.gr == 0) else false)) else (bif (!u.soft) then (u.gr == 0) else false)))) ?_
        refine zM (zB (bif u.soft then (bif (decide (u.gr ≥ 1)) then (bif (decide (u.gr ≤ 1000)) then true else (bif (!u.soft) then (u.gr == 0) else false)) else (bif (!u.soft) then (u.gr == 0) else false)) else (bif (!u.soft) then (u.gr == 0) else false))) ?_
        exact AOps.nil rfl
      · skip
        refine zM (zB (bif (u.pct == 0) then (decide (u.amt > 0)) else false)) ?_
        refine zr (zp false (zB (bif (u.pct == 0) then (decide (u.amt > 0)) else false))) ?_
        refine zM (zB (bif (u.pct == 0) then (decide (u.amt > 0)) else false)) ?_
        refine AOps.splitJ (t := 61) (b := bif (u.pct == 0) then (decide (u.amt > 0)) else false) (x := (bif u.soft then (bif (decide (u.gr ≥ 1)) then (bif (decide (u.gr ≤ 1000)) then true else (bif (!u.soft) then (u.gr == 0) else false)) else (bif (!u.soft) then (u.gr == 0) else false)) else (bif (!u.soft) then (u.gr == 0) else false))) (y := false) rfl (fun h13 => ?_) (fun h13 => ?_)
        · skip
          refine zM (zB (bif u.soft then (bif (decide (u.gr ≥ 1)) then (bif (decide (u.gr ≤ 1000)) then true else (bif (!u.soft) then (u.gr == 0) else false)) else (bif (!u.soft) then (u.gr == 0) else false)) else (bif (!u.soft) then (u.gr == 0) else false))) ?_
          refine zr (zp true (zB (bif u.soft then (bif (decide (u.gr ≥ 1)) then (bif (decide (u.gr ≤ 1000)) then true else (bif (!u.soft) then (u.gr == 0) else false)) else (bif (!u.soft) then (u.gr == 0) else false)) else (bif (!u.soft) then (u.gr == 0) else false)))) ?_
          refine zM (zB (bif u.soft then (bif (decide (u.gr ≥ 1)) then (bif (decide (u.gr ≤ 1000)) then true else (bif (!u.soft) then (u.gr == 0) else false)) else (bif (!u.soft) then (u.gr == 0) else false)) else (bif (!u.soft) then (u.gr == 0) else false))) ?_
          exact AOps.nil rfl
        · skip
          refine zs ?_
          refine zr (zp false (zB false)) ?_
          refine zM (zB false) ?_
          exact AOps.nil rfl
    refine AWp.ret ?_
    exact ⟨.inl rfl, _, ResOf.one 2 (zB (bif (bif (decide (u.pct ≥ 1)) then (bif (decide (u.pct ≤ 100)) then (u.amt == 0) else false) else false) then (bif u.soft then (bif (decide (u.gr ≥ 1)) then (bif (decide (u.gr ≤ 1000)) then true else (bif (!u.soft) then (u.gr == 0) else false)) else (bif (!u.soft) then (u.gr == 0) else false)) else (bif (!u.soft) then (u.gr == 0) else false)) else (bif (bif (u.pct == 0) then (decide (u.amt > 0)) else false) then (bif u.soft then (bif (decide (u.gr ≥ 1)) then (bif (decide (u.gr ≤ 1000)) then true else (bif (!u.soft) then (u.gr == 0) else false)) else (bif (!u.soft) then (u.gr == 0) else false)) else (bif (!u.soft) then (u.gr == 0) else false)) else false))) rfl rfl, ⟨congrArg (fun b => AV.lit (.bool b)) (by refine Bool.eq_iff_iff.2 (Iff.trans ?_ decide_eq_true_iff.symm); unfold RightT; rcases Bool.eq_false_or_eq_true u.soft with hs | hs <;> simp [hs, Bool.cond_eq_ite] at * <;> first | omega | (split <;> omega) | (simp only [zz_iff] at *; omega)), rfl⟩⟩

set_option maxRecDepth 20000 in
theorem rRight_any (u : Thr) (M : Nat → Option (List AV)) : ACall Tryz.prog 28 [encT u] M (fun r M' => r = zB (decide (RightT u)) ∧ M = M') := by
  refine ACall.of Tryz.func28 rfl (n := 46) rfl rfl rfl ?_
  refine zg ?_
  refine AOps.box trivial rfl (by decide) rfl (noL rfl) rfl (v := encT u) (.inl ⟨rfl, rfl⟩) rfl rfl (all_flat rfl) ?_
  refine zM (zB false) ?_
  refine zN ?_
  refine AWp.seq ?_
  refine zj 25 [(0, encT u), (1, .lptr 1 0), (2, zB false)] [(1, [zI u.sig, zI u.pct, zI u.amt, zB u.soft, zI u.gr])] M (bif (decide (u.sig < 0)) then true else (bif (decide (u.sig > 2)) then true else (bif (decide (u.pct < 0)) then true else (bif (decide (u.pct > 100)) then true else (decide (u.amt < 0)))))) ?_ ?_
  · skip
    refine zr (zfL Tryz.underlying40 sizeOf_3) ?_
    refine zr (zlL (zI u.sig) Tryz.underlying3 sizeOf_3) ?_
    refine zr (zi (decide (u.sig < 0))) ?_
    refine zM (zB (decide (u.sig < 0))) ?_
    refine AOps.splitJ (t := 6) (b := decide (u.sig < 0)) (x := true) (y := (bif (decide (u.sig > 2)) then true else (bif (decide (u.pct < 0)) then true else (bif (decide (u.pct > 100)) then true else (decide (u.amt < 0)))))) rfl (fun h1 => ?_) (fun h1 => ?_)
    · skip
      have h1' : u.sig < 0 := (by have hh := of_decide_eq_true h1; omega)
      clear h1
      refine zs ?_
      refine zs ?_
      refine zs ?_
      refine zr (zp true (zB true)) ?_
      refine zM (zB true) ?_
      refine zs ?_
      refine zs ?_
      refine zs ?_
      refine zr (zp true (zB true)) ?_
      refine zM (zB true) ?_
      refine zs ?_
      refine zs ?_
      refine zs ?_
      refine zr (zp true (zB true)) ?_
      refine zM (zB true) ?_
      refine zs ?_
      refine zs ?_
      refine zs ?_
      refine zr (zp true (zB true)) ?_
      exact AOps.nil rfl
    · skip
      have h1' : ¬ (u.sig < 0) := (by have hh := of_decide_eq_false h1; omega)
      clear h1
      refine zr (zfL Tryz.underlying40 sizeOf_3) ?_
      refine zr (zlL (zI u.sig) Tryz.underlying3 sizeOf_3) ?_
      refine zr (zi (decide (u.sig > 2))) ?_
      refine zr (zp false (zB (decide (u.sig > 2)))) ?_
      refine zM (zB (decide (u.sig > 2))) ?_
      refine AOps.splitJ (t := 11) (b := decide (u.sig > 2)) (x := true) (y := (bif (decide (u.pct < 0)) then true else (bif (decide (u.pct > 100)) then true else (decide (u.amt < 0))))) rfl (fun h2 => ?_) (fun h2 => ?_)
      · skip
        have h2' : u.sig > 2 := (by have hh := of_decide_eq_true h2; omega)
        clear h2
        refine zs ?_
        refine zs ?_
        refine zs ?_
        refine zr (zp true (zB true)) ?_
        refine zM (zB true) ?_
        refine zs ?_
        refine zs ?_
        refine zs ?_
        refine zr (zp true (zB true)) ?_
        refine zM (zB true) ?_
        refine zs ?_
        refine zs ?_
        refine zs ?_
        refine zr (zp true (zB true)) ?_
        exact AOps.nil rfl
      · skip
        have h2' : ¬ (u.sig > 2) := (by have hh := of_decide_eq_false h2; omega)
        clear h2
        refine zr (zfL Tryz.underlying40 sizeOf_3) ?_
        refine zr (zlL (zI u.pct) Tryz.underlying3 sizeOf_3) ?_
        refine zr (zi (decide (u.pct < 0))) ?_
        refine zr (zp false (zB (decide (u.pct < 0)))) ?_
        refine zM (zB (decide (u.pct < 0))) ?_
        refine AOps.splitJ (t := 16) (b := decide (u.pct < 0)) (x := true) (y := (bif (decide (u.pct > 100)) then true else (decide (u.amt < 0)))) rfl (fun h3 => ?_) (fun h3 => ?_)
        · skip
          have h3' : u.pct < 0 := (by have hh := of_decide_eq_true h3; omega)
          clear h3
          refine zs ?_
          refine zs ?_
          refine zs ?_
          refine zr (zp true (zB true)) ?_
          refine zM (zB true) ?_
          refine zs ?_
          refine zs ?_
          refine zs ?_
          refine zr (zp true (zB true)) ?_
          exact AOps.nil rfl
        · skip
          have h3' : ¬ (u.pct < 0) := (by have hh := of_decide_eq_false h3; omega)
          clear h3
          refine zr (zfL Tryz.underlying40 sizeOf_3) ?_
          refine zr (zlL (zI u.pct) Tryz.underlying3 sizeOf_3) ?_
          refine zr (zi (decide (u.pct > 100))) ?_
          refine zr (zp false (zB (decide (u.pct > 100)))) ?_
          refine zM (zB (decide (u.pct > 100))) ?_
          refine AOps.splitJ (t := 21) (b := decide (u.pct > 100)) (x := true) (y := (decide (u.amt < 0))) rfl (fun h4 => ?_) (fun h4 => ?_)
          · skip
            have h4' : u.pct > 100 := (by have hh := of_decide_eq_true h4; omega)
            clear h4
            refine zs ?_
            refine zs ?_
            refine zs ?_
            refine zr (zp true (zB true)) ?_
            exact AOps.nil rfl
          · skip
            have h4' : ¬ (u.pct > 100) := (by have hh := of_decide_eq_false h4; omega)
            clear h4
            refine zr (zfL Tryz.underlying40 sizeOf_3) ?_
            refine zr (zlL (zI u.amt) Tryz.underlying3 sizeOf_3) ?_
            refine zr (zi (decide (u.amt < 0))) ?_
            refine zr (zp false (zB (decide (u.amt < 0)))) ?_
            exact AOps.nil rfl
  refine zC (b := bif (decide (u.sig < 0)) then true else (bif (decide (u.sig > 2)) then true else (bif (decide (u.pct < 0)) then true else (bif (decide (u.pct > 100)) then true else (decide (u.amt < 0)))))) rfl (fun h5 => ?_) (fun h5 => ?_)
  · skip
    refine zg ?_
    refine zM (zB false) ?_
    refine zN ?_
    refine AWp.ret ?_
    exact ⟨.inl rfl, _, ResOf.one 2 (zB false) rfl rfl, ⟨congrArg (fun b => AV.lit (.bool b)) (by refine Bool.eq_iff_iff.2 (Iff.trans ?_ decide_eq_true_iff.symm); unfold RightT; rcases Bool.eq_false_or_eq_true u.soft with hs | hs <;> simp [hs, Bool.cond_eq_ite] at * <;> first | omega | (split <;> omega) | (simp only [zz_iff] at *; omega)), rfl⟩⟩
  · skip
    refine AWp.skip ?_
    refine AWp.seq ?_
    refine zg ?_
    refine zr (zfL Tryz.underlying40 sizeOf_3) ?_
    refine zr (zlL (zI u.pct) Tryz.underlying3 sizeOf_3) ?_
    refine zr (zi (u.pct == 0)) ?_
    refine zr (zfL Tryz.underlying40 sizeOf_3) ?_
    refine zr (zlL (zI u.amt) Tryz.underlying3 sizeOf_3) ?_
    refine zr (zi (u.amt == 0)) ?_
    refine zr (Reader.bools (r := (u.pct == 0) == (u.amt == 0)) rfl Tryz.underlying4 rfl rfl (.inl ⟨rfl, rfl⟩)) ?_
    refine zN ?_
    refine zC (b := (u.pct == 0) == (u.amt == 0)) rfl (fun h6 => ?_) (fun h6 => ?_)
    · skip
      refine zg ?_
      refine zM (zB false) ?_
      refine zN ?_
      refine AWp.ret ?_
      exact ⟨.inl rfl, _, ResOf.one 2 (zB false) rfl rfl, ⟨congrArg (fun b => AV.lit (.bool b)) (by refine Bool.eq_iff_iff.2 (Iff.trans ?_ decide_eq_true_iff.symm); unfold RightT; rcases Bool.eq_false_or_eq_true u.soft with hs | hs <;> simp [hs, Bool.cond_eq_ite] at * <;> first | omega | (split <;> omega) | (simp only [zz_iff] at *; omega)), rfl⟩⟩
    · skip
      refine AWp.skip ?_
      refine AWp.seq ?_
      refine zg ?_
      refine zr (zfL Tryz.underlying40 sizeOf_4) ?_
      refine zr (zlL (zB u.soft) Tryz.underlying4 sizeOf_4) ?_
      refine zN ?_
      refine zC (b := u.soft) rfl (fun h7 => ?_) (fun h7 => ?_)
      · skip
        refine zj 2 [(25, zB (bif (decide (u.sig < 0)) then true else (bif (decide (u.sig > 2)) then true else (bif (decide (u.pct < 0)) then true else (bif (decide (u.pct > 100)) then true else (decide (u.amt < 0))))))), (0, encT u), (1, .lptr 1 0), (32, zB ((u.pct == 0) == (u.amt == 0))), (34, zB u.soft)] [(1, [zI u.sig, zI u.pct, zI u.amt, zB u.soft, zI u.gr])] M (bif (decide (u.gr ≥ 1)) then (decide (u.gr ≤ 1000)) else false) ?_ ?_
        · skip
          refine zr (zfL Tryz.underlying40 sizeOf_3) ?_
          refine zr (zlL (zI u.gr) Tryz.underlying3 sizeOf_3) ?_
          refine zr (zi (decide (u.gr ≥ 1))) ?_
          refine zM (zB (decide (u.gr ≥ 1))) ?_
          refine AOps.splitJ (t := 38) (b := decide (u.gr ≥ 1)) (x := (decide (u.gr ≤ 1000))) (y := false) rfl (fun h8 => ?_) (fun h8 => ?_)
          · skip
            have h8' : u.gr ≥ 1 := (by have hh := of_decide_eq_true h8; omega)
            clear h8
            refine zr (zfL Tryz.underlying40 sizeOf_3) ?_
            refine zr (zlL (zI u.gr) Tryz.underlying3 sizeOf_3) ?_
            refine zr (zi (decide (u.gr ≤ 1000))) ?_
            refine zr (zp true (zB (decide (u.gr ≤ 1000)))) ?_
            refine zM (zB (decide (u.gr ≤ 1000))) ?_
            exact AOps.nil rfl
          · skip
            have h8' : ¬ (u.gr ≥ 1) := (by have hh := of_decide_eq_false h8; omega)
            clear h8
            refine zs ?_
            refine zs ?_
            refine zs ?_
            refine zr (zp false (zB false)) ?_
            refine zM (zB false) ?_
            exact AOps.nil rfl
        refine AWp.ret ?_
        exact ⟨.inl rfl, _, ResOf.one 2 (zB (bif (decide (u.gr ≥ 1)) then (decide (u.gr ≤ 1000)) else false)) rfl rfl, ⟨congrArg (fun b => AV.lit (.bool b)) (by refine Bool.eq_iff_iff.2 (Iff.trans ?_ decide_eq_true_iff.symm); unfold RightT; rcases Bool.eq_false_or_eq_true u.soft with hs | hs <;> simp [hs, Bool.cond_eq_ite] at * <;> first | omega | (split <;> omega) | (simp only [zz_iff] at *; omega)), rfl⟩⟩
      · skip
        refine AWp.skip ?_
        refine zg ?_
        refine zr (zfL Tryz.underlying40 sizeOf_3) ?_
        refine zr (zlL (zI u.gr) Tryz.underlying3 sizeOf_3) ?_
        refine zr (zi (u.gr == 0)) ?_
        refine zM (zB (u.gr == 0)) ?_
        refine zN ?_
        refine AWp.ret ?_
        exact ⟨.inl rfl, _, ResOf.one 2 (zB (u.gr == 0)) rfl rfl, ⟨congrArg (fun b => AV.lit (.bool b)) (by refine Bool.eq_iff_iff.2 (Iff.trans ?_ decide_eq_true_iff.symm); unfold RightT; rcases Bool.eq_false_or_eq_true u.soft with hs | hs <;> simp [hs, Bool.cond_eq_ite] at * <;> first | omega | (split <;> omega) | (simp only [zz_iff] at *; omega)), rfl⟩⟩
end
section
open Go.RowKit

theorem tnum_0 {t : List UInt8} {z : Int} (hz : Lib.atoiAll t = .ok z) (h : ¬ Lib.itoa z = t) : 0 = numT t := by unfold numT; rw [hz]; simp only; rw [if_neg h]
theorem tnum_z {t : List UInt8} {z : Int} (hz : Lib.atoiAll t = .ok z) (h : Lib.itoa z = t) : z = numT t := by unfold numT; rw [hz]; simp only; rw [if_pos h]
theorem tnum_n {t : List UInt8} (hz : ∀ z, Lib.atoiAll t ≠ .ok z) : 0 = numT t := by
  unfold numT
  split
  · rename_i n h; exact absurd h (hz n)
  · rfl
theorem trim_len (v : List UInt8) : (Lib.trimSuffix v [37]).length ≤ v.length := by
  unfold Lib.trimSuffix; split
  · rw [List.length_take]; omega
  · exact Nat.le_refl _
theorem thr_of {t : List UInt8} {so su : Bool} (h1 : sfOf t = so) (h2 : Lib.hasSuffix (vlOf t) [37] = su) (hs : 0 ≤ sigOf (wdOf t)) :
    thrOf numT t = ⟨((sigOf (wdOf t)).toNat : Int), bif su then numT (Lib.trimSuffix (vlOf t) [37]) else 0, bif su then 0 else ((qv (vlOf t) : Nat) : Int), sfOf t, bif so then numT (grOf t) else 0⟩ := by
  have e : ((sigOf (wdOf t)).toNat : Int) = sigOf (wdOf t) := by omega
  unfold thrOf pctOf amtOf
  rw [h1, h2, e]
  cases so <;> cases su <;> first | rfl | (simp only [if_true, cond_true]; unfold Lib.trimSuffix; rw [h2]; rfl) | (simp; unfold Lib.trimSuffix; rw [h2]; rfl)
theorem okt_no {t : List UInt8} {th : Thr} (hth : 0 ≤ sigOf (wdOf t) → thrOf numT t = th) (h : (bif !(t.contains 60) then true else (bif !(decide (sigOf (wdOf t) ≥ 0)) then true else !(decide (RightT th)))) = true) : ¬ OkT t := by
  rintro ⟨h1, h2⟩
  have h3 : 0 ≤ sigOf (wdOf t) := h2.1
  rw [hth h3] at h2
  rw [h1, decide_eq_true (show sigOf (wdOf t) ≥ 0 from h3), decide_eq_true h2] at h
  cases h
theorem okt_yes {t : List UInt8} {th : Thr} (hth : 0 ≤ sigOf (wdOf t) → thrOf numT t = th) (h : (bif !(t.contains 60) then true else (bif !(decide (sigOf (wdOf t) ≥ 0)) then true else !(decide (RightT th)))) = false) : OkT t := by
  cases h1 : t.contains 60 with
  | false => rw [h1] at h; cases h
  | true =>
    rw [h1] at h
    by_cases h3 : sigOf (wdOf t) ≥ 0
    · rw [decide_eq_true h3] at h
      by_cases h2 : RightT th
      · exact ⟨h1, by rw [hth h3]; exact h2⟩
      · rw [decide_eq_false h2] at h; cases h
    · rw [decide_eq_false h3] at h; cases h
theorem th_no {t : List UInt8} (h : ¬ OkT t) : readT t = t0 ∧ errT t = 2 := ⟨by unfold readT; rw [if_neg h], by unfold errT; rw [if_neg h]⟩
theorem th_ok {t : List UInt8} (h : OkT t) : readT t = thrOf numT t ∧ errT t = 0 := ⟨by unfold readT; rw [if_pos h], by unfold errT; rw [if_pos h]⟩
theorem okt_sig {t : List UInt8} (h : OkT t) : 0 ≤ sigOf (wdOf t) := h.2.1

set_option maxRecDepth 20000 in
theorem tnum_ok (t : List UInt8) (hl : t.length ≤ 4294967280) (nz : Int) (hz : Lib.atoiAll t = .ok nz) (M : Nat → Option (List AV)) : ACall Tryz.prog 64 [.str t] M (fun r M' => r = zI (numT t) ∧ M = M') := by
  have hzb := Lib.atoiAll_bounds hz
  refine ACall.of Tryz.func64 rfl (n := 19) rfl rfl rfl ?_
  refine zg ?_
  refine zM (zI 0) ?_
  refine zN ?_
  refine zg ?_
  refine zM (.str t) ?_
  refine zc [.str t] Tryz.call76 (atoi_ok t hl nz hz M) ?_
  rintro _ _ ⟨rfl, rfl⟩
  refine zM (.tuple [zI nz, .lit .nilIface]) ?_
  refine zr (zx (zI nz)) ?_
  refine zr (zx (.lit .nilIface)) ?_
  refine zM (zI nz) ?_
  refine zM (.lit .nilIface) ?_
  refine zN ?_
  refine AWp.seq ?_
  refine zj 17 [(0, .str t), (2, zI 0), (3, zI nz), (4, .lit .nilIface)] [] M (!((Lib.itoa nz) == t)) ?_ ?_
  · skip
    refine zM (.lit .nilIface) ?_
    refine zr (Reader.ifNil rfl Tryz.underlying90 (v := .nilIface) rfl (.inl ⟨rfl, rfl⟩) (.inr ⟨rfl, rfl⟩)) ?_
    refine zM (zB false) ?_
    refine zM (zI nz) ?_
    refine zc [zI nz] Tryz.call53 (itoa_int nz (by omega) (by omega) M) ?_
    rintro _ _ ⟨rfl, rfl⟩
    refine zM (.str t) ?_
    refine zr (zt (!((Lib.itoa nz) == t))) ?_
    refine zr (zp false (zB (!((Lib.itoa nz) == t)))) ?_
    exact AOps.nil rfl
  refine zC (b := !((Lib.itoa nz) == t)) rfl (fun h1 => ?_) (fun h1 => ?_)
  · skip
    have h1' : ¬ Lib.itoa nz = t := (beq_eq_false_iff_ne.1 (bnot_t h1))
    clear h1
    refine zg ?_
    refine zM (zI 0) ?_
    refine zN ?_
    refine AWp.ret ?_
    exact ⟨.inl rfl, _, ResOf.one 2 (zI 0) rfl rfl, ⟨congrArg (fun x : Int => AV.lit (.int .i64 x)) (tnum_0 hz (by assumption)), rfl⟩⟩
  · skip
    have h1' : Lib.itoa nz = t := (eq_of_beq (bnot_f h1))
    clear h1
    refine AWp.skip ?_
    refine zg ?_
    refine zM (zI nz) ?_
    refine zM (zI nz) ?_
    refine zN ?_
    refine AWp.ret ?_
    exact ⟨.inl rfl, _, ResOf.one 2 (zI nz) rfl rfl, ⟨congrArg (fun x : Int => AV.lit (.int .i64 x)) (tnum_z hz (by assumption)), rfl⟩⟩

set_option maxRecDepth 20000 in
theorem tnum_bad (t : List UInt8) (hl : t.length ≤ 4294967280) (hz : ∀ z, Lib.atoiAll t ≠ .ok z) (M : Nat → Option (List AV)) : ACall Tryz.prog 64 [.str t] M (fun r M' => r = zI (numT t) ∧ M = M') := by
  refine ACall.of Tryz.func64 rfl (n := 19) rfl rfl rfl ?_
  refine zg ?_
  refine zM (zI 0) ?_
  refine zN ?_
  refine zg ?_
  refine zM (.str t) ?_
  refine zc [.str t] Tryz.call76 (atoi_bad t hl hz M) ?_
  rintro _ _ ⟨⟨nz, te, pe, rfl⟩, rfl⟩
  refine zM (.tuple [zI nz, .lit (.iface te pe)]) ?_
  refine zr (zx (zI nz)) ?_
  refine zr (zx (.lit (.iface te pe))) ?_
  refine zM (zI nz) ?_
  refine zM (.lit (.iface te pe)) ?_
  refine zN ?_
  refine AWp.seq ?_
  refine zj 17 [(0, .str t), (2, zI 0), (3, zI nz), (4, .lit (.iface te pe))] [] M true ?_ ?_
  · skip
    refine zM (.lit (.iface te pe)) ?_
    refine zr (Reader.ifNil rfl Tryz.underlying90 (v := (.iface te pe)) rfl (.inr ⟨⟨_, _, rfl⟩, rfl⟩) (.inr ⟨rfl, rfl⟩)) ?_
    refine zM (zB true) ?_
    refine zs ?_
    refine zs ?_
    refine zs ?_
    refine zs ?_
    refine zr (zp true (zB true)) ?_
    exact AOps.nil rfl
  refine AWp.cond (b := true) rfl (fun hx => ?_) (fun hx => by cases hx)
  refine zg ?_
  refine zM (zI 0) ?_
  refine zN ?_
  refine AWp.ret ?_
  exact ⟨.inl rfl, _, ResOf.one 2 (zI 0) rfl rfl, ⟨congrArg (fun x : Int => AV.lit (.int .i64 x)) (tnum_n hz), rfl⟩⟩

theorem tnum_any (t : List UInt8) (hl : t.length ≤ 4294967280) (M : Nat → Option (List AV)) : ACall Tryz.prog 64 [.str t] M (fun r M' => r = zI (numT t) ∧ M = M') := by
  by_cases h : ∃ z, Lib.atoiAll t = .ok z
  · obtain ⟨z, hz⟩ := h
    exact tnum_ok t hl z hz M
  · exact tnum_bad t hl (fun z e => h ⟨z, e⟩) M

set_option maxRecDepth 20000 in
theorem TRead_any (t : List UInt8) (hl : t.length ≤ 4294967280) (M : Nat → Option (List AV)) : ACall Tryz.prog 44 [.str t] M (fun r M' => r = .tuple [encT (readT t), zI (errT t)] ∧ M = M') := by
  have hc1 := cutA_len 60 t
  have hc2 := cutA_len 58 (cutA 60 t).2.1
  have hc3 := trim_len (cutA 58 (cutA 60 t).2.1).1
  refine ACall.of Tryz.func44 rfl (n := 68) rfl rfl rfl ?_
  refine zg ?_
  refine zal [] zero_40 [zI 0, zI 0, zI 0, zB false, zI 0] ?_
  refine zM (zI 0) ?_
  refine zN ?_
  refine zg ?_
  refine zal [] zero_40 [zI 0, zI 0, zI 0, zB false, zI 0] ?_
  refine zN ?_
  refine zg ?_
  refine zM (.str t) ?_
  refine zc [.str t, .str [60]] Tryz.call62 (cut_any 60 t (by omega) M) ?_
  rintro _ _ ⟨rfl, rfl⟩
  refine zM (.tuple [.str ((cutA 60 t).1), .str ((cutA 60 t).2.1), zB (t.contains 60)]) ?_
  refine zr (zx (.str ((cutA 60 t).1))) ?_
  refine zr (zx (.str ((cutA 60 t).2.1))) ?_
  refine zr (zx (zB (t.contains 60))) ?_
  refine zM (.str ((cutA 60 t).1)) ?_
  refine zM (.str ((cutA 60 t).2.1)) ?_
  refine zM (zB (t.contains 60)) ?_
  refine zN ?_
  refine zg ?_
  refine zM (.str ((cutA 60 t).1)) ?_
  refine zc [.str ((cutA 60 t).1)] Tryz.call63 (Signal_any ((cutA 60 t).1) M) ?_
  rintro _ _ ⟨rfl, rfl⟩
  refine zM (.tuple [zI (((sigOf ((cutA 60 t).1)).toNat : Nat) : Int), zB (decide (sigOf ((cutA 60 t).1) ≥ 0))]) ?_
  refine zr (zx (zI (((sigOf ((cutA 60 t).1)).toNat : Nat) : Int))) ?_
  refine zr (zx (zB (decide (sigOf ((cutA 60 t).1) ≥ 0)))) ?_
  refine zM (zI (((sigOf ((cutA 60 t).1)).toNat : Nat) : Int)) ?_
  refine zM (zB (decide (sigOf ((cutA 60 t).1) ≥ 0))) ?_
  refine zN ?_
  refine zg ?_
  refine zM (.str ((cutA 60 t).2.1)) ?_
  refine zc [.str ((cutA 60 t).2.1), .str [58]] Tryz.call62 (cut_any 58 ((cutA 60 t).2.1) (by omega) M) ?_
  rintro _ _ ⟨rfl, rfl⟩
  refine zM (.tuple [.str ((cutA 58 ((cutA 60 t).2.1)).1), .str ((cutA 58 ((cutA 60 t).2.1)).2.1), zB ((cutA 58 (cutA 60 t).2.1).2.2)]) ?_
  refine zr (zx (.str ((cutA 58 ((cutA 60 t).2.1)).1))) ?_
  refine zr (zx (.str ((cutA 58 ((cutA 60 t).2.1)).2.1))) ?_
  refine zr (zx (zB ((cutA 58 (cutA 60 t).2.1).2.2))) ?_
  refine zM (.str ((cutA 58 ((cutA 60 t).2.1)).1)) ?_
  refine zM (.str ((cutA 58 ((cutA 60 t).2.1)).2.1)) ?_
  refine zM (zB ((cutA 58 (cutA 60 t).2.1).2.2)) ?_
  refine zN ?_
  refine zg ?_
  refine zM (zI (((sigOf ((cutA 60 t).1)).toNat : Nat) : Int)) ?_
  refine zM (zB ((cutA 58 (cutA 60 t).2.1).2.2)) ?_
  refine zr (zfL Tryz.underlying40 sizeOf_3) ?_
  refine zst sizeOf_3 (zI (((sigOf ((cutA 60 t).1)).toNat : Nat) : Int)) ?_
  refine zr (zfL Tryz.underlying40 sizeOf_4) ?_
  refine zst sizeOf_4 (zB ((cutA 58 (cutA 60 t).2.1).2.2)) ?_
  refine zN ?_
  refine AWp.seq ?_
  refine zg ?_
  refine zM (zB ((cutA 58 (cutA 60 t).2.1).2.2)) ?_
  refine zN ?_
  refine zC (b := (cutA 58 (cutA 60 t).2.1).2.2) rfl (fun h1 => ?_) (fun h1 => ?_)
  · skip
    have h1' : sfOf t = true := h1
    clear h1
    refine AWp.region ?_
    refine zM (.str ((cutA 58 ((cutA 60 t).2.1)).2.1)) ?_
    refine zc [.str ((cutA 58 ((cutA 60 t).2.1)).2.1)] Tryz.call64 (tnum_any ((cutA 58 ((cutA 60 t).2.1)).2.1) (by first | omega | (simp only [List.length_append, List.length_cons, List.length_nil]; omega)) M) ?_
    rintro _ _ ⟨rfl, rfl⟩
    refine zr (zfL Tryz.underlying40 sizeOf_3) ?_
    refine zst sizeOf_3 (zI (numT ((cutA 58 ((cutA 60 t).2.1)).2.1))) ?_
    refine zN ?_
    refine AWp.seq ?_
    refine zg ?_
    refine zM (.str ((cutA 58 ((cutA 60 t).2.1)).1)) ?_
    refine zc [.str ((cutA 58 ((cutA 60 t).2.1)).1), .str [37]] Tryz.call65 (suf_any [37] ((cutA 58 ((cutA 60 t).2.1)).1) (by omega) M) ?_
    rintro _ _ ⟨rfl, rfl⟩
    refine zM (.tuple [.str (Lib.trimSuffix (cutA 58 (cutA 60 t).2.1).1 [37]), zB (Lib.hasSuffix (cutA 58 (cutA 60 t).2.1).1 [37])]) ?_
    refine zr (zx (.str (Lib.trimSuffix (cutA 58 (cutA 60 t).2.1).1 [37]))) ?_
    refine zr (zx (zB (Lib.hasSuffix (cutA 58 (cutA 60 t).2.1).1 [37]))) ?_
    refine zM (.str (Lib.trimSuffix (cutA 58 (cutA 60 t).2.1).1 [37])) ?_
    refine zM (zB (Lib.hasSuffix (cutA 58 (cutA 60 t).2.1).1 [37])) ?_
    refine zN ?_
    refine zg ?_
    refine zM (zB (Lib.hasSuffix (cutA 58 (cutA 60 t).2.1).1 [37])) ?_
    refine zN ?_
    refine zC (b := Lib.hasSuffix (cutA 58 (cutA 60 t).2.1).1 [37]) rfl (fun h2 => ?_) (fun h2 => ?_)
    · skip
      have h2' : Lib.hasSuffix (vlOf t) [37] = true := h2
      clear h2
      refine AWp.region ?_
      refine zM (.str (Lib.trimSuffix (cutA 58 (cutA 60 t).2.1).1 [37])) ?_
      refine zc [.str (Lib.trimSuffix (cutA 58 (cutA 60 t).2.1).1 [37])] Tryz.call64 (tnum_any (Lib.trimSuffix (cutA 58 (cutA 60 t).2.1).1 [37]) (by first | omega | (simp only [List.length_append, List.length_cons, List.length_nil]; omega)) M) ?_
      rintro _ _ ⟨rfl, rfl⟩
      refine zr (zfL Tryz.underlying40 sizeOf_3) ?_
      refine zst sizeOf_3 (zI (numT (Lib.trimSuffix (cutA 58 (cutA 60 t).2.1).1 [37]))) ?_
      refine zN ?_
      refine AWp.seq ?_
      refine zj 65 [(0, .str t), (2, .lptr 2 0), (3, zI 0), (4, .lptr 4 0), (5, .str ((cutA 60 t).1)), (6, .str ((cutA 60 t).2.1)), (7, zB (t.contains 60)), (8, zI (((sigOf ((cutA 60 t).1)).toNat : Nat) : Int)), (9, zB (decide (sigOf ((cutA 60 t).1) ≥ 0))), (10, .str ((cutA 58 ((cutA 60 t).2.1)).1)), (11, .str ((cutA 58 ((cutA 60 t).2.1)).2.1)), (12, zB ((cutA 58 (cutA 60 t).2.1).2.2)), (36, zB ((cutA 58 (cutA 60 t).2.1).2.2)), (13, .str (Lib.trimSuffix (cutA 58 (cutA 60 t).2.1).1 [37])), (14, zB (Lib.hasSuffix (cutA 58 (cutA 60 t).2.1).1 [37])), (45, zB (Lib.hasSuffix (cutA 58 (cutA 60 t).2.1).1 [37]))] [(2, [zI 0, zI 0, zI 0, zB false, zI 0]), (4, [zI (((sigOf ((cutA 60 t).1)).toNat : Nat) : Int), zI (numT (Lib.trimSuffix (cutA 58 (cutA 60 t).2.1).1 [37])), zI 0, zB ((cutA 58 (cutA 60 t).2.1).2.2), zI (numT ((cutA 58 ((cutA 60 t).2.1)).2.1))])] M (bif (!(t.contains 60)) then true else (bif (!(decide (sigOf ((cutA 60 t).1) ≥ 0))) then true else (!(decide (RightT ⟨(((sigOf ((cutA 60 t).1)).toNat : Nat) : Int), numT (Lib.trimSuffix (cutA 58 (cutA 60 t).2.1).1 [37]), 0, (cutA 58 (cutA 60 t).2.1).2.2, numT ((cutA 58 ((cutA 60 t).2.1)).2.1)⟩))))) ?_ ?_
      · skip
        refine zM (zB (t.contains 60)) ?_
        refine zr (zn (t.contains 60)) ?_
        refine zM (zB (!(t.contains 60))) ?_
        refine AOps.splitJ (t := 57) (b := !(t.contains 60)) (x := true) (y := (bif (!(decide (sigOf ((cutA 60 t).1) ≥ 0))) then true else (!(decide (RightT ⟨(((sigOf ((cutA 60 t).1)).toNat : Nat) : Int), numT (Lib.trimSuffix (cutA 58 (cutA 60 t).2.1).1 [37]), 0, (cutA 58 (cutA 60 t).2.1).2.2, numT ((cutA 58 ((cutA 60 t).2.1)).2.1)⟩))))) rfl (fun h3 => ?_) (fun h3 => ?_)
        · skip
          refine zs ?_
          refine zs ?_
          refine zr (zp true (zB true)) ?_
          refine zM (zB true) ?_
          refine zs ?_
          refine zs ?_
          refine zs ?_
          refine zr (zp true (zB true)) ?_
          exact AOps.nil rfl
        · skip
          refine zM (zB (decide (sigOf ((cutA 60 t).1) ≥ 0))) ?_
          refine zr (zn (decide (sigOf ((cutA 60 t).1) ≥ 0))) ?_
          refine zr (zp false (zB (!(decide (sigOf ((cutA 60 t).1) ≥ 0))))) ?_
          refine zM (zB (!(decide (sigOf ((cutA 60 t).1) ≥ 0)))) ?_
          refine AOps.splitJ (t := 61) (b := !(decide (sigOf ((cutA 60 t).1) ≥ 0))) (x := true) (y := (!(decide (RightT ⟨(((sigOf ((cutA 60 t).1)).toNat : Nat) : Int), numT (Lib.trimSuffix (cutA 58 (cutA 60 t).2.1).1 [37]), 0, (cutA 58 (cutA 60 t).2.1).2.2, numT ((cutA 58 ((cutA 60 t).2.1)).2.1)⟩)))) rfl (fun h4 => ?_) (fun h4 => ?_)
          · skip
            refine zs ?_
            refine zs ?_
            refine zs ?_
            refine zr (zp true (zB true)) ?_
            exact AOps.nil rfl
          · skip
            refine zr (zlL (.agg [zI (((sigOf ((cutA 60 t).1)).toNat : Nat) : Int), zI (numT (Lib.trimSuffix (cutA 58 (cutA 60 t).2.1).1 [37])), zI 0, zB ((cutA 58 (cutA 60 t).2.1).2.2), zI (numT ((cutA 58 ((cutA 60 t).2.1)).2.1))]) Tryz.underlying40 sizeOf_40) ?_
            refine zc [.agg [zI (((sigOf ((cutA 60 t).1)).toNat : Nat) : Int), zI (numT (Lib.trimSuffix (cutA 58 (cutA 60 t).2.1).1 [37])), zI 0, zB ((cutA 58 (cutA 60 t).2.1).2.2), zI (numT ((cutA 58 ((cutA 60 t).2.1)).2.1))]] Tryz.call36 (Right_any ⟨(((sigOf ((cutA 60 t).1)).toNat : Nat) : Int), numT (Lib.trimSuffix (cutA 58 (cutA 60 t).2.1).1 [37]), 0, (cutA 58 (cutA 60 t).2.1).2.2, numT ((cutA 58 ((cutA 60 t).2.1)).2.1)⟩ M) ?_
            rintro _ _ ⟨rfl, rfl⟩
            refine zr (zn (decide (RightT ⟨(((sigOf ((cutA 60 t).1)).toNat : Nat) : Int), numT (Lib.trimSuffix (cutA 58 (cutA 60 t).2.1).1 [37]), 0, (cutA 58 (cutA 60 t).2.1).2.2, numT ((cutA 58 ((cutA 60 t).2.1)).2.1)⟩))) ?_
            refine zr (zp false (zB (!(decide (RightT ⟨(((sigOf ((cutA 60 t).1)).toNat : Nat) : Int), numT (Lib.trimSuffix (cutA 58 (cutA 60 t).2.1).1 [37]), 0, (cutA 58 (cutA 60 t).2.1).2.2, numT ((cutA 58 ((cutA 60 t).2.1)).2.1)⟩))))) ?_
            exact AOps.nil rfl
      have hth := thr_of (t := t) (by assumption) (by assumption)
      refine zC (b := bif (!(t.contains 60)) then true else (bif (!(decide (sigOf ((cutA 60 t).1) ≥ 0))) then true else (!(decide (RightT ⟨(((sigOf ((cutA 60 t).1)).toNat : Nat) : Int), numT (Lib.trimSuffix (cutA 58 (cutA 60 t).2.1).1 [37]), 0, (cutA 58 (cutA 60 t).2.1).2.2, numT ((cutA 58 ((cutA 60 t).2.1)).2.1)⟩))))) rfl (fun h5 => ?_) (fun h5 => ?_)
      · skip
        have h5' : ¬ OkT t := (okt_no hth h5)
        clear h5
        refine zg ?_
        refine zr (Reader.build (xs := []) (Es := []) (places := places_40) rfl Tryz.underlying40 (by refine ⟨rfl, fun j p x hp hx => ?_⟩; match j, hp, hx with | _ + 0, hp, hx => cases hp) zero_40 rfl places_40_ok (cs := [zI 0, zI 0, zI 0, zB false, zI 0]) rfl) ?_
        refine zst sizeOf_40 (.agg [zI 0, zI 0, zI 0, zB false, zI 0]) ?_
        refine zM (zI 2) ?_
        refine zN ?_
        refine AWp.ret ?_
        exact ⟨.inl rfl, _, ResOf.cellTmp 2 2 0 5 40 _ _ (.agg [zI 0, zI 0, zI 0, zB false, zI 0]) rfl rfl Tryz.underlying40 sizeOf_40 rfl (Eq.refl true) 3 (zI 2) rfl (.inl rfl), ⟨by rw [(th_no (by assumption)).1, (th_no (by assumption)).2]; rfl, rfl⟩⟩
      · skip
        have h5' : OkT t := (okt_yes hth h5)
        clear h5
        refine AWp.skip ?_
        refine zg ?_
        refine zr (zlL (.agg [zI (((sigOf ((cutA 60 t).1)).toNat : Nat) : Int), zI (numT (Lib.trimSuffix (cutA 58 (cutA 60 t).2.1).1 [37])), zI 0, zB ((cutA 58 (cutA 60 t).2.1).2.2), zI (numT ((cutA 58 ((cutA 60 t).2.1)).2.1))]) Tryz.underlying40 sizeOf_40) ?_
        refine zst sizeOf_40 (.agg [zI (((sigOf ((cutA 60 t).1)).toNat : Nat) : Int), zI (numT (Lib.trimSuffix (cutA 58 (cutA 60 t).2.1).1 [37])), zI 0, zB ((cutA 58 (cutA 60 t).2.1).2.2), zI (numT ((cutA 58 ((cutA 60 t).2.1)).2.1))]) ?_
        refine zM (zI 0) ?_
        refine zN ?_
        refine AWp.ret ?_
        exact ⟨.inl rfl, _, ResOf.cellTmp 2 2 0 5 40 _ _ (.agg [zI (((sigOf ((cutA 60 t).1)).toNat : Nat) : Int), zI (numT (Lib.trimSuffix (cutA 58 (cutA 60 t).2.1).1 [37])), zI 0, zB ((cutA 58 (cutA 60 t).2.1).2.2), zI (numT ((cutA 58 ((cutA 60 t).2.1)).2.1))]) rfl rfl Tryz.underlying40 sizeOf_40 rfl (Eq.refl true) 3 (zI 0) rfl (.inl rfl), ⟨by rw [(th_ok (by assumption)).1, (th_ok (by assumption)).2, hth (okt_sig (by assumption))]; rfl, rfl⟩⟩
    · skip
      have h2' : Lib.hasSuffix (vlOf t) [37] = false := h2
      clear h2
      refine AWp.region ?_
      refine zM (.str ((cutA 58 ((cutA 60 t).2.1)).1)) ?_
      refine zc [.str ((cutA 58 ((cutA 60 t).2.1)).1)] Tryz.call66 (Read_any ((cutA 58 ((cutA 60 t).2.1)).1) (by first | assumption | omega | (simp only [List.length_append, List.length_cons, List.length_nil]; omega)) M) ?_
      rintro _ _ ⟨rfl, rfl⟩
      refine zM (.tuple [zI ((qv ((cutA 58 ((cutA 60 t).2.1)).1) : Nat) : Int), zI (qe ((cutA 58 ((cutA 60 t).2.1)).1))]) ?_
      refine zr (zx (zI ((qv ((cutA 58 ((cutA 60 t).2.1)).1) : Nat) : Int))) ?_
      refine zr (zx (zI (qe ((cutA 58 ((cutA 60 t).2.1)).1)))) ?_
      refine zr (zfL Tryz.underlying40 sizeOf_3) ?_
      refine zst sizeOf_3 (zI ((qv ((cutA 58 ((cutA 60 t).2.1)).1) : Nat) : Int)) ?_
      refine zN ?_
      refine AWp.seq ?_
      refine zj 65 [(0, .str t), (2, .lptr 2 0), (3, zI 0), (4, .lptr 4 0), (5, .str ((cutA 60 t).1)), (6, .str ((cutA 60 t).2.1)), (7, zB (t.contains 60)), (8, zI (((sigOf ((cutA 60 t).1)).toNat : Nat) : Int)), (9, zB (decide (sigOf ((cutA 60 t).1) ≥ 0))), (10, .str ((cutA 58 ((cutA 60 t).2.1)).1)), (11, .str ((cutA 58 ((cutA 60 t).2.1)).2.1)), (12, zB ((cutA 58 (cutA 60 t).2.1).2.2)), (36, zB ((cutA 58 (cutA 60 t).2.1).2.2)), (13, .str (Lib.trimSuffix (cutA 58 (cutA 60 t).2.1).1 [37])), (14, zB (Lib.hasSuffix (cutA 58 (cutA 60 t).2.1).1 [37])), (45, zB (Lib.hasSuffix (cutA 58 (cutA 60 t).2.1).1 [37]))] [(2, [zI 0, zI 0, zI 0, zB false, zI 0]), (4, [zI (((sigOf ((cutA 60 t).1)).toNat : Nat) : Int), zI 0, zI ((qv ((cutA 58 ((cutA 60 t).2.1)).1) : Nat) : Int), zB ((cutA 58 (cutA 60 t).2.1).2.2), zI (numT ((cutA 58 ((cutA 60 t).2.1)).2.1))])] M (bif (!(t.contains 60)) then true else (bif (!(decide (sigOf ((cutA 60 t).1) ≥ 0))) then true else (!(decide (RightT ⟨(((sigOf ((cutA 60 t).1)).toNat : Nat) : Int), 0, ((qv ((cutA 58 ((cutA 60 t).2.1)).1) : Nat) : Int), (cutA 58 (cutA 60 t).2.1).2.2, numT ((cutA 58 ((cutA 60 t).2.1)).2.1)⟩))))) ?_ ?_
      · skip
        refine zM (zB (t.contains 60)) ?_
        refine zr (zn (t.contains 60)) ?_
        refine zM (zB (!(t.contains 60))) ?_
        refine AOps.splitJ (t := 57) (b := !(t.contains 60)) (x := true) (y := (bif (!(decide (sigOf ((cutA 60 t).1) ≥ 0))) then true else (!(decide (RightT ⟨(((sigOf ((cutA 60 t).1)).toNat : Nat) : Int), 0, ((qv ((cutA 58 ((cutA 60 t).2.1)).1) : Nat) : Int), (cutA 58 (cutA 60 t).2.1).2.2, numT ((cutA 58 ((cutA 60 t).2.1)).2.1)⟩))))) rfl (fun h6 => ?_) (fun h6 => ?_)
        · skip
          refine zs ?_
          refine zs ?_
          refine zr (zp true (zB true)) ?_
          refine zM (zB true) ?_
          refine zs ?_
          refine zs ?_
          refine zs ?_
          refine zr (zp true (zB true)) ?_
          exact AOps.nil rfl
        · skip
          refine zM (zB (decide (sigOf ((cutA 60 t).1) ≥ 0))) ?_
          refine zr (zn (decide (sigOf ((cutA 60 t).1) ≥ 0))) ?_
          refine zr (zp false (zB (!(decide (sigOf ((cutA 60 t).1) ≥ 0))))) ?_
          refine zM (zB (!(decide (sigOf ((cutA 60 t).1) ≥ 0)))) ?_
          refine AOps.splitJ (t := 61) (b := !(decide (sigOf ((cutA 60 t).1) ≥ 0))) (x := true) (y := (!(decide (RightT ⟨(((sigOf ((cutA 60 t).1)).toNat : Nat) : Int), 0, ((qv ((cutA 58 ((cutA 60 t).2.1)).1) : Nat) : Int), (cutA 58 (cutA 60 t).2.1).2.2, numT ((cutA 58 ((cutA 60 t).2.1)).2.1)⟩)))) rfl (fun h7 => ?_) (fun h7 => ?_)
          · skip
            refine zs ?_
            refine zs ?_
            refine zs ?_
            refine zr (zp true (zB true)) ?_
            exact AOps.nil rfl
          · skip
            refine zr (zlL (.agg [zI (((sigOf ((cutA 60 t).1)).toNat : Nat) : Int), zI 0, zI ((qv ((cutA 58 ((cutA 60 t).2.1)).1) : Nat) : Int), zB ((cutA 58 (cutA 60 t).2.1).2.2), zI (numT ((cutA 58 ((cutA 60 t).2.1)).2.1))]) Tryz.underlying40 sizeOf_40) ?_
            refine zc [.agg [zI (((sigOf ((cutA 60 t).1)).toNat : Nat) : Int), zI 0, zI ((qv ((cutA 58 ((cutA 60 t).2.1)).1) : Nat) : Int), zB ((cutA 58 (cutA 60 t).2.1).2.2), zI (numT ((cutA 58 ((cutA 60 t).2.1)).2.1))]] Tryz.call36 (Right_any ⟨(((sigOf ((cutA 60 t).1)).toNat : Nat) : Int), 0, ((qv ((cutA 58 ((cutA 60 t).2.1)).1) : Nat) : Int), (cutA 58 (cutA 60 t).2.1).2.2, numT ((cutA 58 ((cutA 60 t).2.1)).2.1)⟩ M) ?_
            rintro _ _ ⟨rfl, rfl⟩
            refine zr (zn (decide (RightT ⟨(((sigOf ((cutA 60 t).1)).toNat : Nat) : Int), 0, ((qv ((cutA 58 ((cutA 60 t).2.1)).1) : Nat) : Int), (cutA 58 (cutA 60 t).2.1).2.2, numT ((cutA 58 ((cutA 60 t).2.1)).2.1)⟩))) ?_
            refine zr (zp false (zB (!(decide (RightT ⟨(((sigOf ((cutA 60 t).1)).toNat : Nat) : Int), 0, ((qv ((cutA 58 ((cutA 60 t).2.1)).1) : Nat) : Int), (cutA 58 (cutA 60 t).2.1).2.2, numT ((cutA 58 ((cutA 60 t).2.1)).2.1)⟩))))) ?_
            exact AOps.nil rfl
      have hth := thr_of (t := t) (by assumption) (by assumption)
      refine zC (b := bif (!(t.contains 60)) then true else (bif (!(decide (sigOf ((cutA 60 t).1) ≥ 0))) then true else (!(decide (RightT ⟨(((sigOf ((cutA 60 t).1)).toNat : Nat) : Int), 0, ((qv ((cutA 58 ((cutA 60 t).2.1)).1) : Nat) : Int), (cutA 58 (cutA 60 t).2.1).2.2, numT ((cutA 58 ((cutA 60 t).2.1)).2.1)⟩))))) rfl (fun h8 => ?_) (fun h8 => ?_)
      · skip
        have h8' : ¬ OkT t := (okt_no hth h8)
        clear h8
        refine zg ?_
        refine zr (Reader.build (xs := []) (Es := []) (places := places_40) rfl Tryz.underlying40 (by refine ⟨rfl, fun j p x hp hx => ?_⟩; match j, hp, hx with | _ + 0, hp, hx => cases hp) zero_40 rfl places_40_ok (cs := [zI 0, zI 0, zI 0, zB false, zI 0]) rfl) ?_
        refine zst sizeOf_40 (.agg [zI 0, zI 0, zI 0, zB false, zI 0]) ?_
        refine zM (zI 2) ?_
        refine zN ?_
        refine AWp.ret ?_
        exact ⟨.inl rfl, _, ResOf.cellTmp 2 2 0 5 40 _ _ (.agg [zI 0, zI 0, zI 0, zB false, zI 0]) rfl rfl Tryz.underlying40 sizeOf_40 rfl (Eq.refl true) 3 (zI 2) rfl (.inl rfl), ⟨by rw [(th_no (by assumption)).1, (th_no (by assumption)).2]; rfl, rfl⟩⟩
      · skip
        have h8' : OkT t := (okt_yes hth h8)
        clear h8
        refine AWp.skip ?_
        refine zg ?_
        refine zr (zlL (.agg [zI (((sigOf ((cutA 60 t).1)).toNat : Nat) : Int), zI 0, zI ((qv ((cutA 58 ((cutA 60 t).2.1)).1) : Nat) : Int), zB ((cutA 58 (cutA 60 t).2.1).2.2), zI (numT ((cutA 58 ((cutA 60 t).2.1)).2.1))]) Tryz.underlying40 sizeOf_40) ?_
        refine zst sizeOf_40 (.agg [zI (((sigOf ((cutA 60 t).1)).toNat : Nat) : Int), zI 0, zI ((qv ((cutA 58 ((cutA 60 t).2.1)).1) : Nat) : Int), zB ((cutA 58 (cutA 60 t).2.1).2.2), zI (numT ((cutA 58 ((cutA 60 t).2.1)).2.1))]) ?_
        refine zM (zI 0) ?_
        refine zN ?_
        refine AWp.ret ?_
        exact ⟨.inl rfl, _, ResOf.cellTmp 2 2 0 5 40 _ _ (.agg [zI (((sigOf ((cutA 60 t).1)).toNat : Nat) : Int), zI 0, zI ((qv ((cutA 58 ((cutA 60 t).2.1)).1) : Nat) : Int), zB ((cutA 58 (cutA 60 t).2.1).2.2), zI (numT ((cutA 58 ((cutA 60 t).2.1)).2.1))]) rfl rfl Tryz.underlying40 sizeOf_40 rfl (Eq.refl true) 3 (zI 0) rfl (.inl rfl), ⟨by rw [(th_ok (by assumption)).1, (th_ok (by assumption)).2, hth (okt_sig (by assumption))]; rfl, rfl⟩⟩
  · skip
    have h1' : sfOf t = false := h1
    clear h1
    refine AWp.skip ?_
    refine AWp.seq ?_
    refine zg ?_
    refine zM (.str ((cutA 58 ((cutA 60 t).2.1)).1)) ?_
    refine zc [.str ((cutA 58 ((cutA 60 t).2.1)).1), .str [37]] Tryz.call65 (suf_any [37] ((cutA 58 ((cutA 60 t).2.1)).1) (by omega) M) ?_
    rintro _ _ ⟨rfl, rfl⟩
    refine zM (.tuple [.str (Lib.trimSuffix (cutA 58 (cutA 60 t).2.1).1 [37]), zB (Lib.hasSuffix (cutA 58 (cutA 60 t).2.1).1 [37])]) ?_
    refine zr (zx (.str (Lib.trimSuffix (cutA 58 (cutA 60 t).2.1).1 [37]))) ?_
    refine zr (zx (zB (Lib.hasSuffix (cutA 58 (cutA 60 t).2.1).1 [37]))) ?_
    refine zM (.str (Lib.trimSuffix (cutA 58 (cutA 60 t).2.1).1 [37])) ?_
    refine zM (zB (Lib.hasSuffix (cutA 58 (cutA 60 t).2.1).1 [37])) ?_
    refine zN ?_
    refine zg ?_
    refine zM (zB (Lib.hasSuffix (cutA 58 (cutA 60 t).2.1).1 [37])) ?_
    refine zN ?_
    refine zC (b := Lib.hasSuffix (cutA 58 (cutA 60 t).2.1).1 [37]) rfl (fun h9 => ?_) (fun h9 => ?_)
    · skip
      have h9' : Lib.hasSuffix (vlOf t) [37] = true := h9
      clear h9
      refine AWp.region ?_
      refine zM (.str (Lib.trimSuffix (cutA 58 (cutA 60 t).2.1).1 [37])) ?_
      refine zc [.str (Lib.trimSuffix (cutA 58 (cutA 60 t).2.1).1 [37])] Tryz.call64 (tnum_any (Lib.trimSuffix (cutA 58 (cutA 60 t).2.1).1 [37]) (by first | omega | (simp only [List.length_append, List.length_cons, List.length_nil]; omega)) M) ?_
      rintro _ _ ⟨rfl, rfl⟩
      refine zr (zfL Tryz.underlying40 sizeOf_3) ?_
      refine zst sizeOf_3 (zI (numT (Lib.trimSuffix (cutA 58 (cutA 60 t).2.1).1 [37]))) ?_
      refine zN ?_
      refine AWp.seq ?_
      refine zj 65 [(0, .str t), (2, .lptr 2 0), (3, zI 0), (4, .lptr 4 0), (5, .str ((cutA 60 t).1)), (6, .str ((cutA 60 t).2.1)), (7, zB (t.contains 60)), (8, zI (((sigOf ((cutA 60 t).1)).toNat : Nat) : Int)), (9, zB (decide (sigOf ((cutA 60 t).1) ≥ 0))), (10, .str ((cutA 58 ((cutA 60 t).2.1)).1)), (11, .str ((cutA 58 ((cutA 60 t).2.1)).2.1)), (12, zB ((cutA 58 (cutA 60 t).2.1).2.2)), (36, zB ((cutA 58 (cutA 60 t).2.1).2.2)), (13, .str (Lib.trimSuffix (cutA 58 (cutA 60 t).2.1).1 [37])), (14, zB (Lib.hasSuffix (cutA 58 (cutA 60 t).2.1).1 [37])), (45, zB (Lib.hasSuffix (cutA 58 (cutA 60 t).2.1).1 [37]))] [(2, [zI 0, zI 0, zI 0, zB false, zI 0]), (4, [zI (((sigOf ((cutA 60 t).1)).toNat : Nat) : Int), zI (numT (Lib.trimSuffix (cutA 58 (cutA 60 t).2.1).1 [37])), zI 0, zB ((cutA 58 (cutA 60 t).2.1).2.2), zI 0])] M (bif (!(t.contains 60)) then true else (bif (!(decide (sigOf ((cutA 60 t).1) ≥ 0))) then true else (!(decide (RightT ⟨(((sigOf ((cutA 60 t).1)).toNat : Nat) : Int), numT (Lib.trimSuffix (cutA 58 (cutA 60 t).2.1).1 [37]), 0, (cutA 58 (cutA 60 t).2.1).2.2, 0⟩))))) ?_ ?_
      · skip
        refine zM (zB (t.contains 60)) ?_
        refine zr (zn (t.contains 60)) ?_
        refine zM (zB (!(t.contains 60))) ?_
        refine AOps.splitJ (t := 57) (b := !(t.contains 60)) (x := true) (y := (bif (!(decide (sigOf ((cutA 60 t).1) ≥ 0))) then true else (!(decide (RightT ⟨(((sigOf ((cutA 60 t).1)).toNat : Nat) : Int), numT (Lib.trimSuffix (cutA 58 (cutA 60 t).2.1).1 [37]), 0, (cutA 58 (cutA 60 t).2.1).2.2, 0⟩))))) rfl (fun h10 => ?_) (fun h10 => ?_)
        · skip
          refine zs ?_
          refine zs ?_
          refine zr (zp true (zB true)) ?_
          refine zM (zB true) ?_
          refine zs ?_
          refine zs ?_
          refine zs ?_
          refine zr (zp true (zB true)) ?_
          exact AOps.nil rfl
        · skip
          refine zM (zB (decide (sigOf ((cutA 60 t).1) ≥ 0))) ?_
          refine zr (zn (decide (sigOf ((cutA 60 t).1) ≥ 0))) ?_
          refine zr (zp false (zB (!(decide (sigOf ((cutA 60 t).1) ≥ 0))))) ?_
          refine zM (zB (!(decide (sigOf ((cutA 60 t).1) ≥ 0)))) ?_
          refine AOps.splitJ (t := 61) (b := !(decide (sigOf ((cutA 60 t).1) ≥ 0))) (x := true) (y := (!(decide (RightT ⟨(((sigOf ((cutA 60 t).1)).toNat : Nat) : Int), numT (Lib.trimSuffix (cutA 58 (cutA 60 t).2.1).1 [37]), 0, (cutA 58 (cutA 60 t).2.1).2.2, 0⟩)))) rfl (fun h11 => ?_) (fun h11 => ?_)
          · skip
            refine zs ?_
            refine zs ?_
            refine zs ?_
            refine zr (zp true (zB true)) ?_
            exact AOps.nil rfl
          · skip
            refine zr (zlL (.agg [zI (((sigOf ((cutA 60 t).1)).toNat : Nat) : Int), zI (numT (Lib.trimSuffix (cutA 58 (cutA 60 t).2.1).1 [37])), zI 0, zB ((cutA 58 (cutA 60 t).2.1).2.2), zI 0]) Tryz.underlying40 sizeOf_40) ?_
            refine zc [.agg [zI (((sigOf ((cutA 60 t).1)).toNat : Nat) : Int), zI (numT (Lib.trimSuffix (cutA 58 (cutA 60 t).2.1).1 [37])), zI 0, zB ((cutA 58 (cutA 60 t).2.1).2.2), zI 0]] Tryz.call36 (Right_any ⟨(((sigOf ((cutA 60 t).1)).toNat : Nat) : Int), numT (Lib.trimSuffix (cutA 58 (cutA 60 t).2.1).1 [37]), 0, (cutA 58 (cutA 60 t).2.1).2.2, 0⟩ M) ?_
            rintro _ _ ⟨rfl, rfl⟩
            refine zr (zn (decide (RightT ⟨(((sigOf ((cutA 60 t).1)).toNat : Nat) : Int), numT (Lib.trimSuffix (cutA 58 (cutA 60 t).2.1).1 [37]), 0, (cutA 58 (cutA 60 t).2.1).2.2, 0⟩))) ?_
            refine zr (zp false (zB (!(decide (RightT ⟨(((sigOf ((cutA 60 t).1)).toNat : Nat) : Int), numT (Lib.trimSuffix (cutA 58 (cutA 60 t).2.1).1 [37]), 0, (cutA 58 (cutA 60 t).2.1).2.2, 0⟩))))) ?_
            exact AOps.nil rfl
      have hth := thr_of (t := t) (by assumption) (by assumption)
      refine zC (b := bif (!(t.contains 60)) then true else (bif (!(decide (sigOf ((cutA 60 t).1) ≥ 0))) then true else (!(decide (RightT ⟨(((sigOf ((cutA 60 t).1)).toNat : Nat) : Int), numT (Lib.trimSuffix (cutA 58 (cutA 60 t).2.1).1 [37]), 0, (cutA 58 (cutA 60 t).2.1).2.2, 0⟩))))) rfl (fun h12 => ?_) (fun h12 => ?_)
      · skip
        have h12' : ¬ OkT t := (okt_no hth h12)
        clear h12
        refine zg ?_
        refine zr (Reader.build (xs := []) (Es := []) (places := places_40) rfl Tryz.underlying40 (by refine ⟨rfl, fun j p x hp hx => ?_⟩; match j, hp, hx with | _ + 0, hp, hx => cases hp) zero_40 rfl places_40_ok (cs := [zI 0, zI 0, zI 0, zB false, zI 0]) rfl) ?_
        refine zst sizeOf_40 (.agg [zI 0, zI 0, zI 0, zB false, zI 0]) ?_
        refine zM (zI 2) ?_
        refine zN ?_
        refine AWp.ret ?_
        exact ⟨.inl rfl, _, ResOf.cellTmp 2 2 0 5 40 _ _ (.agg [zI 0, zI 0, zI 0, zB false, zI 0]) rfl rfl Tryz.underlying40 sizeOf_40 rfl (Eq.refl true) 3 (zI 2) rfl (.inl rfl), ⟨by rw [(th_no (by assumption)).1, (th_no (by assumption)).2]; rfl, rfl⟩⟩
      · skip
        have h12' : OkT t := (okt_yes hth h12)
        clear h12
        refine AWp.skip ?_
        refine zg ?_
        refine zr (zlL (.agg [zI (((sigOf ((cutA 60 t).1)).toNat : Nat) : Int), zI (numT (Lib.trimSuffix (cutA 58 (cutA 60 t).2.1).1 [37])), zI 0, zB ((cutA 58 (cutA 60 t).2.1).2.2), zI 0]) Tryz.underlying40 sizeOf_40) ?_
        refine zst sizeOf_40 (.agg [zI (((sigOf ((cutA 60 t).1)).toNat : Nat) : Int), zI (numT (Lib.trimSuffix (cutA 58 (cutA 60 t).2.1).1 [37])), zI 0, zB ((cutA 58 (cutA 60 t).2.1).2.2), zI 0]) ?_
        refine zM (zI 0) ?_
        refine zN ?_
        refine AWp.ret ?_
        exact ⟨.inl rfl, _, ResOf.cellTmp 2 2 0 5 40 _ _ (.agg [zI (((sigOf ((cutA 60 t).1)).toNat : Nat) : Int), zI (numT (Lib.trimSuffix (cutA 58 (cutA 60 t).2.1).1 [37])), zI 0, zB ((cutA 58 (cutA 60 t).2.1).2.2), zI 0]) rfl rfl Tryz.underlying40 sizeOf_40 rfl (Eq.refl true) 3 (zI 0) rfl (.inl rfl), ⟨by rw [(th_ok (by assumption)).1, (th_ok (by assumption)).2, hth (okt_sig (by assumption))]; rfl, rfl⟩⟩
    · skip
      have h9' : Lib.hasSuffix (vlOf t) [37] = false := h9
      clear h9
      refine AWp.region ?_
      refine zM (.str ((cutA 58 ((cutA 60 t).2.1)).1)) ?_
      refine zc [.str ((cutA 58 ((cutA 60 t).2.1)).1)] Tryz.call66 (Read_any ((cutA 58 ((cutA 60 t).2.1)).1) (by first | assumption | omega | (simp only [List.length_append, List.length_cons, List.length_nil]; omega)) M) ?_
      rintro _ _ ⟨rfl, rfl⟩
      refine zM (.tuple [zI ((qv ((cutA 58 ((cutA 60 t).2.1)).1) : Nat) : Int), zI (qe ((cutA 58 ((cutA 60 t).2.1)).1))]) ?_
      refine zr (zx (zI ((qv ((cutA 58 ((cutA 60 t).2.1)).1) : Nat) : Int))) ?_
      refine zr (zx (zI (qe ((cutA 58 ((cutA 60 t).2.1)).1)))) ?_
      refine zr (zfL Tryz.underlying40 sizeOf_3) ?_
      refine zst sizeOf_3 (zI ((qv ((cutA 58 ((cutA 60 t).2.1)).1) : Nat) : Int)) ?_
      refine zN ?_
      refine AWp.seq ?_
      refine zj 65 [(0, .str t), (2, .lptr 2 0), (3, zI 0), (4, .lptr 4 0), (5, .str ((cutA 60 t).1)), (6, .str ((cutA 60 t).2.1)), (7, zB (t.contains 60)), (8, zI (((sigOf ((cutA 60 t).1)).toNat : Nat) : Int)), (9, zB (decide (sigOf ((cutA 60 t).1) ≥ 0))), (10, .str ((cutA 58 ((cutA 60 t).2.1)).1)), (11, .str ((cutA 58 ((cutA 60 t).2.1)).2.1)), (12, zB ((cutA 58 (cutA 60 t).2.1).2.2)), (36, zB ((cutA 58 (cutA 60 t).2.1).2.2)), (13, .str (Lib.trimSuffix (cutA 58 (cutA 60 t).2.1).1 [37])), (14, zB (Lib.hasSuffix (cutA 58 (cutA 60 t).2.1).1 [37])), (45, zB (Lib.hasSuffix (cutA 58 (cutA 60 t).2.1).1 [37]))] [(2, [zI 0, zI 0, zI 0, zB false, zI 0]), (4, [zI (((sigOf ((cutA 60 t).1)).toNat : Nat) : Int), zI 0, zI ((qv ((cutA 58 ((cutA 60 t).2.1)).1) : Nat) : Int), zB ((cutA 58 (cutA 60 t).2.1).2.2), zI 0])] M (bif (!(t.contains 60)) then true else (bif (!(decide (sigOf ((cutA 60 t).1) ≥ 0))) then true else (!(decide (RightT ⟨(((sigOf ((cutA 60 t).1)).toNat : Nat) : Int), 0, ((qv ((cutA 58 ((cutA 60 t).2.1)).1) : Nat) : Int), (cutA 58 (cutA 60 t).2.1).2.2, 0⟩))))) ?_ ?_
      · skip
        refine zM (zB (t.contains 60)) ?_
        refine zr (zn (t.contains 60)) ?_
        refine zM (zB (!(t.contains 60))) ?_
        refine AOps.splitJ (t := 57) (b := !(t.contains 60)) (x := true) (y := (bif (!(decide (sigOf ((cutA 60 t).1) ≥ 0))) then true else (!(decide (RightT ⟨(((sigOf ((cutA 60 t).1)).toNat : Nat) : Int), 0, ((qv ((cutA 58 ((cutA 60 t).2.1)).1) : Nat) : Int), (cutA 58 (cutA 60 t).2.1).2.2, 0⟩))))) rfl (fun h13 => ?_) (fun h13 => ?_)
        · skip
          refine zs ?_
          refine zs ?_
          refine zr (zp true (zB true)) ?_
          refine zM (zB true) ?_
          refine zs ?_
          refine zs ?_
          refine zs ?_
          refine zr (zp true (zB true)) ?_
          exact AOps.nil rfl
        · skip
          refine zM (zB (decide (sigOf ((cutA 60 t).1) ≥ 0))) ?_
          refine zr (zn (decide (sigOf ((cutA 60 t).1) ≥ 0))) ?_
          refine zr (zp false (zB (!(decide (sigOf ((cutA 60 t).1) ≥ 0))))) ?_
          refine zM (zB (!(decide (sigOf ((cutA 60 t).1) ≥ 0)))) ?_
          refine AOps.splitJ (t := 61) (b := !(decide (sigOf ((cutA 60 t).1) ≥ 0))) (x := true) (y := (!(decide (RightT ⟨(((sigOf ((cutA 60 t).1)).toNat : Nat) : Int), 0, ((qv ((cutA 58 ((cutA 60 t).2.1)).1) : Nat) : Int), (cutA 58 (cutA 60 t).2.1).2.2, 0⟩)))) rfl (fun h14 => ?_) (fun h14 => ?_)
          · skip
            refine zs ?_
            refine zs ?_
            refine zs ?_
            refine zr (zp true (zB true)) ?_
            exact AOps.nil rfl
          · skip
            refine zr (zlL (.agg [zI (((sigOf ((cutA 60 t).1)).toNat : Nat) : Int), zI 0, zI ((qv ((cutA 58 ((cutA 60 t).2.1)).1) : Nat) : Int), zB ((cutA 58 (cutA 60 t).2.1).2.2), zI 0]) Tryz.underlying40 sizeOf_40) ?_
            refine zc [.agg [zI (((sigOf ((cutA 60 t).1)).toNat : Nat) : Int), zI 0, zI ((qv ((cutA 58 ((cutA 60 t).2.1)).1) : Nat) : Int), zB ((cutA 58 (cutA 60 t).2.1).2.2), zI 0]] Tryz.call36 (Right_any ⟨(((sigOf ((cutA 60 t).1)).toNat : Nat) : Int), 0, ((qv ((cutA 58 ((cutA 60 t).2.1)).1) : Nat) : Int), (cutA 58 (cutA 60 t).2.1).2.2, 0⟩ M) ?_
            rintro _ _ ⟨rfl, rfl⟩
            refine zr (zn (decide (RightT ⟨(((sigOf ((cutA 60 t).1)).toNat : Nat) : Int), 0, ((qv ((cutA 58 ((cutA 60 t).2.1)).1) : Nat) : Int), (cutA 58 (cutA 60 t).2.1).2.2, 0⟩))) ?_
            refine zr (zp false (zB (!(decide (RightT ⟨(((sigOf ((cutA 60 t).1)).toNat : Nat) : Int), 0, ((qv ((cutA 58 ((cutA 60 t).2.1)).1) : Nat) : Int), (cutA 58 (cutA 60 t).2.1).2.2, 0⟩))))) ?_
            exact AOps.nil rfl
      have hth := thr_of (t := t) (by assumption) (by assumption)
      refine zC (b := bif (!(t.contains 60)) then true else (bif (!(decide (sigOf ((cutA 60 t).1) ≥ 0))) then true else (!(decide (RightT ⟨(((sigOf ((cutA 60 t).1)).toNat : Nat) : Int), 0, ((qv ((cutA 58 ((cutA 60 t).2.1)).1) : Nat) : Int), (cutA 58 (cutA 60 t).2.1).2.2, 0⟩))))) rfl (fun h15 => ?_) (fun h15 => ?_)
      · skip
        have h15' : ¬ OkT t := (okt_no hth h15)
        clear h15
        refine zg ?_
        refine zr (Reader.build (xs := []) (Es := []) (places := places_40) rfl Tryz.underlying40 (by refine ⟨rfl, fun j p x hp hx => ?_⟩; match j, hp, hx with | _ + 0, hp, hx => cases hp) zero_40 rfl places_40_ok (cs := [zI 0, zI 0, zI 0, zB false, zI 0]) rfl) ?_
        refine zst sizeOf_40 (.agg [zI 0, zI 0, zI 0, zB false, zI 0]) ?_
        refine zM (zI 2) ?_
        refine zN ?_
        refine AWp.ret ?_
        exact ⟨.inl rfl, _, ResOf.cellTmp 2 2 0 5 40 _ _ (.agg [zI 0, zI 0, zI 0, zB false, zI 0]) rfl rfl Tryz.underlying40 sizeOf_40 rfl (Eq.refl true) 3 (zI 2) rfl (.inl rfl), ⟨by rw [(th_no (by assumption)).1, (th_no (by assumption)).2]; rfl, rfl⟩⟩
      · skip
        have h15' : OkT t := (okt_yes hth h15)
        clear h15
        refine AWp.skip ?_
        refine zg ?_
        refine zr (zlL (.agg [zI (((sigOf ((cutA 60 t).1)).toNat : Nat) : Int), zI 0, zI ((qv ((cutA 58 ((cutA 60 t).2.1)).1) : Nat) : Int), zB ((cutA 58 (cutA 60 t).2.1).2.2), zI 0]) Tryz.underlying40 sizeOf_40) ?_
        refine zst sizeOf_40 (.agg [zI (((sigOf ((cutA 60 t).1)).toNat : Nat) : Int), zI 0, zI ((qv ((cutA 58 ((cutA 60 t).2.1)).1) : Nat) : Int), zB ((cutA 58 (cutA 60 t).2.1).2.2), zI 0]) ?_
        refine zM (zI 0) ?_
        refine zN ?_
        refine AWp.ret ?_
        exact ⟨.inl rfl, _, ResOf.cellTmp 2 2 0 5 40 _ _ (.agg [zI (((sigOf ((cutA 60 t).1)).toNat : Nat) : Int), zI 0, zI ((qv ((cutA 58 ((cutA 60 t).2.1)).1) : Nat) : Int), zB ((cutA 58 (cutA 60 t).2.1).2.2), zI 0]) rfl rfl Tryz.underlying40 sizeOf_40 rfl (Eq.refl true) 3 (zI 0) rfl (.inl rfl), ⟨by rw [(th_ok (by assumption)).1, (th_ok (by assumption)).2, hth (okt_sig (by assumption))]; rfl, rfl⟩⟩
end
section
open Go.RowKit

set_option maxRecDepth 20000 in
theorem rWord_any (i : Int) (M : Nat → Option (List AV)) : ACall Tryz.prog 47 [zI i] M (fun r M' => r = .str (wordOf i) ∧ M = M') := by
  refine ACall.of Tryz.func47 rfl (n := 7) rfl rfl rfl ?_
  refine zg ?_
  refine zM (.str []) ?_
  refine zN ?_
  refine AWp.seq ?_
  refine zg ?_
  refine zM (zI i) ?_
  refine zr (zi (i == 0)) ?_
  refine zN ?_
  refine zC (b := i == 0) rfl (fun h1 => ?_) (fun h1 => ?_)
  · skip
    have h1' : i = 0 := (by have hh := eq_of_beq h1; omega)
    clear h1
    refine zg ?_
    refine zM (.str [109, 101, 109, 111, 114, 121]) ?_
    refine zN ?_
    refine AWp.ret ?_
    exact ⟨.inl rfl, _, ResOf.one 2 (.str [109, 101, 109, 111, 114, 121]) rfl rfl, ⟨congrArg AV.str (by unfold wordOf; first | (rw [if_pos (by assumption)]; rfl) | (rw [if_neg (by assumption), if_pos (by assumption)]; rfl) | (rw [if_neg (by assumption), if_neg (by assumption)]; rfl)), rfl⟩⟩
  · skip
    have h1' : ¬ (i = 0) := (by have hh := beq_eq_false_iff_ne.1 h1; omega)
    clear h1
    refine AWp.skip ?_
    refine AWp.seq ?_
    refine zg ?_
    refine zM (zI i) ?_
    refine zr (zi (i == 1)) ?_
    refine zN ?_
    refine zC (b := i == 1) rfl (fun h2 => ?_) (fun h2 => ?_)
    · skip
      have h2' : i = 1 := (by have hh := eq_of_beq h2; omega)
      clear h2
      refine zg ?_
      refine zM (.str [100, 105, 115, 107]) ?_
      refine zN ?_
      refine AWp.ret ?_
      exact ⟨.inl rfl, _, ResOf.one 2 (.str [100, 105, 115, 107]) rfl rfl, ⟨congrArg AV.str (by unfold wordOf; first | (rw [if_pos (by assumption)]; rfl) | (rw [if_neg (by assumption), if_pos (by assumption)]; rfl) | (rw [if_neg (by assumption), if_neg (by assumption)]; rfl)), rfl⟩⟩
    · skip
      have h2' : ¬ (i = 1) := (by have hh := beq_eq_false_iff_ne.1 h2; omega)
      clear h2
      refine AWp.skip ?_
      refine zg ?_
      refine zM (.str [112, 105, 100]) ?_
      refine zN ?_
      refine AWp.ret ?_
      exact ⟨.inl rfl, _, ResOf.one 2 (.str [112, 105, 100]) rfl rfl, ⟨congrArg AV.str (by unfold wordOf; first | (rw [if_pos (by assumption)]; rfl) | (rw [if_neg (by assumption), if_pos (by assumption)]; rfl) | (rw [if_neg (by assumption), if_neg (by assumption)]; rfl)), rfl⟩⟩
end
section
open Go.RowKit
end
end Go.Proofs.YtmmfkpbkacfegaaGreatDoor
