/- From a call's arguments, as the form hands them, to abstract values; and back. -/
import Derived.Test.YtfnbfkgknfagmaaAvPtr
import Derived.ProofKit
import Derived.OpenShut
import Derived.Deep.Slices
namespace Go.Proofs.Ytfnbfkgknfagmaa
open Go.RowKit

/-- The ghost of a call's start: every block stays. -/
def Gh.start (w : World) : Gh := { tip := fun b => match w.heap[b]? with | some (.cells arr _ _) => arr.size | _ => 0, owner := fun _ => none, lb := fun _ => 0, mb := fun _ => none }
theorem start_tip {w : World} {b : Nat} {arr : Array Value} {T : TypeId} {fr : Nat × Nat} (h : w.heap[b]? = some (.cells arr T fr)) : (Gh.start w).tip b = arr.size := by
  show (match w.heap[b]? with | some (.cells arr _ _) => arr.size | _ => 0) = arr.size
  rw [h]
theorem start_far {w : World} {b : Nat} (h : w.heap.size ≤ b) : (Gh.start w).tip b = 0 := by
  show (match w.heap[b]? with | some (.cells arr _ _) => arr.size | _ => 0) = 0
  rw [Array.getElem?_eq_none h]

section
variable {P : Program} {w : World} {H : Type} {enc : TypeId × Value → H} {r : Reach} {b0 : Nat} {t e : TypeId} {v : Value} {d : DataW H} {ps : List MemPlace}

theorem start_mem : RelM P (Gh.start w) w noM := ⟨(fun _ _ h => by cases h), (fun b hb => ⟨start_far hb, rfl⟩), 0, fun _ _ => rfl⟩

/-- A law's contract, as the form asks it. -/
theorem ACall.lift {f : FuncId} {args : List AV} {vs : List Value} {Q : (Nat → Option (List AV)) → Prop} (h : ACall P f args noM fun r M' => r = .lit (.bool true) ∧ Q M') (hfx : Fix (Gh.start w) w)
    (hlen : vs.length = args.length) (hrel : ∀ (j : Nat) x v, args[j]? = some x → vs[j]? = some v → RelV P (Gh.start w) w x v) : Calls P f vs.toArray w fun e w' => e = .returned (.bool true) ∧ Below w.heap.size w w' := by
  refine (h (Gh.start w) w vs start_mem hfx hlen hrel).mono ?_
  rintro e w' ⟨r, M', G', u, rfl, ⟨rfl, _⟩, _, hu, _, hk⟩
  have : u = .bool true := RelS.lit hu
  subst this
  exact ⟨rfl, hk.os, hk.tape, hk.output, hk.size, fun k hk' => (hk.free k hk' rfl).2.1⟩

/-- A slice's address. -/
theorem okWide_at {a : Addr} {len cap : Nat} (ht : P.underlying t = some (.slice e)) (hv : Value.okWide P w r b0 t (.slice (some a) len cap)) : a = ⟨a.block, a.off, none⟩ := by
  simp only [Value.okWide, ht, Cell.okWide, Cell.ok, World.has] at hv
  obtain ⟨_, _, _, h, _⟩ := hv
  cases a
  simp at h
  subst h
  rfl

theorem u8_of {n : Int} (h : (Lit.int .u8 n).wf = true) : ((UInt8.ofNat n.toNat).toNat : Int) = n := by
  have h' : 0 ≤ n ∧ n ≤ 255 := by simp only [Lit.wf, Bool.and_eq_true, decide_eq_true_eq] at h; exact h
  rw [UInt8.toNat_ofNat_of_lt' (by show n.toNat < 256; omega)]
  omega

theorem open_relBytes (ht : P.underlying t = some (.slice e)) (he : P.underlying e = some (.int .u8)) (hce : P.cellsOf e = 1) (hs : SizeOf P e 1) (hv : Value.okWide P w r b0 t v) (h : DataW.Trod enc P w 0 (fun _ => true) true t v d ps) :
    ∃ l : List UInt8, RelV P (Gh.start w) w (.list false e (byteAVs l)) v := by
  obtain ⟨a0, len, cap, rfl⟩ := Go.WideShapes.okWide_slice ht hv
  obtain ⟨fuel, hf⟩ := h
  rcases Deep.open_slice1 ht hce hf with ⟨hcs, _⟩ | ⟨a, len', cap', m, n, V, D, Pl, hcs, _, hl, hm, hmm, _, hel⟩
  · simp [Value.cells] at hcs
    obtain ⟨rfl, rfl, rfl⟩ := hcs
    exact ⟨[], .nil _ _⟩
  · simp [Value.cells] at hcs
    obtain ⟨rfl, rfl, rfl⟩ := hcs
    have ha := okWide_at ht hv
    have hmm' : len ≤ m := by rw [hmm]; simp; omega
    have hs0 : a.spot = none := by rw [ha]
    have key : ∀ i, ∃ q : Int, i < len → w.cell? ⟨a.block, a.off + i, none⟩ = some (.int .u8 q) ∧ (Lit.int .u8 q).wf = true := by
      intro i
      by_cases hi : i < len
      · obtain ⟨hc, hd⟩ := hel i (by omega)
        obtain ⟨q, hq, _, hw⟩ := DataW.trod_int he hd
        simp at hq
        rw [hq] at hc
        have hadd : a.add i = ⟨a.block, a.off + i, none⟩ := by rw [ha]; exact add_at _ _ _
        rw [hadd] at hc
        exact ⟨q, fun _ => ⟨hc, hw⟩⟩
      · exact ⟨0, fun h => (hi h).elim⟩
    let l : List UInt8 := (List.range len).map fun i => UInt8.ofNat (Classical.choose (key i)).toNat
    have hll : l.length = len := by simp [l]
    have hget : ∀ i, i < len → w.cell? ⟨a.block, a.off + i, none⟩ = some (.int .u8 (l.getD i 0).toNat) := by
      intro i hi
      obtain ⟨h1, h2⟩ := Classical.choose_spec (key i) hi
      rw [h1]
      have : l.getD i 0 = UInt8.ofNat (Classical.choose (key i)).toNat := by simp [l, List.getD_eq_getElem?_getD, hi]
      rw [this, u8_of h2]
    refine ⟨l, ?_⟩
    rw [ha, show Value.slice (some ⟨a.block, a.off, none⟩) len cap = .slice (some ⟨a.block, a.off, none⟩) (byteAVs l).length cap by rw [byteAVs_len, hll]]
    refine RelV.row false e (byteAVs l) a.block a.off cap 1 (fun j => .int .u8 (l.getD j 0).toNat) hs (byteAVs_cells l) (byteAVs_scalar l) (by rw [byteAVs_len, hll]; exact hl) hm (fun h => ?_) (fun j hj => ?_) (fun j c hj => ?_)
    · rw [byteAVs_len, hll] at h ⊢
      have hc := hget (len - 1) (by omega)
      simp only [World.cell?] at hc
      cases hb : w.heap[a.block]? with
      | none => simp [hb] at hc
      | some o =>
        cases o with
        | cells arr T fr =>
          rw [start_tip hb]
          simp only [hb, Option.isSome_none, Bool.false_eq_true, if_false] at hc
          have := (Array.getElem?_eq_some_iff.1 hc).1
          omega
        | _ => simp [hb] at hc
    · rw [byteAVs_len, hll] at hj
      exact hget j (by omega)
    · rw [byteAVs_flat, byteAVs_get] at hj
      cases hx : l[j]? with
      | none => simp [hx] at hj
      | some x =>
        simp only [hx, Option.map_some, Option.some.injEq] at hj
        subst hj
        rw [List.getD_eq_getElem?_getD, hx]
        exact .lit _

theorem open_relStr (ht : P.underlying t = some .string) (hv : Value.okWide P w r b0 t v) (h : DataW.Trod enc P w 0 (fun _ => true) true t v d ps) :
    ∃ l : List UInt8, v = .string ⟨l.toArray⟩ ∧ l.length ≤ maxLen := by
  obtain ⟨s, rfl, _, _, hs⟩ := Go.ChangeMaps.open_string ht hv h
  exact ⟨s.data.toList, by simp, by simpa using hs⟩
end
end Go.Proofs.Ytfnbfkgknfagmaa
