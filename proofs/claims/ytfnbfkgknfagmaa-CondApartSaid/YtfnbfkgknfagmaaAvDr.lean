/- Abstract values: regions that draw their order. -/
import Derived.Test.YtfnbfkgknfagmaaAvExt
import Derived.Test.YtfnbfkgknfagmaaReg
namespace Go.Proofs.Ytfnbfkgknfagmaa
open Go.RowKit

/-- What holds no memory, as it lies. -/
def conc : AV → Option Value
  | .lit v => some v
  | .str l => some (.string ⟨l.toArray⟩)
  | .tuple [.lit a, .lit b] => some (.tuple #[a, b])
  | .tuple [.str a, .lit b] => some (.tuple #[.string ⟨a.toArray⟩, b])
  | .tuple [.str a, .str b, .lit c] => some (.tuple #[.string ⟨a.toArray⟩, .string ⟨b.toArray⟩, c])
  | .tuple [.str a, .str b] => some (.tuple #[.string ⟨a.toArray⟩, .string ⟨b.toArray⟩])
  | _ => none

section
variable {P : Program} {n : Nat} {s : St} {ops : Array Oper} {o : Oper} {rest l : List Oper} {Q : St → Prop} {QE : Exit → St → Prop} {d f : Nat}

theorem relO_lit {G : Gh} {w : World} {q : Pos} {v u : Value} (h : RelO P G w q (.lit v) u) : u = v := by cases h; rfl
theorem relO_str {G : Gh} {w : World} {q : Pos} {l : List UInt8} {u : Value} (h : RelO P G w q (.str l) u) : u = .string ⟨l.toArray⟩ := by cases h; rfl

theorem conc_rel {G : Gh} {w : World} {p : Nat → Pos} {v : AV} {u u0 : Value} (hc : conc v = some u0) (h : RelS P G w p v u) : u = u0 := by
  unfold conc at hc
  split at hc
  · cases hc; exact RelS.lit h
  · cases hc; exact RelS.str h
  · cases hc
    obtain ⟨vs, rfl, hl, hr⟩ := h
    match vs, hl with
    | [x, y], _ => rw [relO_lit (hr 0 _ x rfl rfl), relO_lit (hr 1 _ y rfl rfl)]
  · cases hc
    obtain ⟨vs, rfl, hl, hr⟩ := h
    match vs, hl with
    | [x, y], _ => rw [relO_str (hr 0 _ x rfl rfl), relO_lit (hr 1 _ y rfl rfl)]
  · cases hc
    obtain ⟨vs, rfl, hl, hr⟩ := h
    match vs, hl with
    | [x, y, z], _ => rw [relO_str (hr 0 _ x rfl rfl), relO_str (hr 1 _ y rfl rfl), relO_lit (hr 2 _ z rfl rfl)]
  · cases hc
    obtain ⟨vs, rfl, hl, hr⟩ := h
    match vs, hl with
    | [x, y], _ => rw [relO_str (hr 0 _ x rfl rfl), relO_str (hr 1 _ y rfl rfl)]
  · cases hc

theorem conc_toS {G : Gh} {w : World} {p : Nat → Pos} {v : AV} {u0 : Value} (hc : conc v = some u0) : RelS P G w p v u0 := by
  unfold conc at hc
  split at hc
  · cases hc; exact RelV.lit _
  · cases hc; exact RelV.str _
  · cases hc
    refine ⟨[_, _], rfl, rfl, fun j c u h1 h2 => ?_⟩
    match j, h1, h2 with
    | 0, h1, h2 => cases h1; cases h2; exact RelV.lit _
    | 1, h1, h2 => cases h1; cases h2; exact RelV.lit _
    | _ + 2, h1, h2 => cases h1
  · cases hc
    refine ⟨[_, _], rfl, rfl, fun j c u h1 h2 => ?_⟩
    match j, h1, h2 with
    | 0, h1, h2 => cases h1; cases h2; exact RelV.str _
    | 1, h1, h2 => cases h1; cases h2; exact RelV.lit _
    | _ + 2, h1, h2 => cases h1
  · cases hc
    refine ⟨[_, _, _], rfl, rfl, fun j c u h1 h2 => ?_⟩
    match j, h1, h2 with
    | 0, h1, h2 => cases h1; cases h2; exact RelV.str _
    | 1, h1, h2 => cases h1; cases h2; exact RelV.str _
    | 2, h1, h2 => cases h1; cases h2; exact RelV.lit _
    | _ + 3, h1, h2 => cases h1
  · cases hc
    refine ⟨[_, _], rfl, rfl, fun j c u h1 h2 => ?_⟩
    match j, h1, h2 with
    | 0, h1, h2 => cases h1; cases h2; exact RelV.str _
    | 1, h1, h2 => cases h1; cases h2; exact RelV.str _
    | _ + 2, h1, h2 => cases h1
  · cases hc

def AOpsE (P : Program) (n : Nat) (ops : Array Oper) (l : List Oper) (s : St) (Q : St → Prop) : Prop :=
  ∀ (G : Gh) (a : Act) (W : World) (K : Act → Prop), RelSt P G n s a W → Fix G W → (∀ s' a', Q s' → RelSt P G n s' a' W → K a') → wpE P ops W K l a

theorem AOpsE.nil (h : Q s) : AOpsE P n ops [] s Q := fun G a W K hr _ hK => hK s a h hr

theorem AOpsE.read {v : AV} (hg : Wants ops s o) (hd : o.dst = some d) (hn : d < n) (h : Reader P n s o d v) (k : AOpsE P n ops rest (s.put d v) Q) : AOpsE P n ops (o :: rest) s Q := by
  intro G a W K hr hfx hK
  unfold wpE
  rw [if_pos (wants_eval hr (fun t => by omega) hg)]
  obtain ⟨u, hu, hrun⟩ := h G a W hr
  refine ⟨u, fun x => ?_, ?_⟩
  · rw [hrun x.val x.below]; exact ⟨rfl, rfl⟩
  · rw [hd]; exact k G _ W K (hr.put hn hu) hfx hK

theorem AOpsE.skip (hg : Skips ops s o) (hd : o.dst = some d) (hn : d < n) (k : AOpsE P n ops rest (s.put d (.lit undef)) Q) : AOpsE P n ops (o :: rest) s Q := by
  intro G a W K hr hfx hK
  unfold wpE
  rw [if_neg (by rw [skips_eval hr hg]; simp), hd]
  exact k G _ W K (hr.put hn (RelV.lit _)) hfx hK

theorem AOpsE.split {t : Nat} {b : Bool} (hs : s.get t = .lit (.bool b)) (hT : b = true → AOpsE P n ops l (s.put t (.lit (.bool true))) Q) (hF : b = false → AOpsE P n ops l (s.put t (.lit (.bool false))) Q) : AOpsE P n ops l s Q := by
  intro G a W K hr hfx hK
  cases b with
  | true => exact hT rfl G a W K (hr.over hs rfl) hfx hK
  | false => exact hF rfl G a W K (hr.over hs rfl) hfx hK

theorem AOpsE.splitJ {t : Nat} {b : Bool} {ls ks : List Nat} {S : Bool → St} {x y : Bool} (hs : s.get t = .lit (.bool b)) (hT : b = true → AOpsE P n ops l (s.put t (.lit (.bool true))) (Fin ls ks S x))
    (hF : b = false → AOpsE P n ops l (s.put t (.lit (.bool false))) (Fin ls ks S y)) : AOpsE P n ops l s (Fin ls ks S (bif b then x else y)) := by
  refine AOpsE.split hs (fun h => ?_) (fun h => ?_)
  · subst h; exact hT rfl
  · subst h; exact hF rfl

def noM : Nat → Option (List AV) := fun _ => none

/-- A call that answers what holds no memory. -/
theorem AOpsE.call {c : Call} {args : List AV} {v : AV} {u0 : Value} {M' : (Nat → Option (List AV)) → Prop} (hg : Wants ops s o) (hd : o.dst = some d) (hn : d < n) (ho : o.op = .call c) (hc : c.callee = .value (.func f))
    (henter : ∀ (vs : Array Value) (w : World), (callFunc f vs).run P w = .ok (.enter f vs) w) (hcon : ∀ x ∈ c.args, ∀ v cs, x = .const v → v = .agg cs → ∀ c ∈ cs, c.oneCell' = true)
    (hlen : c.args.size = args.length) (hargs : ∀ (j : Nat) x v, c.args[j]? = some x → args[j]? = some v → ArgOf s x v) (h : ACall P f args noM (fun r M1 => r = v ∧ M' M1)) (hv : conc v = some u0)
    (k : AOpsE P n ops rest (s.put d v) Q) : AOpsE P n ops (o :: rest) s Q := by
  intro G a W K hr hfx hK
  unfold wpE
  rw [if_pos (wants_eval hr (fun t => by omega) hg)]
  refine ⟨u0, fun x => ?_, ?_⟩
  · have hrun : (execOp a.eval o).run P x.val = .ok (.enter f (c.args.map a.eval)) x.val := by
      simp [execOp, ho, resolve, hc, Act.eval, Deferred.ofValue, invoke, henter]
    rw [hrun]
    refine ⟨rfl, ?_⟩
    let G0 : Gh := { G with owner := fun _ => none }
    have hfar : ∀ b, x.val.heap.size ≤ b → G0.tip b = 0 ∧ G0.owner b = none := fun b hb => ⟨(hr.mem.far b (Nat.le_trans x.below.size hb)).1, rfl⟩
    have st : Stab G W G0 x.val := by
      refine ⟨fun _ => Nat.le_refl _, fun b oo hoo => ?_, fun _ _ h => h⟩
      have hlt : b < W.heap.size := by
        rcases Nat.lt_or_ge b W.heap.size with h | h
        · exact h
        · rw [(hr.mem.far b h).1] at hoo; omega
      exact World.cell?_of_block (w := W) (a := ⟨b, oo, none⟩) (x.below.block b hlt)
    have hfx0 : Fix G0 x.val := by
      obtain ⟨F, h1, h2⟩ := hfx
      refine ⟨F, fun b o e => ?_, h2⟩
      obtain ⟨e1, e2, e3⟩ := h1 b o e
      exact ⟨Nat.lt_of_lt_of_le e1 x.below.size, (x.below.block b e1).trans e2, rfl⟩
    have hcall := h G0 x.val (c.args.map a.eval).toList ⟨(fun id cells hm => by cases hm), hfar, hr.mem.fin⟩ hfx0 (by simp [hlen]) (fun j y z hy hz => by
      rw [Array.toList_map, List.getElem?_map] at hz
      cases hq : c.args.toList[j]? with
      | none => simp [hq] at hz
      | some q =>
        simp only [hq, Option.map_some, Option.some.injEq] at hz
        subst hz
        have hq' : c.args[j]? = some q := by simpa using hq
        exact ((hargs j q y hq' hy).rel hr (hcon q (by have := List.mem_of_getElem? hq; simpa using this))).stab st)
    simp only [Array.toArray_toList] at hcall
    refine hcall.mono ?_
    rintro e w' ⟨r, M1, G', u, rfl, ⟨rfl, _⟩, _, hu, _, hk⟩
    have := conc_rel hv hu
    subst this
    exact RetE.of_below ⟨hk.os, hk.tape, hk.output, hk.size, fun b hb => (hk.free b hb rfl).2.1⟩
  · rw [hd]; exact k G _ W K (hr.put hn (conc_toS hv)) hfx hK

theorem RelSt.later {G : Gh} {a : Act} {w w' : World} (hr : RelSt P G n s a w) (hb : Below w.heap.size w w') : RelSt P G n s a w' ∧ Keep G w G w' := by
  obtain ⟨kp, st⟩ := below_keep (G := G) hb hr.mem.far
  refine ⟨⟨hr.size, hr.defers, fun i => ?_, fun k cells hk => ?_, ?_⟩, kp⟩
  · exact (hr.slot i).move st hb.size (fun _ _ _ => rfl) (fun c b h1 h2 => ⟨h2, hb.block b h1, rfl⟩)
  · have h0 := hr.loc k cells hk
    exact h0.move st hb.size (hb.block _ h0.lt) rfl rfl (fun c b h1 h2 => ⟨h2, hb.block b h1, rfl⟩)
  · exact hr.mem.move st hb.size (fun q b hq h1 h2 => ⟨h2, hb.block b h1, rfl⟩) (fun b hb' => hr.mem.far b (Nat.le_trans hb.size hb')) rfl

/-- A region that draws its order: m operations that read, in the text's order; then a tail that waits for them. -/
theorem AWp.drawn {id : Nat} (m : Nat) (hm : P.follows .mixedOrders = true) (hB : regB l m 0 = true) (h : AOpsE P n l.toArray (l.take m) s fun s1 => AOps P n l.toArray (l.drop m) s1 (QE .normal)) : AWp P n (.region id l.toArray true) s QE := by
  intro G a w K hr hfx hK
  refine wp_region_E0 m hm hB (h G a w _ hr hfx ?_)
  intro s1 a1 hq hr1 x
  obtain ⟨hr2, hk2⟩ := hr1.later x.below
  exact hq G a1 x.val K hr2 (hfx.keep hk2) fun s' G' a' w' hq' hr' hk' => hK _ _ _ _ _ hq' hr' (hk2.trans hk')

theorem AWp.drawnAll {id : Nat} (hm : P.follows .mixedOrders = true) (hB : regB l l.length 0 = true) (h : AOpsE P n l.toArray l s (QE .normal)) : AWp P n (.region id l.toArray true) s QE := by
  refine AWp.drawn l.length hm hB ?_
  rw [List.take_length, List.drop_length]
  intro G a w K hr hfx hK
  exact h G a w K hr hfx fun s' a' hq hr' => hK s' a' (AOps.nil hq) hr'

theorem AWp.drawnJ {id : Nat} {c : Code} (ls ks : List Nat) (S : Bool → St) {z : Bool} (hm : P.follows .mixedOrders = true) (hB : regB l l.length 0 = true) (h : AOpsE P n l.toArray l s (Fin ls ks S z)) (k : AWp P n c (S z) QE) : AWp P n (.seq (.region id l.toArray true) c) s QE := by
  refine AWp.seq (AWp.drawnAll hm hB (fun G a w K hr hfx hK => h G a w K hr hfx fun s' a' hq hr' => ?_))
  refine hK (S z) a' k ?_
  have := hr'.keep ls ks
  rw [show s'.keep ls ks = S z from hq] at this
  exact this
end
end Go.Proofs.Ytfnbfkgknfagmaa
