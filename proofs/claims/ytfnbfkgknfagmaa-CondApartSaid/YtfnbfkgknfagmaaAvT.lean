/- Abstract values, at the top: a law's body, told of from the call's start on: so that a row of the call's own may be written although it was read by others. -/
import Derived.Test.YtfnbfkgknfagmaaAvFnv
import Derived.Test.YtfnbfkgknfagmaaOpenA
namespace Go.Proofs.Ytfnbfkgknfagmaa
open Go.RowKit

section
variable {P : Program} {n : Nat} {s : St} {w0 : World} {Q : Exit → St → Prop} {ops : Array Oper} {b : Bool} {t : Nat}

/-- From the start on. -/
def TWp (P : Program) (n : Nat) (w0 : World) (c : Code) (s : St) (Q : Exit → St → Prop) : Prop :=
  ∀ (G : Gh) (a : Act) (w : World) (K : Exit → Act → World → Prop), RelSt P G n s a w → Fix G w → Keep (Gh.start w0) w0 G w →
    (∀ e s' G' a' w', Q e s' → RelSt P G' n s' a' w' → Fix G' w' → Keep (Gh.start w0) w0 G' w' → K e a' w') → c.wp P K a w

theorem TWp.of {c : Code} (h : AWp P n c s Q) : TWp P n w0 c s Q := fun G a w K hr hfx hk hK => h G a w K hr hfx fun e s' G' a' w' hq hr' hk' => hK e s' G' a' w' hq hr' (hfx.keep hk') (hk.trans hk')

theorem TWp.seq {x y : Code} (h : TWp P n w0 x s fun e s' => match e with | .normal => TWp P n w0 y s' Q | e => Q e s') : TWp P n w0 (.seq x y) s Q := by
  intro G a w K hr hfx hk hK
  refine wp_seq (h G a w _ hr hfx hk ?_)
  intro e s' G' a' w' hq hr' hfx' hk'
  cases e with
  | normal => exact hq G' a' w' K hr' hfx' hk' fun e s2 G2 a2 w2 hq2 hr2 hf2 hk2 => hK e s2 G2 a2 w2 hq2 hr2 hf2 hk2
  | _ => exact hK _ s' G' a' w' hq hr' hfx' hk'
theorem TWp.seqA {x y : Code} (h : AWp P n x s fun e s' => match e with | .normal => TWp P n w0 y s' Q | e => Q e s') : TWp P n w0 (.seq x y) s Q := TWp.seq (TWp.of h)
theorem TWp.skip (h : Q .normal s) : TWp P n w0 .skip s Q := TWp.of (AWp.skip h)
theorem TWp.ret (h : Q .ret s) : TWp P n w0 .ret s Q := TWp.of (AWp.ret h)
theorem TWp.exit {id : Nat} (h : Q (.exit id) s) : TWp P n w0 (.exit id) s Q := TWp.of (AWp.exit h)
theorem TWp.region {id : Nat} (h : AOps P n ops ops.toList s (Q .normal)) : TWp P n w0 (.region id ops false) s Q := TWp.of (AWp.region h)
theorem TWp.block {id : Nat} {c : Code} (h : TWp P n w0 c s fun e s' => match e with | .exit id' => if id' = id then Q .normal s' else Q (.exit id') s' | e => Q e s') : TWp P n w0 (.block id c) s Q := by
  intro G a w K hr hfx hk hK
  refine wp_block (h G a w _ hr hfx hk ?_)
  intro e s' G' a' w' hq hr' hfx' hk'
  cases e with
  | exit id' =>
    simp only [Exit.inBlock]
    split
    · rename_i he; simp only [he, if_true] at hq; exact hK _ _ _ _ _ hq hr' hfx' hk'
    · rename_i he; simp only [he, if_false] at hq; exact hK _ _ _ _ _ hq hr' hfx' hk'
  | _ => exact hK _ _ _ _ _ hq hr' hfx' hk'
theorem TWp.cond {c : Operand} {x y : Code} (hc : s.eval c = .lit (.bool b)) (hT : b = true → TWp P n w0 x s Q) (hF : b = false → TWp P n w0 y s Q) : TWp P n w0 (.cond c x y) s Q := by
  intro G a w K hr hfx hk hK
  have := hr.evLit hc
  cases b with
  | true => exact wp_cond_true this (hT rfl G a w K hr hfx hk hK)
  | false => exact wp_cond_false this (hF rfl G a w K hr hfx hk hK)
theorem TWp.loopE (ls ks : List Nat) (I : Nat → St → Prop) {c : Code} (h0 : ∃ m, I m (s.keep ls ks))
    (hr : ∀ m s, I m s → TWp P n w0 c s fun e s' => match e with | .normal => ∃ m', m' < m ∧ I m' (s'.keep ls ks) | e => Q e s') : TWp P n w0 (.loop c) s Q := by
  obtain ⟨m, h0⟩ := h0
  intro G a w K hrel hfx hk hK
  refine wp_loop_ind (fun m a' w' => ∃ s' G', I m s' ∧ RelSt P G' n s' a' w' ∧ Fix G' w' ∧ Keep (Gh.start w0) w0 G' w') m ⟨_, G, h0, hrel.keep ls ks, hfx, hk⟩ ?_
  rintro m1 a1 w1 ⟨s1, G1, hi, hr1, hf1, hk1⟩
  refine hr _ s1 hi G1 a1 w1 _ hr1 hf1 hk1 ?_
  intro e s2 G2 a2 w2 hq hr2 hf2 hk2
  cases e with
  | normal =>
    obtain ⟨m', hlt, hi'⟩ := hq
    exact ⟨m', hlt, _, G2, hi', hr2.keep ls ks, hf2, hk2⟩
  | _ => exact hK _ s2 G2 a2 w2 hq hr2 hf2 hk2
theorem TWp.regionJ {id : Nat} {c : Code} (ls ks : List Nat) (S : Bool → St) {z : Bool} (h : AOps P n ops ops.toList s (Fin ls ks S z)) (k : TWp P n w0 c (S z) Q) : TWp P n w0 (.seq (.region id ops false) c) s Q := by
  refine TWp.seqA (AWp.region (fun G a w K hr hfx hK => h G a w K hr hfx fun s' G' a' w' hq hr' hk => ?_))
  refine hK (S z) G' a' w' k ?_ hk
  have := hr'.keep ls ks
  rw [show s'.keep ls ks = S z from hq] at this
  exact this

/-- A slot whose value is known is told of as that value alone; and again as what it read as when the call began. -/
theorem TWp.unpin {c : Code} (i : Nat) {x : AV} {v : Value} (hs : s.get i = .pin x v) (k : TWp P n w0 c (s.put i (.lit v)) Q) : TWp P n w0 c s Q := by
  intro G a w K hr hfx hk hK
  refine k G a w K ⟨hr.size, hr.defers, fun j => ?_, hr.loc, hr.mem⟩ hfx hk hK
  show RelS P G w (.slot j) (look .any ((i, .lit v) :: s.fr) j) _
  simp only [look]
  split
  · rename_i e
    subst e
    have := hr.slot i
    rw [hs] at this
    rw [this.1]
    exact lit_toS v
  · exact hr.slot j
theorem TWp.pin {c : Code} (i : Nat) {x : AV} {v : Value} (hs : s.get i = .lit v) (hp : x.plain = true) (hv : RelV P (Gh.start w0) w0 x v) (k : TWp P n w0 c (s.put i (.pin x v)) Q) : TWp P n w0 c s Q := by
  intro G a w K hr hfx hk hK
  refine k G a w K ⟨hr.size, hr.defers, fun j => ?_, hr.loc, hr.mem⟩ hfx hk hK
  show RelS P G w (.slot j) (look .any ((i, .pin x v) :: s.fr) j) _
  simp only [look]
  split
  · rename_i e
    subst e
    have := hr.slot i
    rw [hs] at this
    have e := RelS.lit this
    rw [e]
    exact ⟨rfl, hp, hv.stab hk.stab⟩
  · exact hr.slot j
end

section
variable {P : Program} {n : Nat} {s : St} {w0 : World} {Q : Exit → St → Prop}
theorem TWp.drawnJ {id : Nat} {c : Code} {l : List Oper} (ls ks : List Nat) (S : Bool → St) {z : Bool} (hm : P.follows .mixedOrders = true) (hB : regB l l.length 0 = true) (h : AOpsE P n l.toArray l s (Fin ls ks S z)) (k : TWp P n w0 c (S z) Q) : TWp P n w0 (.seq (.region id l.toArray true) c) s Q := by
  refine TWp.seqA (AWp.drawnAll hm hB (fun G a w K hr hfx hK => h G a w K hr hfx fun s' a' hq hr' => ?_))
  refine hK (S z) a' k ?_
  have := hr'.keep ls ks
  rw [show s'.keep ls ks = S z from hq] at this
  exact this

/-- A law, by its body. -/
theorem TWp.law {f : FuncId} {fn : Func} {c : Code} {args : List AV} {vs : List Value} (hf : P.funcs[f]? = some fn) (hb : fn.body = some c) (hn : fn.ntmps = n) (hp' : args.length.ble n = true) (hfx : Fix (Gh.start w0) w0) (hlen : vs.length = args.length)
    (hrel : ∀ (j : Nat) x v, args[j]? = some x → vs[j]? = some v → RelS P (Gh.start w0) w0 (.slot j) x v)
    (h : TWp P n w0 c ⟨entryFr 0 args, [], noM⟩ fun e s' => (e = .ret ∨ e = .normal) ∧ ∃ r, ResOf P s' fn.results r ∧ r = .lit (.bool true)) : Calls P f vs.toArray w0 fun e w' => e = .returned (.bool true) ∧ Below w0.heap.size w0 w' := by
  have hp : args.length ≤ n := Nat.le_of_ble_eq_true hp'
  subst hn
  refine calls_of_wp hf hb ?_
  have hsz : vs.toArray.size = args.length := by simpa using hlen
  refine h (Gh.start w0) _ w0 _ ⟨?_, rfl, fun i => ?_, fun k cells hk => by simp [lookL] at hk, start_mem⟩ hfx (Keep.refl _ _) ?_
  · simp [hsz]; omega
  · show RelS P _ w0 (.slot i) (look .any (entryFr 0 args) i) _
    have hlk := look_entry args 0 i
    rw [Nat.zero_add] at hlk
    rw [hlk]
    rcases Nat.lt_or_ge i args.length with hi | hi
    · have e1 : args[i]? = some args[i] := List.getElem?_eq_getElem hi
      have e2 : vs[i]? = some (vs[i]'(by omega)) := List.getElem?_eq_getElem (by omega)
      have e3 : (vs.toArray ++ Array.replicate (fn.ntmps - vs.toArray.size) undef).getD i undef = vs[i]'(by omega) := by
        rw [Array.getD_eq_getD_getElem?, Array.getElem?_append_left (by simp; omega)]
        simp [e2]
      rw [e1, e3]
      exact hrel i _ _ e1 e2
    · rw [List.getElem?_eq_none hi]
      exact RelS.weak _
  · rintro e s' G' a' w' ⟨he, r, hres, rfl⟩ hr' _ hk
    obtain ⟨u, lab, hrun, hu, _⟩ := hr'.results hres
    have hu' : u = .bool true := RelS.lit hu
    subst hu'
    have hbel : Below w0.heap.size w0 w' := ⟨hk.os, hk.tape, hk.output, hk.size, fun k hk' => (hk.free k hk' rfl).2.1⟩
    rcases he with rfl | rfl
    · exact ⟨hr'.defers, _, hrun, rfl, hbel⟩
    · exact ⟨hr'.defers, _, hrun, rfl, hbel⟩
end

/-- Of what kind a cell's value is; 0: not told. -/
def vkd : Value → Nat
  | .string _ => 1 | .int .u8 _ => 6 | .int _ _ => 2 | .slice _ _ _ => 3 | .bool _ => 4 | _ => 5
def AV.kd : AV → Nat
  | .str _ => 1 | .list _ _ _ => 3 | .lit (.int .u8 _) => 6 | .lit (.int _ _) => 2 | .lit (.bool _) => 4 | .lit (.string _) => 1 | _ => 0
theorem kd_rel {P : Program} {G : Gh} {w : World} {x : AV} {v : Value} (h : RelV P G w x v) (h0 : x.kd ≠ 0) : vkd v = x.kd := by
  cases h with
  | lit v => cases v <;> first | rfl | exact absurd rfl h0 | (rename_i kx _; cases kx <;> rfl)
  | str | nil | zero | row => rfl
  | _ => exact absurd rfl h0

/-- Nothing of it lies in a row whose cells are of kind k. -/
inductive Clr (k : Nat) : AV → Prop
  | any : Clr k .any
  | lit (v : Value) : Clr k (.lit v)
  | str (l : List UInt8) : Clr k (.str l)
  | lptr (i o : Nat) : Clr k (.lptr i o)
  | gptr (i o : Nat) : Clr k (.gptr i o)
  | gmap (i : Nat) : Clr k (.gmap i)
  | list (o : Bool) (E : TypeId) (xs : List AV) (h0 : ∀ c ∈ xs.flatMap AV.cells, c.kd ≠ 0) (h1 : ∀ c ∈ xs.flatMap AV.cells, c.kd ≠ k) (h : ∀ c ∈ xs.flatMap AV.cells, Clr k c) : Clr k (.list o E xs)
  | agg (cs : List AV) (h : ∀ c ∈ cs, Clr k c) : Clr k (.agg cs)

section
variable {P : Program} {G : Gh} {w w' : World} {k : Nat}
theorem RelV.clr {x : AV} {v : Value} (hd : ∀ a : Addr, w'.cell? a ≠ w.cell? a → ∃ u, w.cell? a = some u ∧ vkd u = k) (h : RelV P G w x v) : Clr k x → RelV P G w' x v := by
  induction h with
  | any v => intro _; exact .any v
  | lit v => intro _; exact .lit v
  | str l => intro _; exact .str l
  | gptr id off b h => intro _; exact .gptr id off b h
  | gmap id b h => intro _; exact .gmap id b h
  | nil o E => intro _; exact .nil o E
  | zero E a => intro _; exact .zero E a
  | row o E xs b off cap size us hs hl hsc hcap hmax htip hc hr ih =>
    intro hcl
    cases hcl with
    | list _ _ _ hk0 hk1 hcl =>
    have hfl := flat_len hl
    have key : ∀ j, j < xs.length * size → ∃ c, (xs.flatMap AV.cells)[j]? = some c := fun j hj => ⟨_, List.getElem?_eq_getElem (by rw [hfl]; exact hj)⟩
    refine .row o E xs b off cap size us hs hl hsc hcap hmax htip (fun j hj => ?_) (fun j c hj => ih j c hj (hcl c (List.mem_of_getElem? hj)))
    obtain ⟨c, hcj⟩ := key j hj
    have h0 := hk0 c (List.mem_of_getElem? hcj)
    have hk := hk1 c (List.mem_of_getElem? hcj)
    by_cases e : w'.cell? ⟨b, off + j, none⟩ = w.cell? ⟨b, off + j, none⟩
    · rw [e]; exact hc j hj
    · obtain ⟨u, hu, hku⟩ := hd _ e
      rw [hc j hj] at hu
      cases hu
      exact absurd ((kd_rel (hr j c hcj) h0).symm.trans hku) hk
  | agg cs vs hl hr ih =>
    intro hcl
    cases hcl with
    | agg _ hcl => exact .agg cs vs hl fun j c v h1 h2 => ih j c v h1 h2 (hcl c (List.mem_of_getElem? h1))
  | fn f cap vs hl hr ih => intro hcl; cases hcl
  | tuple cs vs hl hr ih => intro hcl; cases hcl

theorem RelO.clr {q : Pos} {x : AV} {v : Value} (hd : ∀ a : Addr, w'.cell? a ≠ w.cell? a → ∃ u, w.cell? a = some u ∧ vkd u = k) (hz : w.heap.size ≤ w'.heap.size) (ho : ∀ b, G.owner b = some q → w'.heap[b]? = w.heap[b]?) (h : RelO P G w q x v) (hx : Clr k x) : RelO P G w' q x v := by
  cases x with
  | list o E xs =>
    cases o with
    | false => exact RelV.clr hd (x := .list false E xs) h hx
    | true =>
      cases hx with
      | list _ _ _ _ _ hcl =>
      rcases h with ⟨size, us, hs, hl, hsc, hown, hr, hb⟩ | h
      · exact .inl ⟨size, us, hs, hl, hsc, ownsRow_same hown (fun b e => ho b (hb b e).2.1), fun j c u h1 h2 => (hr j c u h1 h2).clr hd (hcl c (List.mem_of_getElem? h1)), fun b e => ⟨by have := (hb b e).1; omega, (hb b e).2⟩⟩
      · exact .inr h
  | _ => exact RelV.clr hd h hx
end

theorem RelS.clr {P : Program} {G : Gh} {w w' : World} {k : Nat} {p : Nat → Pos} {x : AV} {v : Value} (hd : ∀ a : Addr, w'.cell? a ≠ w.cell? a → ∃ u, w.cell? a = some u ∧ vkd u = k) (hz : w.heap.size ≤ w'.heap.size) (ho : ∀ b, G.owner b = some (p 0) → w'.heap[b]? = w.heap[b]?) (h : RelS P G w p x v) (hx : Clr k x) : RelS P G w' p x v := by
  cases x with
  | lptr => exact h
  | eptr | tuple | pin => cases hx
  | list o E xs => exact RelO.clr (q := p 0) (x := .list o E xs) hd hz ho h hx
  | any => exact RelO.clr (q := p 0) (x := .any) hd hz ho h hx
  | lit u => exact RelO.clr (q := p 0) (x := .lit u) hd hz ho h hx
  | str l => exact RelO.clr (q := p 0) (x := .str l) hd hz ho h hx
  | gptr i o => exact RelO.clr (q := p 0) (x := .gptr i o) hd hz ho h hx
  | gmap i => exact RelO.clr (q := p 0) (x := .gmap i) hd hz ho h hx
  | agg cs => exact RelO.clr (q := p 0) (x := .agg cs) hd hz ho h hx
  | fn f c => cases hx

theorem look_mapm (f : Nat → AV) (ls : List Nat) (i : Nat) : (i ∈ ls ∧ look .any (ls.map fun i => (i, f i)) i = f i) ∨ look .any (ls.map fun i => (i, f i)) i = .any := by
  induction ls with
  | nil => right; rfl
  | cons a r ih =>
    simp only [List.map_cons, look]
    split
    · rename_i h; subst h; left; exact ⟨List.mem_cons_self .., rfl⟩
    · exact ih.imp (fun h => ⟨List.mem_cons_of_mem _ h.1, h.2⟩) id
theorem flat_one {xs : List AV} (h : ∀ x ∈ xs, x.cells = [x]) : xs.flatMap AV.cells = xs := by
  induction xs with
  | nil => rfl
  | cons a r ih => rw [List.flatMap_cons, h a (List.mem_cons_self ..), ih (fun x hx => h x (List.mem_cons_of_mem _ hx))]; rfl
theorem mem_set' {xs : List AV} {m : Nat} {c x : AV} (h : x ∈ xs.set m c) : x ∈ xs ∨ x = c := List.mem_or_eq_of_mem_set h

section
variable {P : Program} {n : Nat} {s : St} {w0 : World} {Q : Exit → St → Prop}

/-- 'own[i] = v' in a row of the call's own. -/
theorem TWp.setElem {id r ri d1 d2 d3 m : Nat} {t te E : TypeId} {xs ys : List AV} {c : AV} {v : Value} {k : Nat} {o1 o2 o3 o4 : Oper} (ls : List Nat) (kk : IntKind)
    (h1 : o1.op = .move (.tmp r) ∧ o1.dst = some d1 ∧ o1.guard = none) (h2 : o2.op = .move (.tmp ri) ∧ o2.dst = some d2 ∧ o2.guard = none) (h3 : o3.op = .indexAddr t (.tmp d1) (.tmp d2) ∧ o3.dst = some d3 ∧ o3.guard = none) (h4 : o4.op = .store te (.tmp d3) (.const v) ∧ o4.dst = none ∧ o4.guard = none)
    (hd : d1 < n ∧ d2 < n ∧ d3 < n ∧ d1 ≠ d2 ∧ r ≠ d1 ∧ ri ≠ d1 ∧ ls.all (fun i => i != d1 && i != d2 && i != d3) = true ∧ r ≠ d2 ∧ r ≠ d3)
    (hu : P.underlying t = some (.slice E)) (hE : SizeOf P E 1) (hte : SizeOf P te 1) (hx : s.get r = .list true E xs) (hi : s.get ri = .lit (.int kk (m : Int))) (hm : m < xs.length) (hone : v.oneCell' = true) (hv : ∀ G w, RelV P G w c v) (hsc : c.scalar = true) (hcf : c.cells = [c])
    (hkd : ∀ x ∈ xs, x.kd = k ∧ k ≠ 0 ∧ x.cells = [x] ∧ Clr k x) (hclr : ∀ i ∈ ls, i ≠ r → Clr k (s.get i)) (hmem : s.mem = noM) (hys : xs.set m c = ys)
    (hk : Q .normal ((⟨ls.map fun i => (i, if i = r then .list true E ys else s.get i), [], noM⟩ : St))) : TWp P n w0 (.region id #[o1, o2, o3, o4] false) s Q := by
  subst hys
  intro G a w K hr hfx hkp hK
  have hsl := hr.slot r
  rw [hx] at hsl
  have hsl' : RelO P G w (.slot r 0) (.list true E xs) (a.tmps.getD r undef) := hsl
  have hxs : xs ≠ [] := by intro h; rw [h] at hm; simp at hm
  rcases hsl' with ⟨size, us, hs, hl, hsc1, hown, hrr, hb⟩ | ⟨h, _⟩
  · obtain ⟨hul, hown2⟩ := hown
    have hsize : size = 1 := by
      unfold SizeOf at hs hE
      rw [hs] at hE
      simpa using hE
    subst hsize
    rcases hown2 with ⟨_, h0⟩ | ⟨g, cap, cur, hvr, _, hh, hc, hmx, hz, ht⟩
    · exact absurd (List.length_eq_zero_iff.1 h0) hxs
    · obtain ⟨hb1, hb2, hb3⟩ := hb g (by rw [hvr]; rfl)
      have hsi := hr.slot ri
      rw [hi] at hsi
      have hvi : a.tmps.getD ri undef = .int kk (m : Int) := RelS.lit hsi
      obtain ⟨hd1, hd2, hd3, hd12, hrd1, hrid1, hall, hrd2, hrd3⟩ := hd
      have hflat := flat_one (fun x hx => (hkd x hx).2.2.1)
      have hcur : cur.size = cap := by omega
      have hmc : m < cur.size := by omega
      -- the world behind
      obtain ⟨W', hW⟩ : ∃ W', W' = w.setRow g (cur.toList.take m ++ [v] ++ cur.toList.drop (m + 1)).toArray := ⟨_, rfl⟩
      have hcl1 : v.cells = #[v] := by cases v <;> first | rfl | cases hone
      have hrun : (storeVar te ⟨g, m, none⟩ v).run P w = .ok () W' := by
        have := run_storeVar_at (P := P) (t := te) (off := m) (v := v) hh hte (by rw [hcl1]; rfl) (by rw [hcl1]; intro u hu; simp at hu; rw [hu]; exact hone) (by omega)
        rw [hcl1] at this
        rw [hW]; exact this
      have hheap : W'.heap[g]? = some (.cells (cur.toList.take m ++ [v] ++ cur.toList.drop (m + 1)).toArray E (0, 0)) := by rw [hW]; exact setRow_heap w g cur _ E _ hh
      have hoth : ∀ b, b ≠ g → W'.heap[b]? = w.heap[b]? := fun b h => by rw [hW]; exact setRow_other w g b _ h
      have hzz : W'.heap.size = w.heap.size := by rw [hW]; simp
      have hcurset : cur.toList.take m ++ [v] ++ cur.toList.drop (m + 1) = cur.toList.set m v := set_take_drop _ _ _ (by simpa using hmc)
      have husm : ∀ j, j < xs.length → ∃ u, us[j]? = some u ∧ cur[j]? = some u := by
        intro j hj
        have h1 : us[j]? = some (us[j]'(by omega)) := List.getElem?_eq_getElem (by omega)
        refine ⟨_, h1, ?_⟩
        have h2 : (cur.toList.take (xs.length * 1))[j]? = some (us[j]'(by omega)) := by rw [ht]; exact h1
        rw [List.getElem?_take_of_lt (by omega)] at h2
        simpa using h2
      have hdiff : ∀ a : Addr, W'.cell? a ≠ w.cell? a → ∃ u, w.cell? a = some u ∧ vkd u = k := by
        intro ad hne
        by_cases hbg : ad.block = g
        · cases hsp : ad.spot with
          | some sp =>
            refine absurd ?_ hne
            simp only [World.cell?, hsp, Option.isSome_some, if_true]
            rcases W'.heap[ad.block]? with _ | o1 <;> rcases w.heap[ad.block]? with _ | o2 <;> first | rfl | (cases o1 <;> rfl) | (cases o2 <;> rfl) | (cases o1 <;> cases o2 <;> rfl)
          | none =>
            simp only [World.cell?, hbg, hheap, hh, hsp, Option.isSome_none, Bool.false_eq_true, if_false] at hne ⊢
            rw [hcurset] at hne
            by_cases hom : ad.off = m
            · obtain ⟨u, hu1, hu2⟩ := husm m hm
              rw [hom]
              refine ⟨u, hu2, ?_⟩
              have hxm : xs[m]? = some xs[m] := List.getElem?_eq_getElem hm
              have hkx := hkd xs[m] (List.getElem_mem _)
              have hrel := hrr m xs[m] u (by rw [hflat]; exact hxm) hu1
              rw [kd_rel hrel (by rw [hkx.1]; exact hkx.2.1), hkx.1]
            · exact absurd (by simp [List.getElem?_set_ne (Ne.symm hom)]) hne
        · exact absurd (by simp only [World.cell?, hoth _ hbg]) hne
      -- the walk
      let a1 := a.put (some d1) (.slice (some ⟨g, 0, none⟩) xs.length cap)
      let a2 := a1.put (some d2) (.int kk (m : Int))
      let a3 := a2.put (some d3) (.pointer (some ⟨g, m, none⟩))
      have sz1 : a1.tmps.size = n := by simp [a1, Act.put, hr.size]
      have sz2 : a2.tmps.size = n := by simp [a2, a1, Act.put, hr.size]
      have sz3 : a3.tmps.size = n := by simp [a3, a2, a1, Act.put, hr.size]
      have e1 : a.eval (.tmp r) = .slice (some ⟨g, 0, none⟩) xs.length cap := hvr
      have e2 : a1.eval (.tmp ri) = .int kk (m : Int) := by
        show a1.tmps.getD ri undef = _
        rw [getD_put _ _ _ _ (by rw [hr.size]; exact hd1), if_neg hrid1]; exact hvi
      have e3 : a2.eval (.tmp d1) = .slice (some ⟨g, 0, none⟩) xs.length cap := by
        show a2.tmps.getD d1 undef = _
        rw [getD_put _ _ _ _ (by rw [sz1]; exact hd2), if_neg hd12, getD_put _ _ _ _ (by rw [hr.size]; exact hd1), if_pos rfl]
      have e4 : a2.eval (.tmp d2) = .int kk (m : Int) := by
        show a2.tmps.getD d2 undef = _
        rw [getD_put _ _ _ _ (by rw [sz1]; exact hd2), if_pos rfl]
      have e5 : a3.eval (.tmp d3) = .pointer (some ⟨g, m, none⟩) := by
        show a3.tmps.getD d3 undef = _
        rw [getD_put _ _ _ _ (by rw [sz2]; exact hd3), if_pos rfl]
      have r1 : (execOp a.eval o1).run P w = .ok (.value (.slice (some ⟨g, 0, none⟩) xs.length cap)) w := by simp [execOp, h1.1, e1]
      have r2 : (execOp a1.eval o2).run P w = .ok (.value (.int kk (m : Int))) w := by simp [execOp, h2.1, e2]
      have r3 : (execOp a2.eval o3).run P w = .ok (.value (.pointer (some ⟨g, m, none⟩))) w := by
        simp [execOp, h3.1, Instr.indexAt, asIntOf, e3, e4, run_underlying hu, run_size hE, hm, add_at]
      have r4 : (execOp a3.eval o4).run P w = .ok .skip W' := by
        have ec : a3.eval (.const v) = v := rfl
        simp [execOp, h4.1, Instr.storeAt, Instr.sureAddr, e5, ec, hrun]
      have wt : ∀ (o : Oper) (y : Nat → Option Bool), o.guard = none → Region.wanted o y = true := fun o y h => by unfold Region.wanted; rw [h]
      refine wp_region_list ?_
      show wpList P _ _ [o1, o2, o3, o4] a w
      simp only [wpList]
      rw [if_pos (wt o1 _ h1.2.2)]
      left
      unfold Oper.wp
      rw [r1, Oper.upon_value, h1.2.1]
      rw [if_pos (wt o2 _ h2.2.2)]
      left
      show Oper.upon _ _ _ _ _ ((execOp a1.eval o2).run P w)
      rw [r2, Oper.upon_value, h2.2.1]
      rw [if_pos (wt o3 _ h3.2.2)]
      left
      show Oper.upon _ _ _ _ _ ((execOp a2.eval o3).run P w)
      rw [r3, Oper.upon_value, h3.2.1]
      rw [if_pos (wt o4 _ h4.2.2)]
      left
      show Oper.upon _ _ _ _ _ ((execOp a3.eval o4).run P w)
      rw [r4, Oper.upon_skip, h4.2.1]
      have hne_g : ∀ b q, G.owner b = some q → q ≠ .slot r 0 → b ≠ g := fun b q h1 h2 e => by subst e; rw [hb2] at h1; exact h2 (Option.some.inj h1).symm
      have hnone_g : ∀ b, G.owner b = none → b ≠ g := fun b h e => by subst e; rw [hb2] at h; cases h
      show K .normal a3 W'
      refine hK .normal _ G a3 W' hk ⟨sz3, by simpa [a3, a2, a1, Act.put] using hr.defers, fun i => ?_, (fun k1 cells hk1 => by cases hk1), ⟨(fun _ _ h => by cases h), (fun b hb => hr.mem.far b (by omega)), hr.mem.fin⟩⟩ ?_ ?_
      · show RelS P G W' (.slot i) (look .any (ls.map fun i => (i, if i = r then .list true E (xs.set m c) else s.get i)) i) _
        rcases look_mapm (fun i => if i = r then .list true E (xs.set m c) else s.get i) ls i with ⟨hil, e⟩ | e
        · rw [e]
          have hia := List.all_eq_true.1 hall i hil
          simp only [Bool.and_eq_true, bne_iff_ne, ne_eq] at hia
          have htm : a3.tmps.getD i undef = a.tmps.getD i undef := by
            rw [getD_put _ _ _ _ (by rw [sz2]; exact hd3), if_neg hia.2, getD_put _ _ _ _ (by rw [sz1]; exact hd2), if_neg hia.1.2, getD_put _ _ _ _ (by rw [hr.size]; exact hd1), if_neg hia.1.1]
          rw [htm]
          by_cases eir : i = r
          · subst eir
            simp only [if_true]
            rw [show a.tmps.getD i undef = _ from hvr]
            have hsetlen : (xs.set m c).length = xs.length := by simp
            refine .inl ⟨1, us.set m v, hs, fun x hx => ?_, fun x hx cc hcc => ?_, ⟨by rw [hsetlen]; simpa using hul, .inr ⟨g, cap, _, by rw [hsetlen], Nat.zero_le _, hheap, by rw [hsetlen]; exact hc, hmx, ?_, ?_⟩⟩, fun j cc u h1 h2 => ?_, fun b hbb => ?_⟩
            · rcases mem_set' hx with h | h
              · exact hl x h
              · subst h; rw [hcf]; rfl
            · rcases mem_set' hx with h | h
              · exact hsc1 x h cc hcc
              · subst h; rw [hcf] at hcc; simp at hcc; subst hcc; exact hsc
            · rw [hcurset]; simp; omega
            · rw [hcurset, hsetlen, List.toList_toArray, List.take_set, ht]
            · rw [flat_one (fun x hx => by
                rcases mem_set' hx with h | h
                · exact (hkd x h).2.2.1
                · subst h; exact hcf), List.getElem?_set] at h1
              rw [List.getElem?_set] at h2
              by_cases ej : m = j
              · subst ej
                rw [if_pos rfl, if_pos hm] at h1
                rw [if_pos rfl, if_pos (by omega)] at h2
                cases h1; cases h2
                exact hv G W'
              · rw [if_neg ej] at h1 h2
                exact (hrr j cc u (by rw [hflat]; exact h1) h2).clr hdiff (hkd cc (List.mem_of_getElem? h1)).2.2.2
            · simp only [Value.ownBlock, Option.some.injEq] at hbb
              subst hbb
              exact ⟨by omega, hb2, by rw [hsetlen]; exact hb3⟩
          · simp only [eir, if_false]
            exact (hr.slot i).clr hdiff (by omega) (fun b ho => hoth b (hne_g b _ ho (fun h => by injection h with h3; exact eir h3))) (hclr i hil eir)
        · rw [e]; exact RelS.weak _
      · obtain ⟨F, f1, f2⟩ := hfx
        refine ⟨F, fun b ob e => ?_, f2⟩
        obtain ⟨g1, g2, g3⟩ := f1 b ob e
        exact ⟨by omega, (hoth b (hnone_g b g3)).trans g2, g3⟩
      · have hfree : ∀ b, b < w0.heap.size → G.owner b = none ∧ W'.heap[b]? = w0.heap[b]? ∧ G.tip b = (Gh.start w0).tip b := fun b hb => by
          obtain ⟨k1, k2, k3⟩ := hkp.free b hb rfl
          exact ⟨k1, (hoth b (hnone_g b k1)).trans k2, k3⟩
        refine ⟨by rw [hW]; exact hkp.os, by rw [hW]; exact hkp.tape, by rw [hW]; exact hkp.output, by have := hkp.size; omega, fun b hb _ => hfree b hb, ⟨hkp.stab.tip, fun b oo hoo => ?_, hkp.stab.mb⟩⟩
        have hb : b < w0.heap.size := by
          rcases Nat.lt_or_ge b w0.heap.size with h | h
          · exact h
          · rw [start_far h] at hoo; omega
        exact World.cell?_of_block (w := w0) (a := ⟨b, oo, none⟩) (hfree b hb).2.1
  · exact absurd h hxs
end
end Go.Proofs.Ytfnbfkgknfagmaa
