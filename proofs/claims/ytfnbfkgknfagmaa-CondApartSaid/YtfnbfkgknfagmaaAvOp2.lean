/- Abstract values: literals, variables, stores, conversions. -/
import Derived.Test.YtfnbfkgknfagmaaAvBld
import Derived.Laws.OwnMore
namespace Go.Proofs.Ytfnbfkgknfagmaa
open Go.RowKit

/-- The zero cells; Es: the element types of slices among them. -/
def zcells : List Value → List TypeId → List AV
  | [], _ => []
  | .slice none 0 0 :: r, E :: Es => (if E = 0 then .lit (.slice none 0 0) else .list false E []) :: zcells r Es
  | .slice none 0 0 :: r, [] => .list false 0 [] :: zcells r []
  | v :: r, Es => ofCell v :: zcells r Es

section
variable {P : Program} {n : Nat} {s : St} {ops : Array Oper} {o : Oper} {rest : List Oper} {Q : St → Prop} {d : Nat} {t t' E : TypeId} {x y : Operand} {G : Gh} {a : Act} {w : World}

theorem zcells_rel : ∀ (zs : List Value) (Es : List TypeId), (∀ z ∈ zs, z.oneCell' = true) → RelL P G w (zcells zs Es) zs := by
  intro zs
  induction zs with
  | nil => intro Es _; exact ⟨rfl, fun j c u h => by simp [zcells] at h⟩
  | cons z r ih =>
    intro Es hz
    have one : ∀ (c : AV) (cs : List AV), RelV P G w c z → RelL P G w cs r → RelL P G w (c :: cs) (z :: r) := by
      intro c cs h1 h2
      refine ⟨by simp [h2.1], fun j c' u hc hu => ?_⟩
      cases j with
      | zero => simp at hc hu; subst hc; subst hu; exact h1
      | succ j => exact h2.2 j c' u (by simpa using hc) (by simpa using hu)
    have hr : ∀ Es, RelL P G w (zcells r Es) r := fun Es => ih Es (fun z hz' => hz z (List.mem_cons_of_mem _ hz'))
    by_cases hz' : z = .slice none 0 0
    · subst hz'
      cases Es with
      | nil => exact one _ _ (.nil _ _) (hr _)
      | cons E Es =>
        refine one _ _ ?_ (hr _)
        split
        · exact .lit _
        · exact .nil _ _
    · have e : zcells (z :: r) Es = ofCell z :: zcells r Es := by
        cases z with
        | slice a l c => cases a <;> cases l <;> cases c <;> first | rfl | exact absurd rfl hz'
        | _ => rfl
      rw [e]
      exact one _ _ (relV_ofCell _ (hz _ (List.mem_cons_self ..))) (hr _)

/-- Constants among the operands are one cell each, or cells. -/
def Operand.ok : Operand → Bool
  | .const (.agg cs) => cs.toList.all fun c => c.oneCell'
  | _ => true
theorem ok_const {x : Operand} (h : Operand.ok x = true) : ∀ v cs, x = .const v → v = .agg cs → ∀ c ∈ cs, c.oneCell' = true := by
  rintro v cs rfl rfl c hc
  exact List.all_eq_true.1 h c (by simpa using hc)

/-- Parts of a literal. -/
structure Parts (s : St) (ps : Array (Nat × Operand)) (xs : List (Nat × AV)) : Prop where
  len : ps.size = xs.length
  arg : ∀ (j : Nat) p x, ps[j]? = some p → xs[j]? = some x → p.1 = x.1 ∧ ArgOf s p.2 x.2 ∧ x.2.part = true ∧ Operand.ok p.2 = true

theorem Parts.rel {ps : Array (Nat × Operand)} {xs : List (Nat × AV)} (h : Parts s ps xs) (hr : RelSt P G n s a w) : (ps.map fun (i, x) => (i, a.eval x)).toList.length = xs.length ∧
    ∀ (j : Nat) p q, xs[j]? = some p → (ps.map fun (i, x) => (i, a.eval x)).toList[j]? = some q → p.1 = q.1 ∧ RelV P G w p.2 q.2 ∧ p.2.part = true := by
  refine ⟨by simp [h.len], fun j p q hp hq => ?_⟩
  rw [Array.toList_map, List.getElem?_map] at hq
  cases hy : ps.toList[j]? with
  | none => simp [hy] at hq
  | some y =>
    simp only [hy, Option.map_some, Option.some.injEq] at hq
    subst hq
    obtain ⟨h1, h2, h3, h4⟩ := h.arg j y p (by simpa using hy) hp
    exact ⟨h1.symm, h2.rel hr (ok_const h4), h3⟩

/-- A struct literal. -/
theorem Reader.build {ps : Array (Nat × Operand)} {xs : List (Nat × AV)} {zs : Array Value} {Es : List TypeId} {cs : List AV} {fs : Array Field} {places : List (Nat × Nat)} (ho : o.op = .build t ps) (hu : P.underlying t = some (.struct fs)) (hp : Parts s ps xs)
    (hz : (P.info? t).map (·.zero) = some (some (.agg zs))) (hz1 : zs.toList.all (fun c => c.oneCell') = true) (hpl : ∀ w : World, (fs.mapM fun f => (do pure (f.offset, ← sizeOf f.type) : Sem (Nat × Nat))).run P w = .ok places.toArray w)
    (hf : fillA (places[·]?) (zcells zs.toList Es) xs = some cs) : Reader P n s o d (.agg cs) := by
  intro G a w hr
  obtain ⟨h1, h2⟩ := hp.rel hr
  obtain ⟨arr, hfill, hrel⟩ := fill_rel (P := P) (G := G) (w := w) (places[·]?) xs _ (zcells zs.toList Es) zs cs h1 h2 (zcells_rel _ _ (List.all_eq_true.1 hz1)) hf
  refine ⟨.agg arr, ?_, fun w' _ => ?_⟩
  · have := RelV.agg cs arr.toList hrel.1 hrel.2
    simp only [Array.toArray_toList] at this
    exact this
  · cases hi : P.info? t with
    | none => simp [hi] at hz
    | some i =>
      simp only [hi, Option.map_some, Option.some.injEq] at hz
      have hfill' : Instr.fill (fun i : Nat => places[i]?) zs (Array.map (fun x => (x.1, a.eval x.2)) ps).toList = some arr := hfill
      rw [Array.toList_map] at hfill'
      have hpl' : (Array.mapM (fun f : Field => Prod.mk f.offset <$> sizeOf f.type) fs).run P w' = .ok places.toArray w' := by simpa using hpl w'
      simp [execOp, ho, Instr.build, zeroValue, typeInfo, hi, hz, Value.cells, run_underlying hu, hpl', Result.andThen, hfill']

theorem zero_flat {z : Value} {size len : Nat} (hz : z.cells.size = size) : ((Array.range (len * size)).map (z.cells[· % z.cells.size]!)).toList = (List.replicate len z.cells.toList).flatten := by
  rw [Array.toList_map, Array.toList_range]
  induction len with
  | zero => simp
  | succ len ih =>
    rw [Nat.add_mul, Nat.one_mul, List.range_add, List.map_append, ih, List.replicate_succ', List.flatten_append]
    congr 1
    simp only [List.map_map, List.flatten_cons, List.flatten_nil, List.append_nil]
    apply List.ext_getElem
    · simp [hz]
    · intro j h1 h2
      simp at h1
      simp only [List.getElem_map, List.getElem_range, Function.comp, hz, Nat.mul_comm len size, Nat.mul_add_mod, Nat.mod_eq_of_lt h1]
      rw [getElem!_pos z.cells j (by omega)]
      simp

/-- A slice literal. -/
theorem AOps.buildSlice {len size : Nat} {ps : Array (Nat × Operand)} {ys : List (Nat × AV)} {z : Value} {Es : List TypeId} {cs : List AV} {xs : List AV} {i : TypeInfo} (hg : Wants ops s o) (hd : o.dst = some d) (hn : d < n) (ho : o.op = .buildSlice t len ps) (hu : P.underlying t = some (.slice E))
    (hi : P.info? E = some i) (hsz : i.size = size) (hz : i.zero = some z) (hz1 : z.cells.toList.all (fun c => c.oneCell') = true) (hpos : ¬ len * size > 2 ^ 24 ∧ ¬ len * size = 0) (hp : Parts s ps ys)
    (hf : fillA (fun i => some (i * size, size)) (zcells (List.replicate len z.cells.toList).flatten Es) ys = some cs) (hzs : z.cells.size = size)
    (hx : cs = xs.flatMap AV.cells) (hl : ∀ x ∈ xs, x.cells.length = size) (hsc : ∀ x ∈ xs, ∀ c ∈ x.cells, c.scalar = true) (hlen : xs.length = len) (k : AOps P n ops rest (s.put d (.list true E xs)) Q) : AOps P n ops (o :: rest) s Q := by
  have hs : SizeOf P E size := by unfold SizeOf; rw [hi]; simp [hsz]
  subst hlen
  have hmax : xs.length ≤ maxLen := by
    have : xs.length ≤ xs.length * size := Nat.le_mul_of_pos_right _ (Nat.pos_of_ne_zero (fun e => hpos.2 (by rw [e]; rfl)))
    unfold maxLen; omega
  refine AOps.row hg hd hn hs hl hsc hmax ?_ k
  intro G a w hr
  obtain ⟨h1, h2⟩ := hp.rel hr
  have hzmem : ∀ c ∈ ((Array.range (xs.length * size)).map (z.cells[· % z.cells.size]!)).toList, c.oneCell' = true := by
    intro c hc
    simp only [Array.toList_map, List.mem_map] at hc
    obtain ⟨j, _, rfl⟩ := hc
    have hlt : j % z.cells.size < z.cells.size := Nat.mod_lt _ (by rw [hzs]; exact Nat.pos_of_ne_zero (fun e => hpos.2 (by rw [e]; simp)))
    rw [getElem!_pos z.cells _ hlt]
    exact List.all_eq_true.1 hz1 _ (by simp)
  obtain ⟨arr, hfill, hrel⟩ := fill_rel (P := P) (G := G) (w := w) (fun i => some (i * size, size)) ys _ _ ((Array.range (xs.length * size)).map (z.cells[· % z.cells.size]!)) cs h1 h2 (zcells_rel _ Es hzmem) (by rw [zero_flat hzs]; exact hf)
  subst hx
  refine ⟨arr.toList, by rw [hrel.1, flat_len hl], hrel.2, ?_⟩
  have := run_buildSlice (P := P) w t E xs.length (ps.map fun (i, x) => (i, a.eval x)) arr i z hu hi hz (by rw [hsz]; exact hpos.1) (by rw [hsz]; exact hpos.2) (by rw [hsz]; exact hfill)
  simp only [Array.toArray_toList]
  simp only [execOp, ho, Sem.run_bind, this, Result.andThen_ok]
  rfl

/-- .. with nothing in it. -/
theorem AOps.buildEmpty {size : Nat} {ps : Array (Nat × Operand)} (hg : Wants ops s o) (hd : o.dst = some d) (hn : d < n) (ho : o.op = .buildSlice t 0 ps) (hps : ps = #[]) (hu : P.underlying t = some (.slice E)) (hs : SizeOf P E size)
    (k : AOps P n ops rest (s.put d (.list true E [])) Q) : AOps P n ops (o :: rest) s Q := by
  refine AOps.row (xs := []) hg hd hn hs (fun x h => by cases h) (fun x h => by cases h) (Nat.zero_le _) ?_ k
  intro G a w hr
  subst hps
  refine ⟨[], by simp, fun j c u h => by simp at h, ?_⟩
  simp [execOp, ho, Instr.buildSlice, run_underlying hu, run_size hs, Instr.fill, newRow, show Array.range 0 = #[] from rfl]

/-- A variable with a value. -/
theorem AOps.box {v : AV} (hg : Wants ops s o) (hd : o.dst = some d) (hn : d < n) (hnl : lookL s.loc d = none) (hno : ∀ i off, s.get i ≠ .lptr d off) (ho : o.op = .box t x) (hx : ArgOf s x v) (hok : Operand.ok x = true) (hp : v.part = true) (hfl : ∀ c ∈ v.cells, c.flat = true)
    (k : AOps P n ops rest { s with fr := (d, .lptr d 0) :: s.fr, loc := (d, v.cells) :: s.loc } Q) : AOps P n ops (o :: rest) s Q := by
  refine AOps.var hg hd hn hnl hno (fun c hc => ?_) hfl ?_ k
  · cases v with
    | agg cs => exact List.all_eq_true.1 (show cs.all AV.scalar = true from hp) c hc
    | _ => simp only [AV.cells, List.mem_singleton] at hc; subst hc; exact hp
  · intro G a w hr
    have h1 := hx.rel hr (ok_const hok)
    obtain ⟨h2, h3⟩ := h1.cells hp
    refine ⟨(a.eval x).cells.toList, t, h2.1, h2.2, ?_⟩
    simp [execOp, ho, Instr.box, newVar, newRow]

/-- A variable without one. -/
theorem AOps.alloc {z : Value} {Es : List TypeId} (hg : Wants ops s o) (hd : o.dst = some d) (hn : d < n) (hnl : lookL s.loc d = none) (hno : ∀ i off, s.get i ≠ .lptr d off) (ho : o.op = .alloc t) (hz : (P.info? t).map (·.zero) = some (some z)) (hz1 : z.cells.toList.all (fun c => c.oneCell') = true)
    {cells : List AV} (hc : zcells z.cells.toList Es = cells) (hsc : ∀ c ∈ cells, c.scalar = true) (hfl : ∀ c ∈ cells, c.flat = true)
    (k : AOps P n ops rest { s with fr := (d, .lptr d 0) :: s.fr, loc := (d, cells) :: s.loc } Q) : AOps P n ops (o :: rest) s Q := by
  refine AOps.var hg hd hn hnl hno hsc hfl ?_ k
  intro G a w hr
  subst hc
  have h2 := zcells_rel (P := P) (G := G) (w := w) z.cells.toList Es (List.all_eq_true.1 hz1)
  refine ⟨z.cells.toList, t, h2.1, h2.2, ?_⟩
  cases hi : P.info? t with
  | none => simp [hi] at hz
  | some i =>
    simp only [hi, Option.map_some, Option.some.injEq] at hz
    simp [execOp, ho, Instr.alloc, zeroValue, typeInfo, hi, hz, newVar, newRow]

def splice (cells : List AV) (off : Nat) (xs : List AV) : List AV := cells.take off ++ xs ++ cells.drop (off + xs.length)

theorem lookL_cons {k k' : Nat} {v c : List AV} {l : List (Nat × List AV)} (h : lookL ((k, v) :: l) k' = some c) : (k' = k ∧ c = v) ∨ (k' ≠ k ∧ lookL l k' = some c) := by
  simp only [lookL] at h
  split at h
  · rename_i e; cases h; exact .inl ⟨e.symm, rfl⟩
  · rename_i e; exact .inr ⟨fun e' => e e'.symm, h⟩

/-- What is stored, and what a store does to the memory. -/
theorem run_storeVar_at {b off : Nat} {T : TypeId} {cur : Array Value} {v : Value} {size : Nat} (hh : w.heap[b]? = some (.cells cur T (0, 0))) (hs : SizeOf P t size) (hv : v.cells.size = size) (hone : ∀ u ∈ v.cells.toList, u.oneCell' = true) (hfit : off + size ≤ cur.size) :
    (storeVar t ⟨b, off, none⟩ v).run P w = .ok () (w.setRow b (cur.toList.take off ++ v.cells.toList ++ cur.toList.drop (off + size)).toArray) := by
  have := run_storeCells_at (P := P) b off T v.cells.toList 0 cur w hh (by simp; omega) hone
  simp only [Nat.add_zero, Array.length_toList, hv] at this
  simp [storeVar, run_size hs, hv, this, Result.andThen]

theorem Holds.set {b : Nat} {own : Pos} {p : Nat → Pos} {cells ys : List AV} {us : List Value} {off : Nat} {cur : Array Value} {T : TypeId} (h : Holds P G w b own p cells) (hh : w.heap[b]? = some (.cells cur T (0, 0))) (hr : RelL P G w ys us) (hsc : ∀ c ∈ ys, c.scalar = true) (hfl : ∀ c ∈ ys, c.flat = true)
    (hfit : off + ys.length ≤ cells.length) (w' : World) (hw' : w' = w.setRow b (cur.toList.take off ++ us ++ cur.toList.drop (off + ys.length)).toArray) (st : Stab G w G w') (hz : w.heap.size ≤ w'.heap.size)
    (hother : ∀ c b', b' < w.heap.size → G.owner b' = some (p c) → w'.heap[b']? = w.heap[b']?) : Holds P G w' b own p (splice cells off ys) := by
  obtain ⟨arr, T', h1, h2, h3, h4, h5, h6⟩ := h
  rw [hh] at h1
  cases h1
  have hul : us.length = ys.length := hr.1
  refine ⟨_, T, by rw [hw']; exact setRow_heap w b cur _ T _ hh, ?_, h3, h4, fun c hc => ?_, fun j c u hj hu => ?_⟩
  · simp [splice]; omega
  · simp only [splice, List.mem_append] at hc
    rcases hc with (hc | hc) | hc
    · exact h5 c (List.mem_of_mem_take hc)
    · exact hsc c hc
    · exact h5 c (List.mem_of_mem_drop hc)
  · have hu' : (cur.toList.take off ++ us ++ cur.toList.drop (off + ys.length))[j]? = some u := by simpa using hu
    have old : ∀ j, cells[j]? = some c → cur.toList[j]? = some u → RelO P G w' (p j) c u := fun j hj hu =>
      (h6 j c u hj (by simpa using hu)).move st hz (fun b' hb ho => ⟨ho, hother j b' hb ho, rfl⟩)
    simp only [splice] at hj
    have hlt1 : (cells.take off).length = off := by simp; omega
    have hlt2 : (cur.toList.take off).length = off := by simp; omega
    rcases Nat.lt_or_ge j off with hlt | hge
    · rw [List.append_assoc, List.getElem?_append_left (by omega), List.getElem?_take_of_lt hlt] at hj hu'
      exact old j hj hu'
    · rcases Nat.lt_or_ge j (off + ys.length) with hlt | hge2
      · rw [List.append_assoc, List.getElem?_append_right (by omega), hlt1, List.getElem?_append_left (by omega)] at hj
        rw [List.append_assoc, List.getElem?_append_right (by omega), hlt2, List.getElem?_append_left (by omega)] at hu'
        exact ((hr.2 _ c u hj hu').stab st).toO (hfl c (List.mem_of_getElem? hj))
      · rw [List.getElem?_append_right (by simp; omega), List.getElem?_drop] at hj hu'
        simp only [List.length_append, hlt1, hlt2, hul] at hj hu'
        rw [show off + ys.length + (j - (off + ys.length)) = j by omega] at hj hu'
        exact old j hj hu'

/-- A store into a local variable: a copy. -/
theorem AOps.storeL {v : AV} {cells : List AV} {k0 off size : Nat} (hg : Wants ops s o) (hd : o.dst = none) (ho : o.op = .store t x y) (hx : s.eval x = .lptr k0 off) (hc : lookL s.loc k0 = some cells) (hs : SizeOf P t size) (hy : ArgOf s y v) (hok : Operand.ok y = true) (hp : v.part = true) (hfl : ∀ c ∈ v.cells, c.flat = true)
    (hsz : v.cells.length = size) (hfit : off + size ≤ cells.length) (k : AOps P n ops rest { s with loc := (k0, splice cells off v.cells) :: s.loc } Q) : AOps P n ops (o :: rest) s Q := by
  refine AOps.effect hg hd ?_ k
  intro G a w hr
  obtain ⟨p, hpx⟩ := hr.ev x (fun v cs e1 e2 => by subst e1; subst e2; simp [St.eval, ofConst] at hx)
  rw [hx] at hpx
  have hav : a.eval x = .pointer (some ⟨G.lb k0, off, none⟩) := hpx
  have hH := hr.loc k0 cells hc
  obtain ⟨cur, T, hh, hcs, ho1, ht1, _, _⟩ := hH
  have hrv := hy.rel hr (ok_const hok)
  obtain ⟨hL, hone⟩ := hrv.cells hp
  have hvs : (a.eval y).cells.size = size := by have := hL.1; simp at this; omega
  have hrun := run_storeVar_at (P := P) (t := t) (off := off) hh hs hvs hone (by omega)
  obtain ⟨W', hW⟩ : ∃ W', W' = w.setRow (G.lb k0) (cur.toList.take off ++ (a.eval y).cells.toList ++ cur.toList.drop (off + size)).toArray := ⟨_, rfl⟩
  rw [← hW] at hrun
  have st : Stab G w G W' := by
    refine ⟨fun _ => Nat.le_refl _, fun b oo hoo => ?_, fun _ _ h => h⟩
    have hne : b ≠ G.lb k0 := fun e => by rw [e, ht1] at hoo; omega
    subst hW
    exact World.cell?_of_block (w := w) (a := ⟨b, oo, none⟩) (setRow_other w _ b _ hne)
  have other : ∀ q b, G.owner b = some q → q ≠ .lb k0 → W'.heap[b]? = w.heap[b]? := by
    intro q b h1 h2
    subst hW
    refine setRow_other w _ b _ (fun e => h2 ?_)
    rw [e, ho1] at h1
    exact (Option.some.inj h1).symm
  have hzz : W'.heap.size = w.heap.size := by rw [hW]; simp
  have hz : w.heap.size ≤ W'.heap.size := by omega
  refine ⟨W', G, ?_, ⟨hr.size, hr.defers, fun i => ?_, fun k1 cells1 hk1 => ?_, ?_⟩, ⟨by rw [hW]; rfl, by rw [hW]; rfl, by rw [hW]; rfl, hz, fun b hb hn => ⟨hn, ?_, rfl⟩, st⟩⟩
  · simp [execOp, ho, Instr.storeAt, Instr.sureAddr, hav, hrun]
  · exact (hr.slot i).move st hz (fun _ _ _ => rfl) (fun c b _ h2 => ⟨h2, other _ b h2 (by intro h; cases h), rfl⟩)
  · rcases lookL_cons hk1 with ⟨rfl, rfl⟩ | ⟨hne, hk1⟩
    · refine (hr.loc k1 cells hc).set hh hL (fun c hcm => ?_) hfl (by omega) _ (by rw [hsz]; exact hW) st hz (fun c b' _ h2 => other _ b' h2 (by intro h; cases h))
      cases v with
      | agg cs => exact List.all_eq_true.1 (show cs.all AV.scalar = true from hp) c hcm
      | _ => simp only [AV.cells, List.mem_singleton] at hcm; subst hcm; exact hp
    · have h0 := hr.loc k1 cells1 hk1
      exact h0.move st hz (other _ _ h0.own (by intro h; injection h with h; exact hne h)) rfl rfl (fun c b _ h2 => ⟨h2, other _ b h2 (by intro h; cases h), rfl⟩)
  · exact hr.mem.move st hz (fun q b hq _ h2 => ⟨h2, other q b h2 (fun h => by subst h; cases hq), rfl⟩) (fun b hb => hr.mem.far b (by omega)) rfl
  · subst hW
    refine setRow_other w _ b _ (fun e => ?_)
    rw [e, ho1] at hn; cases hn

end
end Go.Proofs.Ytfnbfkgknfagmaa
