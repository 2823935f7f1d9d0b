/- Abstract values: objects, that pointers reach: made, read, written; rows that go in and out of them. -/
import Derived.Test.YtfnbfkgknfagmaaAvEq
import Derived.Lib.Builder
namespace Go.Proofs.Ytfnbfkgknfagmaa
open Go.RowKit

def setM (M : Nat → Option (List AV)) (id : Nat) (cs : List AV) : Nat → Option (List AV) := fun i => if i = id then some cs else M i
theorem setM_get {M : Nat → Option (List AV)} {id : Nat} {cs : List AV} : setM M id cs id = some cs := by simp [setM]
theorem setM_ne {M : Nat → Option (List AV)} {id i : Nat} {cs : List AV} (h : i ≠ id) : setM M id cs i = M i := by simp [setM, h]
theorem setM_setM {M : Nat → Option (List AV)} {id : Nat} {a b : List AV} : setM (setM M id a) id b = setM M id b := by
  funext i; simp only [setM]; split <;> rfl
theorem setM_swap {M : Nat → Option (List AV)} {id id2 : Nat} {a b c : List AV} (h : id ≠ id2) : setM (setM (setM M id a) id2 b) id c = setM (setM M id c) id2 b := by
  funext i; simp only [setM]
  by_cases e1 : i = id
  · subst e1; simp [h]
  · simp [e1]
theorem setM_swap' {M N : Nat → Option (List AV)} {id id2 : Nat} {b c : List AV} (h : id ≠ id2) (e : setM M id c = N) : setM (setM M id2 b) id c = setM N id2 b := by
  subst e
  funext i; simp only [setM]
  by_cases e1 : i = id
  · subst e1; simp [h]
  · simp [e1]
theorem setM_sub {M : Nat → Option (List AV)} {id : Nat} {cs : List AV} (h : M id = none) : ∀ i c, M i = some c → setM M id cs i = some c := by
  intro i c hi
  rw [setM_ne (fun e => by subst e; rw [h] at hi; cases hi)]; exact hi
theorem setM_same {M : Nat → Option (List AV)} {id : Nat} {cs : List AV} (h : M id = some cs) : setM M id cs = M := by
  funext i; simp only [setM]; split
  · rename_i e; subst e; exact h.symm
  · rfl

/-- What q owned is q''s now. -/
def Gh.pass (G : Gh) (q q' : Pos) : Gh := { G with owner := fun b => if G.owner b = some q then some q' else G.owner b }

section
variable {P : Program} {G G' : Gh} {w w' : World} {q q' r : Pos} {b : Nat}
theorem pass_stab : Stab G w (G.pass q q') w := ⟨fun _ => Nat.le_refl _, fun _ _ _ => rfl, fun _ _ h => h⟩
theorem pass_own (h : G.owner b = some r) (hr : r ≠ q) : (G.pass q q').owner b = some r := by
  show (if G.owner b = some q then some q' else G.owner b) = some r
  rw [h, if_neg (fun e => hr (Option.some.inj e))]
theorem pass_new (h : G.owner b = some q) : (G.pass q q').owner b = some q' := by
  show (if G.owner b = some q then some q' else G.owner b) = some q'
  rw [if_pos h]
theorem pass_none (h : G.owner b = none) : (G.pass q q').owner b = none := by
  show (if G.owner b = some q then some q' else G.owner b) = none
  rw [h]; simp

theorem RelM.sub {M M' : Nat → Option (List AV)} (h : RelM P G w M) (hs : ∀ id c, M' id = some c → M id = some c) : RelM P G w M' := ⟨fun id c e => h.obj id c (hs id c e), h.far, h.fin⟩

/-- A row goes out of a variable's cell. -/
theorem Holds.grab {own : Pos} {p : Nat → Pos} {cells : List AV} {kk : Nat} {E : TypeId} {xs : List AV} (h : Holds P G w b own p cells) (hc : cells[kk]? = some (.list true E xs)) (ho : own ≠ p kk) (hp : ∀ j, j ≠ kk → p j ≠ p kk) :
    Holds P (G.pass (p kk) q') w b own p (cells.set kk (.list false E xs)) := by
  obtain ⟨arr, T, h1, h2, h3, h4, h5, h6⟩ := h
  refine ⟨arr, T, h1, by simpa using h2, pass_own h3 ho, h4, fun c hcm => ?_, fun j c u hj hu => ?_⟩
  · rcases List.mem_or_eq_of_mem_set hcm with h | h
    · exact h5 c h
    · subst h; rfl
  · rw [List.getElem?_set] at hj
    split at hj
    · rename_i e
      subst e
      split at hj
      · cases hj
        have := h6 kk _ u hc hu
        rcases this.toV with h | ⟨cs, e⟩
        · exact h.stab pass_stab
        · cases e
      · cases hj
    · rename_i e
      exact (h6 j c u hj hu).move pass_stab (Nat.le_refl _) (fun b' _ ho' => ⟨pass_own ho' (hp j (fun e' => e e'.symm)), rfl, rfl⟩)

theorem set_take_drop {α : Type} (l : List α) (k : Nat) (v : α) (h : k < l.length) : l.take k ++ [v] ++ l.drop (k + 1) = l.set k v := by
  rw [List.set_eq_take_append_cons_drop, if_pos h]; simp
end

section
variable {P : Program} {n : Nat} {s : St} {ops : Array Oper} {o : Oper} {rest : List Oper} {Q : St → Prop} {d r : Nat} {t t' E : TypeId} {x y : Operand}

/-- What objects there are may be forgotten. -/
theorem RelSt.subM {G : Gh} {a : Act} {w : World} {M' : Nat → Option (List AV)} (h : RelSt P G n s a w) (hs : ∀ id c, M' id = some c → s.mem id = some c) : RelSt P G n { s with mem := M' } a w := ⟨h.size, h.defers, h.slot, h.loc, h.mem.sub hs⟩
theorem AWp.subM {c : Code} {QE : Exit → St → Prop} (M' : Nat → Option (List AV)) (hs : ∀ id c, M' id = some c → s.mem id = some c) (h : AWp P n c { s with mem := M' } QE) : AWp P n c s QE :=
  fun G a w K hr hfx hK => h G a w K (hr.subM hs) hfx hK
theorem ACall.subM {f : FuncId} {args : List AV} {M : Nat → Option (List AV)} {R : AV → (Nat → Option (List AV)) → Prop} (h : ACall P f args M fun r M1 => ∃ M2, R r M2 ∧ ∀ id c, M2 id = some c → M1 id = some c) : ACall P f args M R := by
  intro G w vs hm hf hl ha
  refine (h G w vs hm hf hl ha).mono ?_
  rintro e w' ⟨r, M1, G', u, he, ⟨M2, hR, hs⟩, h1, h2, h3, h4⟩
  exact ⟨r, M2, G', u, he, hR, h1, h2, h3.sub hs, h4⟩

theorem RelSt.evG {G : Gh} {a : Act} {w : World} {id off : Nat} (h : RelSt P G n s a w) (hx : s.eval x = .gptr id off) : ∃ b, G.mb id = some b ∧ a.eval x = .pointer (some ⟨b, off, none⟩) := by
  obtain ⟨p, hp⟩ := h.ev x (fun v cs e1 e2 => by subst e1; subst e2; simp [St.eval, ofConst] at hx)
  rw [hx] at hp
  generalize hav : a.eval x = va at hp
  have hp' : RelV P G w (.gptr id off) va := hp
  cases hp' with
  | gptr _ _ b hb => exact ⟨b, hb, rfl⟩

theorem RelSt.reghost {G G' : Gh} {a : Act} {w : World} (h : RelSt P G n s a w) (st : Stab G w G' w) (ho : G'.owner = G.owner) (ht : G'.tip = G.tip) (hl : G'.lb = G.lb) (hf : ∃ N, ∀ id, N ≤ id → G'.mb id = none) : RelSt P G' n s a w := by
  have hm : ∀ q b, b < w.heap.size → G.owner b = some q → G'.owner b = some q ∧ w.heap[b]? = w.heap[b]? ∧ G'.tip b = G.tip b := fun q b _ h => ⟨by rw [ho]; exact h, rfl, by rw [ht]⟩
  refine ⟨h.size, h.defers, fun i => (h.slot i).move st (Nat.le_refl _) (fun _ _ _ => by rw [hl]) (fun c b => hm _ b), fun k cells hk => ?_, ⟨fun id cells hi => ?_, fun b hb => by rw [ho, ht]; exact h.mem.far b hb, hf⟩⟩
  · rw [hl]; exact (h.loc k cells hk).move st (Nat.le_refl _) rfl (by rw [ho]) (by rw [ht]) (fun c b => hm _ b)
  · obtain ⟨b, hb, hh⟩ := h.mem.obj id cells hi
    exact ⟨b, st.mb id b hb, hh.move st (Nat.le_refl _) rfl (by rw [ho]) (by rw [ht]) (fun c b => hm _ b)⟩

/-- One operation, at one place. -/
theorem AOps.step1 {s' : St} {G : Gh} {a : Act} {w : World} {K : Exit → Act → World → Prop} (hg : Wants ops s o) (hd : o.dst = some d) (hr : RelSt P G n s a w) (hfx : Fix G w)
    (hK : ∀ s' G' a' w', Q s' → RelSt P G' n s' a' w' → Keep G w G' w' → K .normal a' w')
    (h : ∃ u w' G', (execOp a.eval o).run P w = .ok (.value u) w' ∧ RelSt P G' n s' (a.put (some d) u) w' ∧ Keep G w G' w') (k : AOps P n ops rest s' Q) : wpList P ops K (o :: rest) a w := by
  simp only [wpList]
  rw [if_pos (wants_eval hr (fun t => by omega) hg)]
  left
  obtain ⟨u, w', G', hrun, hr', hk⟩ := h
  unfold Oper.wp
  rw [hrun, Oper.upon_value, hd]
  exact k G' _ w' K hr' (hfx.keep hk) fun s2 G2 a2 w2 hq hr2 hk2 => hK s2 G2 a2 w2 hq hr2 (hk.trans hk2)

/-- A new object: whatever its name. -/
theorem AOps.allocG {z : Value} {Es : List TypeId} (hg : Wants ops s o) (hd : o.dst = some d) (hn : d < n) (ho : o.op = .alloc t) (ht : t < 10000) (hz : (P.info? t).map (·.zero) = some (some z)) (hz1 : z.cells.toList.all (fun c => c.oneCell') = true)
    {cells : List AV} (hc : zcells z.cells.toList Es = cells) (hsc : ∀ c ∈ cells, c.scalar = true) (hfl : ∀ c ∈ cells, c.flat = true)
    (k : ∀ id, s.mem id = none → id % 10000 = t → AOps P n ops rest { s with fr := (d, .gptr id 0) :: s.fr, mem := setM s.mem id cells } Q) : AOps P n ops (o :: rest) s Q := by
  intro G a w K hr hfx hK
  obtain ⟨N, hN⟩ := hr.mem.fin
  have hid : (10000 * N + t) % 10000 = t := by rw [Nat.mul_add_mod]; exact Nat.mod_eq_of_lt ht
  have hge : N ≤ 10000 * N + t := Nat.le_trans (Nat.le_mul_of_pos_left N (by decide)) (Nat.le_add_right _ _)
  generalize 10000 * N + t = id at hid hge
  have hmb : G.mb id = none := hN id hge
  have hM : s.mem id = none := by
    cases hx : s.mem id with
    | none => rfl
    | some c => obtain ⟨b, hb, _⟩ := hr.mem.obj id c hx; rw [hmb] at hb; cases hb
  refine AOps.step1 hg hd hr hfx hK ?_ (k id hM hid)
  subst hc
  have h2 := zcells_rel (P := P) (G := G) (w := w) z.cells.toList Es (List.all_eq_true.1 hz1)
  have hrun : (execOp a.eval o).run P w = .ok (.value (.pointer (some ⟨w.heap.size, 0, none⟩))) (w.alloc (.cells z.cells.toList.toArray t)) := by
    cases hi : P.info? t with
    | none => simp [hi] at hz
    | some i =>
      simp only [hi, Option.map_some, Option.some.injEq] at hz
      simp [execOp, ho, Instr.alloc, zeroValue, typeInfo, hi, hz, newVar, newRow]
  have hfar := hr.mem.far
  have st1 : Stab G w (G.new w.heap.size (.mb id) 0) (w.alloc (.cells z.cells.toList.toArray t)) := stab_new _ _ _ hfar
  have kp := keep_new (.cells z.cells.toList.toArray t) (.mb id) 0 hfar
  have hT1 := hr.turn (G' := G.new w.heap.size (.mb id) 0) (d := d) (v := .lit (.pointer (some ⟨w.heap.size, 0, none⟩))) (u := .pointer (some ⟨w.heap.size, 0, none⟩)) hn st1 (by rw [size_alloc]; omega) (fun _ _ => rfl)
    (fun q b h1 h2 _ => own_new _ _ _ _ b h1 h2) (fun b hb => far_new _ _ _ hfar b hb) rfl (lit_toS _)
  let G' : Gh := { G.new w.heap.size (.mb id) 0 with mb := fun i => if i = id then some w.heap.size else G.mb i }
  have hmbG : ∀ i b, G.mb i = some b → G'.mb i = some b := fun i b h => by
    show (if i = id then some w.heap.size else G.mb i) = some b
    rw [if_neg (fun e => by subst e; rw [hmb] at h; cases h)]; exact h
  have hid' : G'.mb id = some w.heap.size := by show (if id = id then some w.heap.size else G.mb id) = _; simp
  have hT2 := hT1.reghost (G' := G') ⟨fun _ => Nat.le_refl _, fun _ _ _ => rfl, hmbG⟩ rfl rfl rfl ⟨N + id + 1, fun i hi => by
    show (if i = id then some w.heap.size else G.mb i) = none
    rw [if_neg (by omega)]; exact hN i (by omega)⟩
  have stG : Stab G w G' (w.alloc (.cells z.cells.toList.toArray t)) := ⟨st1.tip, st1.cell, hmbG⟩
  refine ⟨_, _, G', hrun, ⟨hT2.size, hT2.defers, fun i => ?_, hT2.loc, ⟨fun i cells hi => ?_, hT2.mem.far, hT2.mem.fin⟩⟩, ⟨kp.os, kp.tape, kp.output, kp.size, kp.free, stG⟩⟩
  · rw [getD_put _ _ _ _ (by rw [hr.size]; exact hn)]
    have h0 := hT2.slot i
    rw [getD_put _ _ _ _ (by rw [hr.size]; exact hn)] at h0
    show RelS P G' _ (.slot i) (look .any ((d, .gptr id 0) :: s.fr) i) _
    have h0' : RelS P G' (w.alloc (.cells z.cells.toList.toArray t)) (.slot i) (look .any ((d, .lit (.pointer (some ⟨w.heap.size, 0, none⟩))) :: s.fr) i) (if i = d then .pointer (some ⟨w.heap.size, 0, none⟩) else a.tmps.getD i undef) := h0
    simp only [look] at h0' ⊢
    by_cases e : i = d
    · subst e
      simp only [if_true]
      exact RelV.gptr id 0 _ hid'
    · rw [if_neg (Ne.symm e), if_neg e] at h0'
      rw [if_neg (Ne.symm e), if_neg e]
      exact h0'
  · by_cases e : i = id
    · subst e
      have hi' : setM s.mem i (zcells z.cells.toList Es) i = some cells := hi
      rw [setM_get] at hi'
      cases hi'
      refine ⟨w.heap.size, hid', .inl ⟨⟨z.cells.toList.toArray, t, heap_new _ _, by simpa using h2.1, ?_, ?_, hsc, fun j c u h1 h2' => ?_⟩, z.cells.toList.toArray, by rw [hid]; exact heap_new _ _⟩⟩
      · show (if w.heap.size = w.heap.size then _ else _) = _; simp
      · show (if w.heap.size = w.heap.size then _ else _) = _; simp
      · have := (h2.2 j c u h1 (by simpa using h2')).stab stG
        exact this.toO (hfl c (List.mem_of_getElem? h1))
    · have hi' : setM s.mem id (zcells z.cells.toList Es) i = some cells := hi
      rw [setM_ne e] at hi'
      exact hT2.mem.obj i cells hi'


theorem run_load1 {D : TypeDesc} {b kk : Nat} {u : Value} {w : World} (hu : P.underlying t = some D) (hA : TypeDesc.agg D = false) (h : w.cell? ⟨b, kk, none⟩ = some u) : (loadVar t ⟨b, kk, none⟩).run P w = .ok u w := by
  simp [loadVar, run_agg hu, hA, Result.andThen, h]

/-- A row is taken out of an object's cell: the slot owns it. -/
theorem AOps.grabG {cells : List AV} {xs : List AV} {id kk : Nat} {D : TypeDesc} {M' : Nat → Option (List AV)} (hg : Wants ops s o) (hd : o.dst = some d) (hn : d < n) (ho : o.op = .load t x) (hu : P.underlying t = some D) (hx : s.eval x = .gptr id kk) (hc : s.mem id = some cells)
    (hv : cells[kk]? = some (.list true E xs)) (hA : TypeDesc.agg D = false) (hM : setM s.mem id (cells.set kk (.list false E xs)) = M') (k : AOps P n ops rest { s with fr := (d, .list true E xs) :: s.fr, mem := M' } Q) (hall : cells.all AV.scalar = true := by first | rfl | (simp only [List.all_cons, List.all_nil, *]; rfl)) : AOps P n ops (o :: rest) s Q := by
  subst hM
  refine AOps.step hg hd ?_ k
  intro G a w hr
  obtain ⟨b, hb, hav⟩ := hr.evG hx
  obtain ⟨b', hb', hX⟩ := hr.mem.obj id cells hc
  obtain ⟨hH, arr0, hty⟩ := hX.cells hall
  rw [hb] at hb'
  cases hb'
  have hH0 := hH
  obtain ⟨arr, T, hh, hsz, ho1, ht1, hsc, hrr⟩ := hH0
  have hkl := (List.getElem?_eq_some_iff.1 hv).1
  have e1 : arr[kk]? = some (arr.getD kk undef) := by rw [Array.getD_eq_getD_getElem?, Array.getElem?_eq_getElem (by clear hn; omega)]; rfl
  have hrun : (execOp a.eval o).run P w = .ok (.value (arr.getD kk undef)) w := by
    have h2 : (loadVar t ⟨b, kk, none⟩).run P w = .ok (arr.getD kk undef) w := run_load1 hu hA (by simp only [World.cell?, hh, Option.isSome_none, Bool.false_eq_true, if_false]; exact e1)
    simp [execOp, ho, Instr.loadAt, Instr.sureAddr, hav, h2]
  have st := pass_stab (G := G) (w := w) (q := .mc id kk) (q' := .slot d 0)
  have hmv : ∀ (r : Pos) (b : Nat), r ≠ .mc id kk → b < w.heap.size → G.owner b = some r → (G.pass (.mc id kk) (.slot d 0)).owner b = some r ∧ w.heap[b]? = w.heap[b]? ∧ (G.pass (.mc id kk) (.slot d 0)).tip b = G.tip b :=
    fun r b hr' _ h => ⟨pass_own h hr', rfl, rfl⟩
  refine ⟨_, w, G.pass (.mc id kk) (.slot d 0), hrun, ⟨by simp [Act.put, hr.size], by simpa [Act.put] using hr.defers, fun i => ?_, fun k1 cells1 hk1 => ?_, ⟨fun i cs hi => ?_, fun b hb => ⟨(hr.mem.far b hb).1, pass_none (hr.mem.far b hb).2⟩, hr.mem.fin⟩⟩, ⟨rfl, rfl, rfl, Nat.le_refl _, fun b _ h => ⟨pass_none h, rfl, rfl⟩, st⟩⟩
  · rw [getD_put _ _ _ _ (by rw [hr.size]; exact hn)]
    show RelS P _ w (.slot i) (look .any ((d, .list true E xs) :: s.fr) i) _
    simp only [look]
    by_cases e : i = d
    · subst e
      simp only [if_true]
      exact (hrr kk _ _ hv e1).move st (Nat.le_refl _) (fun b _ h2 => ⟨pass_new h2, rfl, rfl⟩)
    · rw [if_neg (Ne.symm e), if_neg e]
      exact (hr.slot i).move st (Nat.le_refl _) (fun _ _ _ => rfl) (fun c b h1 h2 => hmv _ b (by intro h; cases h) h1 h2)
  · have h0 := hr.loc k1 cells1 hk1
    exact h0.move st (Nat.le_refl _) rfl ((pass_own h0.own (by intro h; cases h)).trans h0.own.symm) rfl (fun c b h1 h2 => hmv _ b (by intro h; cases h) h1 h2)
  · have hi' : setM s.mem id (cells.set kk (.list false E xs)) i = some cs := hi
    by_cases e : i = id
    · subst e
      rw [setM_get] at hi'
      cases hi'
      exact ⟨b, hb, .inl ⟨hH.grab hv (by intro h; cases h) (fun j hj h => by injection h with _ h; exact hj h), arr0, hty⟩⟩
    · rw [setM_ne e] at hi'
      obtain ⟨b2, hb2, hh2⟩ := hr.mem.obj i cs hi'
      exact ⟨b2, hb2, hh2.move st (Nat.le_refl _) rfl ((pass_own hh2.own (by intro h; cases h)).trans hh2.own.symm) rfl (fun c b h1 h2 => hmv _ b (by intro h; injection h with h; exact e h) h1 h2)⟩

/-- A store into an object: a copy. -/
theorem AOps.storeG {v : AV} {cells : List AV} {id off size : Nat} {M' : Nat → Option (List AV)} (hg : Wants ops s o) (hd : o.dst = none) (ho : o.op = .store t x y) (hx : s.eval x = .gptr id off) (hc : s.mem id = some cells) (hs : SizeOf P t size) (hy : ArgOf s y v) (hok : Operand.ok y = true) (hp : v.part = true) (hfl : ∀ c ∈ v.cells, c.flat = true)
    (hsz : v.cells.length = size) (hfit : off + size ≤ cells.length) (hM : setM s.mem id (splice cells off v.cells) = M') (k : AOps P n ops rest { s with mem := M' } Q) (hall : cells.all AV.scalar = true := by first | rfl | (simp only [List.all_cons, List.all_nil, *]; rfl)) : AOps P n ops (o :: rest) s Q := by
  subst hM
  refine AOps.effect hg hd ?_ k
  intro G a w hr
  obtain ⟨b0, hb0, hav⟩ := hr.evG hx
  obtain ⟨b', hb', hX⟩ := hr.mem.obj id cells hc
  obtain ⟨hH, arr0, hty⟩ := hX.cells hall
  rw [hb0] at hb'
  cases hb'
  have hH0 := hH
  obtain ⟨cur, T, hh, hcs, ho1, ht1, _, _⟩ := hH0
  have hrv := hy.rel hr (ok_const hok)
  obtain ⟨hL, hone⟩ := hrv.cells hp
  have hvs : (a.eval y).cells.size = size := by have := hL.1; simp at this; omega
  have hrun := run_storeVar_at (P := P) (t := t) (off := off) hh hs hvs hone (by omega)
  obtain ⟨W', hW⟩ : ∃ W', W' = w.setRow b0 (cur.toList.take off ++ (a.eval y).cells.toList ++ cur.toList.drop (off + size)).toArray := ⟨_, rfl⟩
  rw [← hW] at hrun
  have st : Stab G w G W' := by
    refine ⟨fun _ => Nat.le_refl _, fun b oo hoo => ?_, fun _ _ h => h⟩
    have hne : b ≠ b0 := fun e => by rw [e, ht1] at hoo; omega
    subst hW
    exact World.cell?_of_block (w := w) (a := ⟨b, oo, none⟩) (setRow_other w _ b _ hne)
  have other : ∀ q b, G.owner b = some q → q ≠ .mb id → W'.heap[b]? = w.heap[b]? := by
    intro q b h1 h2
    subst hW
    refine setRow_other w _ b _ (fun e => h2 ?_)
    rw [e, ho1] at h1
    exact (Option.some.inj h1).symm
  have hzz : W'.heap.size = w.heap.size := by rw [hW]; simp
  have hz : w.heap.size ≤ W'.heap.size := by omega
  refine ⟨W', G, ?_, ⟨hr.size, hr.defers, fun i => ?_, fun k1 cells1 hk1 => ?_, ⟨fun i cs hi => ?_, fun b hb => hr.mem.far b (by omega), hr.mem.fin⟩⟩, ⟨by rw [hW]; rfl, by rw [hW]; rfl, by rw [hW]; rfl, hz, fun b hb hn => ⟨hn, ?_, rfl⟩, st⟩⟩
  · simp [execOp, ho, Instr.storeAt, Instr.sureAddr, hav, hrun]
  · exact (hr.slot i).move st hz (fun _ _ _ => rfl) (fun c b _ h2 => ⟨h2, other _ b h2 (by intro h; cases h), rfl⟩)
  · have h0 := hr.loc k1 cells1 hk1
    exact h0.move st hz (other _ _ h0.own (by intro h; cases h)) rfl rfl (fun c b _ h2 => ⟨h2, other _ b h2 (by intro h; cases h), rfl⟩)
  · have hi' : setM s.mem id (splice cells off v.cells) i = some cs := hi
    by_cases e : i = id
    · subst e
      rw [setM_get] at hi'
      cases hi'
      refine ⟨b0, hb0, .inl ⟨hH.set hh hL (fun c hcm => ?_) hfl (by omega) _ (by rw [hsz]; exact hW) st hz (fun c b' _ h2 => other _ b' h2 (by intro h; cases h)), ?_⟩⟩
      · cases v with
        | agg cs => exact List.all_eq_true.1 (show cs.all AV.scalar = true from hp) c hcm
        | _ => simp only [AV.cells, List.mem_singleton] at hcm; subst hcm; exact hp
      · rw [hh] at hty
        injection hty with hty
        injection hty with _ hT _
        exact ⟨_, by rw [hW, setRow_heap w b0 cur _ T _ hh, hT]⟩
    · rw [setM_ne e] at hi'
      obtain ⟨b2, hb2, hh2⟩ := hr.mem.obj i cs hi'
      have hne := other _ _ hh2.own (by intro h; injection h with h; exact e h)
      exact ⟨b2, hb2, hh2.move st hz hne rfl rfl (fun c b _ h2 => ⟨h2, other _ b h2 (by intro h; cases h), rfl⟩)⟩
  · subst hW
    refine setRow_other w _ b _ (fun e => ?_)
    rw [e, ho1] at hn; cases hn
end
end Go.Proofs.Ytfnbfkgknfagmaa
