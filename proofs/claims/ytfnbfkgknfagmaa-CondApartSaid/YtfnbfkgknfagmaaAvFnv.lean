/- Abstract values: functions as values; boxed objects; the greater and the lesser. -/
import Derived.Test.YtfnbfkgknfagmaaAvPtr
import Derived.Lib.MinMax
namespace Go.Proofs.Ytfnbfkgknfagmaa
open Go.RowKit

section
variable {P : Program} {n : Nat} {s : St} {ops : Array Oper} {o : Oper} {l rest : List Oper} {Q : St → Prop} {d r f : Nat} {t t' E T : TypeId} {x y : Operand} {k : IntKind} {i j : Int}

theorem Reader.maxI {c : Call} {m : Int} (ho : o.op = .call c) (hc : c.callee = .builtin .max) (ha : c.args = #[x, y]) (hx : s.eval x = .lit (.int k i)) (hy : s.eval y = .lit (.int k j)) (hm : max i j = m) : Reader P n s o d (.lit (.int k m)) := by
  intro G a w h
  subst hm
  refine ⟨_, lit_toS _, fun w' _ => ?_⟩
  have e1 := h.evLit hx
  have e2 := h.evLit hy
  simp [execOp, ho, resolve, hc, ha, e1, e2, invoke, builtin, Lib.run_max_ints]
theorem Reader.minI {c : Call} {m : Int} (ho : o.op = .call c) (hc : c.callee = .builtin .min) (ha : c.args = #[x, y]) (hx : s.eval x = .lit (.int k i)) (hy : s.eval y = .lit (.int k j)) (hm : min i j = m) : Reader P n s o d (.lit (.int k m)) := by
  intro G a w h
  subst hm
  refine ⟨_, lit_toS _, fun w' _ => ?_⟩
  have e1 := h.evLit hx
  have e2 := h.evLit hy
  simp [execOp, ho, resolve, hc, ha, e1, e2, invoke, builtin, Lib.run_min_ints]

/-- A function literal that captures an object. -/
theorem Reader.mkFunc {id : Nat} (ho : o.op = .makeFunc (.func f) #[] #[x]) (hx : s.eval x = .gptr id 0) : Reader P n s o d (.fn f [.gptr id 0]) := by
  intro G a w h
  obtain ⟨b, hb, hav⟩ := h.evG hx
  refine ⟨.func (.func f) #[] #[a.eval x], ?_, fun w' _ => ?_⟩
  · have := RelV.fn (P := P) (G := G) (w := w) f [.gptr id 0] [a.eval x] rfl (fun j c v hc hv => by
      cases j with
      | zero => simp at hc hv; subst hc; subst hv; rw [hav]; exact .gptr id 0 b hb
      | succ j => simp at hc)
    exact this
  · simp [execOp, ho, Instr.makeFunc]

/-- A new object, laid by whatever operation. -/
theorem AOps.newG (hg : Wants ops s o) (hd : o.dst = some d) (hn : d < n) (ht : t < 10000) {cells : List AV} (hsc : ∀ c ∈ cells, c.scalar = true) (hfl : ∀ c ∈ cells, c.flat = true)
    (h : ∀ (G : Gh) (a : Act) (w : World), RelSt P G n s a w → ∃ cs : List Value, RelL P G w cells cs ∧ (execOp a.eval o).run P w = .ok (.value (.pointer (some ⟨w.heap.size, 0, none⟩))) (w.alloc (.cells cs.toArray t)))
    (k : ∀ id, s.mem id = none → id % 10000 = t → AOps P n ops rest { s with fr := (d, .gptr id 0) :: s.fr, mem := setM s.mem id cells } Q) : AOps P n ops (o :: rest) s Q := by
  intro G a w K hr hfx hK
  obtain ⟨N, hN⟩ := hr.mem.fin
  have hid : (10000 * N + t) % 10000 = t := by rw [Nat.mul_add_mod]; exact Nat.mod_eq_of_lt ht
  have hge : N ≤ 10000 * N + t := Nat.le_trans (Nat.le_mul_of_pos_left N (by decide)) (Nat.le_add_right _ _)
  generalize 10000 * N + t = id at hid hge
  have hmb : G.mb id = none := hN id hge
  have hM : s.mem id = none := by
    cases hx : s.mem id with
    | none => rfl
    | some c => obtain ⟨b, hb, _⟩ := hr.mem.obj id c hx; rw [hmb] at hb; cases hb
  refine AOps.step1 hg hd hr hfx hK ?_ (k id hM hid)
  obtain ⟨cs, h2, hrun⟩ := h G a w hr
  have hfar := hr.mem.far
  have st1 : Stab G w (G.new w.heap.size (.mb id) 0) (w.alloc (.cells cs.toArray t)) := stab_new _ _ _ hfar
  have kp := keep_new (.cells cs.toArray t) (.mb id) 0 hfar
  have hT1 := hr.turn (G' := G.new w.heap.size (.mb id) 0) (d := d) (v := .lit (.pointer (some ⟨w.heap.size, 0, none⟩))) (u := .pointer (some ⟨w.heap.size, 0, none⟩)) hn st1 (by rw [size_alloc]; omega) (fun _ _ => rfl)
    (fun q b h1 h2 _ => own_new _ _ _ _ b h1 h2) (fun b hb => far_new _ _ _ hfar b hb) rfl (lit_toS _)
  let G' : Gh := { G.new w.heap.size (.mb id) 0 with mb := fun i => if i = id then some w.heap.size else G.mb i }
  have hmbG : ∀ i b, G.mb i = some b → G'.mb i = some b := fun i b h => by
    show (if i = id then some w.heap.size else G.mb i) = some b
    rw [if_neg (fun e => by subst e; rw [hmb] at h; cases h)]; exact h
  have hid' : G'.mb id = some w.heap.size := by show (if id = id then some w.heap.size else G.mb id) = _; simp
  have hT2 := hT1.reghost (G' := G') ⟨fun _ => Nat.le_refl _, fun _ _ _ => rfl, hmbG⟩ rfl rfl rfl ⟨N + id + 1, fun i hi => by
    show (if i = id then some w.heap.size else G.mb i) = none
    rw [if_neg (by omega)]; exact hN i (by omega)⟩
  have stG : Stab G w G' (w.alloc (.cells cs.toArray t)) := ⟨st1.tip, st1.cell, hmbG⟩
  refine ⟨_, _, G', hrun, ⟨hT2.size, hT2.defers, fun i => ?_, hT2.loc, ⟨fun i cells2 hi => ?_, hT2.mem.far, hT2.mem.fin⟩⟩, ⟨kp.os, kp.tape, kp.output, kp.size, kp.free, stG⟩⟩
  · rw [getD_put _ _ _ _ (by rw [hr.size]; exact hn)]
    have h0 := hT2.slot i
    rw [getD_put _ _ _ _ (by rw [hr.size]; exact hn)] at h0
    show RelS P G' _ (.slot i) (look .any ((d, .gptr id 0) :: s.fr) i) _
    have h0' : RelS P G' (w.alloc (.cells cs.toArray t)) (.slot i) (look .any ((d, .lit (.pointer (some ⟨w.heap.size, 0, none⟩))) :: s.fr) i) (if i = d then .pointer (some ⟨w.heap.size, 0, none⟩) else a.tmps.getD i undef) := h0
    simp only [look] at h0' ⊢
    by_cases e : i = d
    · subst e
      simp only [if_true]
      exact RelV.gptr id 0 _ hid'
    · rw [if_neg (Ne.symm e), if_neg e] at h0'
      rw [if_neg (Ne.symm e), if_neg e]
      exact h0'
  · by_cases e : i = id
    · subst e
      have hi' : setM s.mem i cells i = some cells2 := hi
      rw [setM_get] at hi'
      cases hi'
      refine ⟨w.heap.size, hid', .inl ⟨⟨cs.toArray, t, heap_new _ _, by simpa using h2.1, ?_, ?_, hsc, fun j c u h1 h2' => ?_⟩, cs.toArray, by rw [hid]; exact heap_new _ _⟩⟩
      · show (if w.heap.size = w.heap.size then _ else _) = _; simp
      · show (if w.heap.size = w.heap.size then _ else _) = _; simp
      · have := (h2.2 j c u h1 (by simpa using h2')).stab stG
        exact this.toO (hfl c (List.mem_of_getElem? h1))
    · have hi' : setM s.mem id cells i = some cells2 := hi
      rw [setM_ne e] at hi'
      exact hT2.mem.obj i cells2 hi'


/-- A value in an object of its own. -/
theorem AOps.boxG {v : AV} {cells : List AV} (hg : Wants ops s o) (hd : o.dst = some d) (hn : d < n) (ht : t < 10000) (ho : o.op = .box t x) (hx : ArgOf s x v) (hok : Operand.ok x = true) (hp : v.part = true) (hc : v.cells = cells) (hfl : ∀ c ∈ cells, c.flat = true)
    (k : ∀ id, s.mem id = none → id % 10000 = t → AOps P n ops rest { s with fr := (d, .gptr id 0) :: s.fr, mem := setM s.mem id cells } Q) : AOps P n ops (o :: rest) s Q := by
  subst hc
  refine AOps.newG hg hd hn ht (fun c hc => ?_) hfl ?_ k
  · cases v with
    | agg cs => exact List.all_eq_true.1 (show cs.all AV.scalar = true from hp) c hc
    | _ => simp only [AV.cells, List.mem_singleton] at hc; subst hc; exact hp
  · intro G a w hr
    obtain ⟨h2, h3⟩ := (hx.rel hr (ok_const hok)).cells hp
    exact ⟨(a.eval x).cells.toList, h2, by simp [execOp, ho, Instr.box, newVar, newRow]⟩
/-- A call of a function value. -/
theorem AOps.callV {c : Call} {ars cap args : List AV} {R : AV → (Nat → Option (List AV)) → Prop} (hg : Wants ops s o) (hd : o.dst = some d) (hn : d < n) (ho : o.op = .call c) (hc : c.callee = .value (.tmp r)) (hfn : s.get r = .fn f cap)
    (henter : ∀ (vs : Array Value) (w : World), (callFunc f vs).run P w = .ok (.enter f vs) w) (hcon : ∀ x ∈ c.args, ∀ v cs, x = .const v → v = .agg cs → ∀ c ∈ cs, c.oneCell' = true)
    (hlen : c.args.size = ars.length) (hargs : ∀ (j : Nat) x v, c.args[j]? = some x → ars[j]? = some v → ArgOf s x v) (hall : ars ++ cap = args) (h : ACall P f args s.mem R)
    (k : ∀ r M, R r M → AOps P n ops rest { (s.put d r) with mem := M } Q) : AOps P n ops (o :: rest) s Q := by
  intro G a w K hr hfx hK
  simp only [wpList]
  rw [if_pos (wants_eval hr (fun t => by omega) hg)]
  left
  unfold Oper.wp
  subst hall
  have hfv : ∃ vs : List Value, a.tmps.getD r undef = .func (.func f) #[] vs.toArray ∧ vs.length = cap.length ∧ ∀ (j : Nat) (c : AV) (v : Value), cap[j]? = some c → vs[j]? = some v → RelV P G w c v := by
    have h0 := hr.slot r
    rw [hfn] at h0
    have h1 : RelV P G w (.fn f cap) (a.tmps.getD r undef) := h0
    generalize a.tmps.getD r undef = u at h1
    cases h1 with
    | fn _ _ vs h2 h3 => exact ⟨vs, rfl, h2, h3⟩
  obtain ⟨vs, hv1, hv2, hv3⟩ := hfv
  have hev : a.eval (.tmp r) = .func (.func f) #[] vs.toArray := hv1
  have hrun : (execOp a.eval o).run P w = .ok (.enter f (c.args.map a.eval ++ vs.toArray)) w := by
    simp [execOp, ho, resolve, hc, hev, Deferred.ofValue, invoke, henter]
  rw [hrun, Oper.upon_enter]
  have hcall := h G.out w (c.args.map a.eval ++ vs.toArray).toList hr.mem.out (hfx.keep (out_keep (G := G) (w := w))) (by simp [hlen, hv2]) (fun j x v hx hv => by
    rw [Array.toList_append] at hv
    rcases Nat.lt_or_ge j ars.length with hj | hj
    · rw [List.getElem?_append_left hj] at hx
      rw [List.getElem?_append_left (by simp; omega), Array.toList_map, List.getElem?_map] at hv
      cases hy : c.args.toList[j]? with
      | none => simp [hy] at hv
      | some y =>
        simp only [hy, Option.map_some, Option.some.injEq] at hv
        subst hv
        have hy' : c.args[j]? = some y := by simpa using hy
        have := (hargs j y x hy' hx).rel hr (hcon y (by have := List.mem_of_getElem? hy; simpa using this))
        exact this.stab out_stab
    · rw [List.getElem?_append_right hj] at hx
      rw [List.getElem?_append_right (by simp; omega)] at hv
      have e : (c.args.map a.eval).toList.length = ars.length := by simp [hlen]
      rw [e] at hv
      exact (hv3 _ x v hx (by simpa using hv)).stab out_stab)
  simp only [Array.toArray_toList] at hcall
  refine hcall.mono ?_
  rintro e w' ⟨r, M', G', u, rfl, hR, hnl, hu, hm, hk⟩
  have hf : ∀ b, w'.heap.size ≤ b → (G.back G' w.heap.size d).tip b = 0 ∧ (G.back G' w.heap.size d).owner b = none := fun b hb => ⟨(hm.far b hb).1, back_none (fun h => by have := hk.size; omega) (hm.far b hb).2⟩
  have st0 : Stab G' w' (G.back G' w.heap.size d) w' := ⟨fun _ => Nat.le_refl _, fun _ _ _ => rfl, fun _ _ h => h⟩
  have st : Stab G w (G.back G' w.heap.size d) w' := (out_stab (G := G) (w := w)).trans (hk.stab.trans st0)
  have hu' : RelS P (G.back G' w.heap.size d) w' (.slot d) r u := by
    exact hu.move st0 (Nat.le_refl _) (fun k off e => by subst e; cases hnl) (fun c b hb h2 => ⟨back_res (back_foreign hk h2) h2, rfl, rfl⟩)
  have hkb : Keep G w (G.back G' w.heap.size d) w' := by
    refine ⟨hk.os, hk.tape, hk.output, hk.size, fun b hb ho => ?_, st⟩
    obtain ⟨h1, h2, h3⟩ := hk.free b hb (out_none (fun q e => by rw [ho] at e; cases e))
    exact ⟨back_none (fun _ => ho) h1, h2, h3⟩
  refine k r M' hR (G.back G' w.heap.size d) (a.put o.dst u) w' K ?_ (hfx.keep hkb) (fun s' G2 a2 w2 hq hr2 hk2 => hK s' G2 a2 w2 hq hr2 (Keep.trans hkb hk2))
  · rw [hd]
    refine ⟨by simp [Act.put, hr.size], by simpa [Act.put] using hr.defers, fun i => ?_, fun k cells hkk => ?_, ?_⟩
    · rw [getD_put _ _ _ _ (by rw [hr.size]; exact hn)]
      show RelS P _ w' (.slot i) (look .any ((d, r) :: s.fr) i) _
      simp only [look]
      by_cases e : i = d
      · subst e; simp only [if_true]; exact hu'
      · rw [if_neg (Ne.symm e), if_neg e]
        exact (hr.slot i).move st hk.size (fun _ _ _ => rfl) (fun c b h1 h2 => back_kept hk h1 h2 rfl)
    · have h0 := hr.loc k cells hkk
      have h1 := back_kept (d := d) hk h0.lt h0.own rfl
      exact h0.move st hk.size h1.2.1 (h1.1.trans h0.own.symm) h1.2.2 (fun c b h1 h2 => back_kept hk h1 h2 rfl)
    · exact hm.move st0 (Nat.le_refl _) (fun q b hq hb h2 => ⟨back_own (back_foreign hk h2) h2 hq, rfl, rfl⟩) hf rfl
end
end Go.Proofs.Ytfnbfkgknfagmaa
