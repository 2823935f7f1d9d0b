/- Abstract values: pointers held against each other; a pointer as unsafe.Pointer and back; an entry of the model's; a row that goes into an object's cell. -/
import Derived.Test.YtfnbfkgknfagmaaAvObj
namespace Go.Proofs.Ytfnbfkgknfagmaa
open Go.RowKit

def ptrEq : AV → AV → Option Bool
  | .lit (.pointer none), .lit (.pointer none) => some true
  | .gptr _ _, .lit (.pointer none) => some false
  | .gptr i a, .gptr j b => if i = j ∧ a = b then some true else none
  | _, _ => none

section
variable {P : Program} {n : Nat} {s : St} {ops : Array Oper} {o : Oper} {l rest : List Oper} {Q : St → Prop} {d r f : Nat} {t t' E T : TypeId} {x y : Operand} {op : BinOp}

theorem run_ptr_nn (k : Nat) (hu : P.underlying t = some (.pointer E)) (w : World) : (Op.equalIn (k + 1) t (.pointer none) (.pointer none)).run P w = .ok true w := by
  simp [Op.equalIn, run_underlying hu]
theorem run_ptr_sn (k : Nat) (a : Addr) (hu : P.underlying t = some (.pointer E)) (w : World) : (Op.equalIn (k + 1) t (.pointer (some a)) (.pointer none)).run P w = .ok false w := by
  simp [Op.equalIn, run_underlying hu]
theorem run_ptr_ss (k : Nat) (a : Addr) {size : Nat} (hu : P.underlying t = some (.pointer E)) (hs : SizeOf P E size) (h0 : size ≠ 0) (w : World) : (Op.equalIn (k + 1) t (.pointer (some a)) (.pointer (some a))).run P w = .ok true w := by
  simp [Op.equalIn, run_underlying hu, run_size hs, h0, run_sameAddr_same]

theorem Reader.eqPtr {xv yv : AV} {size : Nat} {b c : Bool} (ho : o.op = .binOp op t x y t') (hu : P.underlying t = some (.pointer E)) (hs : SizeOf P E size) (h0 : size ≠ 0) (hx : s.eval x = xv) (hy : s.eval y = yv) (hp : ptrEq xv yv = some b)
    (hr : (op = .eql ∧ c = b) ∨ (op = .neq ∧ c = !b)) : Reader P n s o d (.lit (.bool c)) := by
  intro G a w h
  refine ⟨.bool c, lit_toS _, fun w' _ => ?_⟩
  have key : ∃ u v, a.eval x = .pointer u ∧ a.eval y = .pointer v ∧ (Op.equalIn (9999 + 1) t (.pointer u) (.pointer v)).run P w' = .ok b w' := by
    unfold ptrEq at hp
    split at hp
    · cases hp
      exact ⟨_, _, h.evLit hx, h.evLit hy, run_ptr_nn _ hu _⟩
    · cases hp
      obtain ⟨b0, _, hb⟩ := h.evG hx
      exact ⟨_, _, hb, h.evLit hy, run_ptr_sn _ _ hu _⟩
    · split at hp
      · rename_i he
        cases hp
        obtain ⟨e1, e2⟩ := he
        subst e1; subst e2
        obtain ⟨b0, h1, hb⟩ := h.evG hx
        obtain ⟨b1, h2, hb'⟩ := h.evG hy
        rw [h1] at h2
        cases h2
        exact ⟨_, _, hb, hb', run_ptr_ss _ _ hu hs h0 _⟩
      · cases hp
    · cases hp
  obtain ⟨u, v, hu', hv', hrun⟩ := key
  rcases hr with ⟨rfl, rfl⟩ | ⟨rfl, rfl⟩
  · simp [execOp, ho, hu', hv', binOp, eqGuard, Op.equal, Op.maxDepth, hrun, Result.andThen]
  · simp [execOp, ho, hu', hv', binOp, eqGuard, Op.equal, Op.maxDepth, hrun, Result.andThen]

theorem shape_later {w w' : World} {b : Nat} {arr : Array Value} (hb : Below w.heap.size w w') (h : w.heap[b]? = some (.cells arr T (0, 0))) : w'.shape? b = some (T, arr.size) := by
  have hlt := (Array.getElem?_eq_some_iff.1 h).1
  simp [World.shape?, (hb.block b hlt).trans h]

theorem Reader.toUnsafe {id size : Nat} {cells : List AV} (ho : o.op = .convert t t' x) (h1 : P.underlying t = some (.pointer E)) (h2 : P.underlying t' = some .unsafePointer) (hE : SizeOf P E size) (h0 : size ≠ 0) (hx : s.eval x = .gptr id 0) (hc : s.mem id = some cells) (hl : 0 < cells.length) (hall : cells.all AV.scalar = true := by first | rfl | (simp only [List.all_cons, List.all_nil, *]; rfl)) :
    Reader P n s o d (.gptr id 0) := by
  intro G a w h
  obtain ⟨b, hb, hav⟩ := h.evG hx
  obtain ⟨b', hb', hX⟩ := h.mem.obj id cells hc
  obtain ⟨hH, arr, hty⟩ := hX.cells hall
  rw [hb] at hb'
  cases hb'
  obtain ⟨arr', T', hh, hsz, _⟩ := hH
  rw [hh] at hty
  refine ⟨_, RelV.gptr id 0 b hb, fun w' hw => ?_⟩
  obtain ⟨i, hi, hi2⟩ := sizeOf_some hE
  have := Lib.run_to_unsafe (P := P) (w := w') (⟨b, 0, none⟩ : Addr) h1 h2 hi (by rw [hi2]; exact h0) (shape_later hw hh) (by show 0 < arr'.size; omega)
  simp [execOp, ho, hav, this]

theorem Reader.fromUnsafe {id size : Nat} {cells : List AV} (ho : o.op = .convert t t' x) (h1 : P.underlying t = some .unsafePointer) (h2 : P.underlying t' = some (.pointer E)) (hE : SizeOf P E size) (hx : s.eval x = .gptr id 0) (hc : s.mem id = some cells) (hid : id % 10000 = T)
    (hl : liesAt P P.depth T (cells.length / P.cellsOf T) 0 E 1 = true) (hall : cells.all AV.scalar = true := by first | rfl | (simp only [List.all_cons, List.all_nil, *]; rfl)) : Reader P n s o d (.gptr id 0) := by
  intro G a w h
  obtain ⟨b, hb, hav⟩ := h.evG hx
  obtain ⟨b', hb', hX⟩ := h.mem.obj id cells hc
  obtain ⟨hH, arr, hty⟩ := hX.cells hall
  rw [hb] at hb'
  cases hb'
  obtain ⟨arr', T', hh, hsz, _⟩ := hH
  rw [hh] at hty
  injection hty with hty
  injection hty with _ hT _
  rw [hid] at hT
  subst hT
  refine ⟨_, RelV.gptr id 0 b hb, fun w' hw => ?_⟩
  obtain ⟨i, hi, hi2⟩ := sizeOf_some hE
  have := Lib.run_from_unsafe (P := P) (w := w') (⟨b, 0, none⟩ : Addr) h1 h2 hi (shape_later hw hh) (by show liesAt P P.depth T' (arr'.size / P.cellsOf T') 0 E 1 = true; rw [hsz]; exact hl)
  simp [execOp, ho, hav, this]

/-- An entry of the model's that answers its argument. -/
theorem Reader.same {c : Call} {id : Nat} (ho : o.op = .call c) (hc : c.callee = .value (.func f)) (ha : c.args = #[x]) (hrun : ∀ v w, (callFunc f #[v]).run P w = .ok (.value v) w) (hx : s.eval x = .gptr id 0) : Reader P n s o d (.gptr id 0) := by
  intro G a w h
  obtain ⟨b, hb, hav⟩ := h.evG hx
  refine ⟨_, RelV.gptr id 0 b hb, fun w' _ => ?_⟩
  simp [execOp, ho, resolve, hc, ha, Deferred.ofValue, invoke, hav, hrun, show a.eval (.func f) = .func (.func f) #[] #[] from rfl]

/-- nil, as a row that is owned. -/
theorem AOps.asList (E : TypeId) (hs : s.get r = .lit (.slice none 0 0)) (k : AOps P n ops l (s.put r (.list true E [])) Q) : AOps P n ops l s Q := by
  intro G a w K hr hfx hK
  refine k G a w K ⟨hr.size, hr.defers, fun i => ?_, hr.loc, hr.mem⟩ hfx hK
  show RelS P G w (.slot i) (look .any ((r, .list true E []) :: s.fr) i) _
  simp only [look]
  split
  · rename_i e
    subst e
    have := hr.slot r
    rw [hs] at this
    exact .inr ⟨rfl, .inl (RelS.lit this)⟩
  · exact hr.slot i

/-- A row goes into a cell. -/
theorem Holds.give {G : Gh} {w w' : World} {b : Nat} {own : Pos} {p : Nat → Pos} {cells : List AV} {kk r : Nat} {xs : List AV} {u : Value} {cur : Array Value} (h : Holds P G w b own p cells) (hh : w.heap[b]? = some (.cells cur T (0, 0))) (hu : RelO P G w (.slot r 0) (.list true E xs) u) (hk : kk < cells.length)
    (hw' : w' = w.setRow b (cur.toList.take kk ++ [u] ++ cur.toList.drop (kk + 1)).toArray) (st : Stab G w (G.pass (.slot r 0) (p kk)) w') (hz : w.heap.size ≤ w'.heap.size)
    (hother : ∀ q b', b' < w.heap.size → G.owner b' = some q → q ≠ own → w'.heap[b']? = w.heap[b']?) (hown : own ≠ .slot r 0) (hp : ∀ j, p j ≠ .slot r 0) (hpo : ∀ j, p j ≠ own) :
    Holds P (G.pass (.slot r 0) (p kk)) w' b own p (cells.set kk (.list true E xs)) := by
  obtain ⟨arr, T', h1, h2, h3, h4, h5, h6⟩ := h
  rw [hh] at h1
  cases h1
  refine ⟨_, T, by rw [hw']; exact setRow_heap w b cur _ T _ hh, ?_, pass_own h3 hown, h4, fun c hc => ?_, fun j c v hj hv => ?_⟩
  · simp; omega
  · rcases List.mem_or_eq_of_mem_set hc with h | h
    · exact h5 c h
    · subst h; rfl
  · have hv' : (cur.toList.take kk ++ [u] ++ cur.toList.drop (kk + 1))[j]? = some v := by simpa using hv
    rw [set_take_drop _ _ _ (by simp; omega), List.getElem?_set] at hv'
    rw [List.getElem?_set] at hj
    by_cases e : kk = j
    · subst e
      rw [if_pos rfl, if_pos hk] at hj
      rw [if_pos rfl, if_pos (by simp; omega)] at hv'
      cases hj
      cases hv'
      exact hu.move st hz (fun b' hb ho => ⟨pass_new ho, hother _ b' hb ho (fun e => hown e.symm), rfl⟩)
    · rw [if_neg e] at hj hv'
      exact (h6 j c v hj (by simpa using hv')).move st hz (fun b' hb ho => ⟨pass_own ho (hp j), hother _ b' hb ho (hpo j), rfl⟩)

theorem AOps.storeOwn {cells xs : List AV} {id kk : Nat} {M' : Nat → Option (List AV)} (hg : Wants ops s o) (hd : o.dst = none) (ho : o.op = .store t x (.tmp r)) (hx : s.eval x = .gptr id kk) (hc : s.mem id = some cells) (hs : SizeOf P t 1) (hy : s.get r = .list true E xs) (hfit : kk < cells.length)
    (hM : setM s.mem id (cells.set kk (.list true E xs)) = M') (k : AOps P n ops rest { s with fr := (r, .list false E xs) :: s.fr, mem := M' } Q) (hall : cells.all AV.scalar = true := by first | rfl | (simp only [List.all_cons, List.all_nil, *]; rfl)) : AOps P n ops (o :: rest) s Q := by
  subst hM
  refine AOps.effect hg hd ?_ k
  intro G a w hr
  obtain ⟨b0, hb0, hav⟩ := hr.evG hx
  obtain ⟨b', hb', hX⟩ := hr.mem.obj id cells hc
  obtain ⟨hH, arr0, hty⟩ := hX.cells hall
  rw [hb0] at hb'
  cases hb'
  have hH0 := hH
  obtain ⟨cur, T, hh, hcs, ho1, ht1, _, _⟩ := hH0
  have hsl := hr.slot r
  rw [hy] at hsl
  have hsl' : RelO P G w (.slot r 0) (.list true E xs) (a.tmps.getD r undef) := hsl
  have hun : RelV P G w (.list false E xs) (a.tmps.getD r undef) := by
    rcases hsl'.toV with h | ⟨cs, e⟩
    · exact h
    · cases e
  have hone : (a.tmps.getD r undef).oneCell' = true := hun.oneCell rfl
  have hcl : (a.tmps.getD r undef).cells = #[a.tmps.getD r undef] := by
    generalize a.tmps.getD r undef = v at hone
    cases v <;> first | rfl | cases hone
  have hrun := run_storeVar_at (P := P) (t := t) (off := kk) (v := a.tmps.getD r undef) hh hs (by rw [hcl]; rfl) (by rw [hcl]; intro u hu; simp only [List.mem_singleton] at hu; rw [hu]; exact hone) (by omega)
  rw [hcl] at hrun
  obtain ⟨W', hW⟩ : ∃ W', W' = w.setRow b0 (cur.toList.take kk ++ [a.tmps.getD r undef] ++ cur.toList.drop (kk + 1)).toArray := ⟨_, rfl⟩
  have hrun' : (storeVar t ⟨b0, kk, none⟩ (a.tmps.getD r undef)).run P w = .ok () W' := by rw [hW]; exact hrun
  have other : ∀ q b, G.owner b = some q → q ≠ .mb id → W'.heap[b]? = w.heap[b]? := by
    intro q b h1 h2
    subst hW
    refine setRow_other w _ b _ (fun e => h2 ?_)
    rw [e, ho1] at h1
    exact (Option.some.inj h1).symm
  have st : Stab G w (G.pass (.slot r 0) (.mc id kk)) W' := by
    refine ⟨fun _ => Nat.le_refl _, fun b oo hoo => ?_, fun _ _ h => h⟩
    have hne : b ≠ b0 := fun e => by rw [e, ht1] at hoo; omega
    subst hW
    exact World.cell?_of_block (w := w) (a := ⟨b, oo, none⟩) (setRow_other w _ b _ hne)
  have hzz : W'.heap.size = w.heap.size := by rw [hW]; simp
  have hz : w.heap.size ≤ W'.heap.size := by omega
  have hmv : ∀ (q : Pos) (b : Nat), q ≠ .slot r 0 → q ≠ .mb id → b < w.heap.size → G.owner b = some q → (G.pass (.slot r 0) (.mc id kk)).owner b = some q ∧ W'.heap[b]? = w.heap[b]? ∧ (G.pass (.slot r 0) (.mc id kk)).tip b = G.tip b :=
    fun q b h1 h2 _ h => ⟨pass_own h h1, other q b h h2, rfl⟩
  refine ⟨W', G.pass (.slot r 0) (.mc id kk), ?_, ⟨hr.size, hr.defers, fun i => ?_, fun k1 cells1 hk1 => ?_, ⟨fun i cs hi => ?_, fun b hb => ⟨(hr.mem.far b (by omega)).1, pass_none (hr.mem.far b (by omega)).2⟩, hr.mem.fin⟩⟩, ⟨by rw [hW]; rfl, by rw [hW]; rfl, by rw [hW]; rfl, hz, fun b hb hn => ⟨pass_none hn, ?_, rfl⟩, st⟩⟩
  · have ev : a.eval (.tmp r) = a.tmps.getD r undef := rfl
    generalize a.tmps.getD r undef = v at hrun' ev
    simp [execOp, ho, Instr.storeAt, Instr.sureAddr, hav, ev, hrun']
  · show RelS P _ W' (.slot i) (look .any ((r, .list false E xs) :: s.fr) i) _
    simp only [look]
    by_cases e : r = i
    · subst e
      rw [if_pos rfl]
      exact hun.stab st
    · rw [if_neg e]
      exact (hr.slot i).move st hz (fun _ _ _ => rfl) (fun c b h1 h2 => hmv _ b (by intro h; injection h with h; exact e h.symm) (by intro h; cases h) h1 h2)
  · have h0 := hr.loc k1 cells1 hk1
    exact h0.move st hz (other _ _ h0.own (by intro h; cases h)) ((pass_own h0.own (by intro h; cases h)).trans h0.own.symm) rfl (fun c b h1 h2 => hmv _ b (by intro h; cases h) (by intro h; cases h) h1 h2)
  · have hi' : setM s.mem id (cells.set kk (.list true E xs)) i = some cs := hi
    by_cases e : i = id
    · subst e
      rw [setM_get] at hi'
      cases hi'
      refine ⟨b0, hb0, .inl ⟨hH.give (r := r) hh hsl' hfit hW st hz (fun q b _ h1 h2 => other q b h1 h2) (by intro h; cases h) (fun j h => by cases h) (fun j h => by cases h), ?_⟩⟩
      rw [hh] at hty
      injection hty with hty
      injection hty with _ hT _
      exact ⟨_, by rw [hW, setRow_heap w b0 cur _ T _ hh, hT]⟩
    · rw [setM_ne e] at hi'
      obtain ⟨b2, hb2, hh2⟩ := hr.mem.obj i cs hi'
      have hne := other _ _ hh2.own (by intro h; injection h with h; exact e h)
      exact ⟨b2, hb2, hh2.move st hz hne ((pass_own hh2.own (by intro h; cases h)).trans hh2.own.symm) rfl (fun c b h1 h2 => hmv _ b (by intro h; cases h) (by intro h; cases h) h1 h2)⟩
  · subst hW
    refine setRow_other w _ b _ (fun e => ?_)
    rw [e, ho1] at hn; cases hn

theorem cell_freeze {w : World} {g : Addr} {m : Nat} (p : Addr) : (w.freeze g m).cell? p = w.cell? p := by
  unfold World.freeze
  split
  · rfl
  · simp only [World.cell?, Array.getElem?_modify]
    by_cases e : g.block = p.block
    · rw [if_pos e]
      cases w.heap[p.block]? with
      | none => rfl
      | some o => cases o <;> rfl
    · rw [if_neg e]
theorem heap_freeze {w : World} {g : Addr} {m b : Nat} (h : b ≠ g.block) : (w.freeze g m).heap[b]? = w.heap[b]? := by
  unfold World.freeze
  split
  · rfl
  · simp [Array.getElem?_modify, Ne.symm h]
theorem size_freeze {w : World} {g : Addr} {m : Nat} : (w.freeze g m).heap.size = w.heap.size := by
  unfold World.freeze
  split <;> simp
theorem os_freeze {w : World} {g : Addr} {m : Nat} : (w.freeze g m).os = w.os := by unfold World.freeze; split <;> rfl
theorem tape_freeze {w : World} {g : Addr} {m : Nat} : (w.freeze g m).tape = w.tape := by unfold World.freeze; split <;> rfl
theorem output_freeze {w : World} {g : Addr} {m : Nat} : (w.freeze g m).output = w.output := by unfold World.freeze; split <;> rfl

/-- []byte of a row of bytes that is owned: the row, which may not be written any more. -/
theorem AOps.convBytes {xs : List AV} (hg : Wants ops s o) (hd : o.dst = some d) (hn : d < n) (ho : o.op = .convert t t (.tmp r)) (hu : P.underlying t = some (.slice E)) (hE : P.underlying E = some (.int .u8)) (hx : s.get r = .list true E xs) (hne : xs.isEmpty = false)
    (k : AOps P n ops rest { s with fr := (d, .list false E xs) :: (r, .list false E xs) :: s.fr } Q) : AOps P n ops (o :: rest) s Q := by
  refine AOps.step hg hd ?_ k
  intro G a w hr
  have hsl := hr.slot r
  rw [hx] at hsl
  have hsl' : RelO P G w (.slot r 0) (.list true E xs) (a.tmps.getD r undef) := hsl
  have hxs : xs ≠ [] := by intro h; rw [h] at hne; cases hne
  have hun : RelV P G w (.list false E xs) (a.tmps.getD r undef) := by
    rcases hsl'.toV with h | ⟨cs, e⟩
    · exact h
    · cases e
  rcases hsl' with ⟨size, us, hs, hl, hsc, hown, hrr, hb⟩ | ⟨h, _⟩
  · obtain ⟨h1, h2⟩ := hown
    rcases h2 with ⟨hv, h0⟩ | ⟨g, cap, cur, hv, _, hh, hc, hm, hz, ht⟩
    · exact absurd (List.length_eq_zero_iff.1 h0) hxs
    · rw [hv] at hun hb
      obtain ⟨hb1, hb2, hb3⟩ := hb g rfl
      have hev : a.eval (.tmp r) = .slice (some ⟨g, 0, none⟩) xs.length cap := hv
      have hsh : w.shape? g = some (E, cur.size) := by simp [World.shape?, hh]
      obtain ⟨W', hW⟩ : ∃ W', W' = w.freeze ⟨g, cur.size, none⟩ 1 := ⟨_, rfl⟩
      have hrun : (convert t t (.slice (some ⟨g, 0, none⟩) xs.length cap)).run P w = .ok (.slice (some ⟨g, 0, none⟩) xs.length cap) W' := by
        rw [hW]
        simp [convert, run_underlying hu, run_underlying hE, markStringish, hsh]
      have hoth : ∀ b, b ≠ g → W'.heap[b]? = w.heap[b]? := fun b h => by rw [hW]; exact heap_freeze h
      have st : Stab G w G W' := ⟨fun _ => Nat.le_refl _, fun b o _ => by rw [hW]; exact cell_freeze _, fun _ _ h => h⟩
      have hz' : w.heap.size ≤ W'.heap.size := by rw [hW, size_freeze]; exact Nat.le_refl _
      have hr0 := hr.unslot r
      have hT := hr0.turnX (G' := G) (w' := W') (d := d) (v := .list false E xs) (u := .slice (some ⟨g, 0, none⟩) xs.length cap) (fun i => i = r) (fun i hi => .inr (by rw [hi, get_put, un_un])) hn st hz' (fun _ _ => rfl)
        (fun q b _ h1 h2 => ⟨h1, hoth b (fun e => by subst e; rw [hb2] at h1; cases h1; exact h2 r 0 rfl rfl), rfl⟩) (fun b hb => hr.mem.far b (by rw [hW, size_freeze] at hb; exact hb)) rfl (hun.stab st)
      rw [hx] at hT
      exact ⟨_, W', G, by simp [execOp, ho, hev, hrun], hT, ⟨by rw [hW, os_freeze], by rw [hW, tape_freeze], by rw [hW, output_freeze], hz', fun b hb hn => ⟨hn, hoth b (fun e => by subst e; rw [hb2] at hn; cases hn), rfl⟩, st⟩⟩
  · exact absurd h hxs
end
end Go.Proofs.Ytfnbfkgknfagmaa
