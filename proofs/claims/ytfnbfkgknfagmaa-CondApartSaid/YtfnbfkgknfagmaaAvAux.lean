/- Abstract values: small helps for walks that a program prints. -/
import Derived.Test.YtfnbfkgknfagmaaAvBr
namespace Go.Proofs.Ytfnbfkgknfagmaa
open Go.RowKit

def AV.notL (d : Nat) : AV → Bool
  | .lptr k _ => k != d
  | _ => true

section
variable {P : Program} {n : Nat} {s : St} {ops : Array Oper} {o : Oper} {rest : List Oper} {Q : St → Prop} {QE : Exit → St → Prop} {d r : Nat} {t t' tx E : TypeId} {x y : Operand} {k : IntKind} {i : Int}

theorem look_mem {α : Type} (dd : α) (l : List (Nat × α)) (j : Nat) : look dd l j = dd ∨ ∃ p ∈ l, look dd l j = p.2 := by
  induction l with
  | nil => left; rfl
  | cons a r ih =>
    simp only [look]
    split
    · right; exact ⟨a, List.mem_cons_self .., rfl⟩
    · rcases ih with h | ⟨p, hp, h⟩
      · left; exact h
      · right; exact ⟨p, List.mem_cons_of_mem _ hp, h⟩

theorem noL (h : s.fr.all (fun p => p.2.notL d) = true) : ∀ j off, s.get j ≠ .lptr d off := by
  intro j off e
  rcases look_mem .any s.fr j with h1 | ⟨p, hp, h1⟩
  · rw [show s.get j = look .any s.fr j from rfl, h1] at e; cases e
  · have := List.all_eq_true.1 h p hp
    rw [show s.get j = look .any s.fr j from rfl, h1] at e
    rw [e] at this
    simp [AV.notL] at this

theorem all_flat {cs : List AV} (h : cs.all AV.flat = true) : ∀ c ∈ cs, c.flat = true := List.all_eq_true.1 h
theorem all_scalar {cs : List AV} (h : cs.all AV.scalar = true) : ∀ c ∈ cs, c.scalar = true := List.all_eq_true.1 h
theorem all_len {xs : List AV} {m : Nat} (h : (xs.all fun x => x.cells.length == m) = true) : ∀ x ∈ xs, x.cells.length = m := fun x hx => eq_of_beq (List.all_eq_true.1 h x hx)
theorem all_sc {xs : List AV} (h : (xs.all fun x => x.cells.all AV.scalar) = true) : ∀ x ∈ xs, ∀ c ∈ x.cells, c.scalar = true := fun x hx c hc => List.all_eq_true.1 (List.all_eq_true.1 h x hx) c hc
theorem args_ok {l : Array Operand} (h : l.toList.all Operand.ok = true) : ∀ x ∈ l, ∀ v cs, x = .const v → v = .agg cs → ∀ c ∈ cs, c.oneCell' = true :=
  fun x hx => ok_const (List.all_eq_true.1 h x (by simpa using hx))

theorem bnot_t {b : Bool} (h : (!b) = true) : b = false := by cases b <;> first | rfl | cases h
theorem bnot_f {b : Bool} (h : (!b) = false) : b = true := by cases b <;> first | rfl | cases h
theorem nat_rem (a b : Nat) : ((a : Int)).tmod (b : Int) = ((a % b : Nat) : Int) := by rw [Int.tmod_eq_emod_of_nonneg (by omega)]; rfl
theorem nat_quo (a b : Nat) : ((a : Int)).tdiv (b : Int) = ((a / b : Nat) : Int) := by rw [Int.tdiv_eq_ediv_of_nonneg (by omega)]; rfl

theorem byteAVs_at {l : List UInt8} {j : Nat} (h : j < l.length) : (byteAVs l)[j]? = some (.lit (.int .u8 (l.getD j 0).toNat)) := by
  rw [byteAVs_get, List.getD_eq_getElem?_getD, List.getElem?_eq_getElem h]; rfl
theorem getD_some {l : List UInt8} {j : Nat} (h : j < l.length) : l[j]? = some (l.getD j 0) := by
  rw [List.getD_eq_getElem?_getD, List.getElem?_eq_getElem h]; rfl
theorem map_at {α : Type} {f : α → AV} {l : List α} {j : Nat} {a : α} (h : l[j]? = some a) : (l.map f)[j]? = some (f a) := by rw [List.getElem?_map, h]; rfl

theorem Reader.len' {o' : Bool} {E' : TypeId} {xs : List AV} {c : Call} {m : Nat} (ho : o.op = .call c) (hc : c.callee = .builtin .len) (ha : c.args = #[x]) (ht : c.argTypes = #[t]) (hu : P.underlying t = some (.slice E)) (hx : s.eval x = .list o' E' xs) (hm : xs.length = m) :
    Reader P n s o d (.lit (.int .i64 m)) := by subst hm; exact Reader.len ho hc ha ht hu hx
theorem Reader.lenStr' {l : List UInt8} {c : Call} {m : Nat} (ho : o.op = .call c) (hc : c.callee = .builtin .len) (ha : c.args = #[x]) (ht : c.argTypes = #[t]) (hu : P.underlying t = some .string) (hx : s.eval x = .str l) (hm : l.length = m) :
    Reader P n s o d (.lit (.int .i64 m)) := by subst hm; exact Reader.lenStr ho hc ha ht hu hx

theorem AWp.label {l : Nat} (h : QE .normal s) : AWp P n (.label l) s QE := by
  intro G a w K hr hfx hK
  exact wp_label (hK _ _ _ _ _ h hr (Keep.refl _ _))

theorem AWp.scope {c : Code} (h : AWp P n c s fun e s' => match e with | .goto _ => False | e => QE e s') : AWp P n (.scope c) s QE := by
  intro G a w K hr hfx hK
  refine wp_scope_straight (h G a w _ hr hfx ?_)
  intro e s' G' a' w' hq hr' hk
  cases e with
  | goto l => exact hq.elim
  | _ => exact hK _ _ _ _ _ hq hr' hk

theorem AWp.loopE (ls ks : List Nat) (I : Nat → St → Prop) {c : Code} (h0 : ∃ m, I m (s.keep ls ks))
    (hr : ∀ m s, I m s → AWp P n c s fun e s' => match e with | .normal => ∃ m', m' < m ∧ I m' (s'.keep ls ks) | e => QE e s') : AWp P n (.loop c) s QE := by
  obtain ⟨m, h0⟩ := h0
  exact AWp.loop ls ks I m h0 hr

/-- A part of an answer of several values, with what it owns. -/
theorem AOps.take {v : AV} {cs : List AV} {m : Nat} (hg : Wants ops s o) (hd : o.dst = some d) (hn : d < n) (hrd : r ≠ d) (ho : o.op = .extract (.tmp r) m) (hx : s.get r = .tuple cs) (hc : cs[m]? = some v) (hv : v.flat = true ∨ ∃ E xs, v = .list true E xs)
    (k : AOps P n ops rest { s with fr := (d, v) :: (r, .tuple (cs.set m v.un)) :: s.fr } Q) : AOps P n ops (o :: rest) s Q := by
  refine AOps.step hg hd ?_ k
  intro G a w hr
  have hp := hr.slot r
  rw [hx] at hp
  obtain ⟨vs, hav, hl, hrr⟩ := hp
  have hlt := (List.getElem?_eq_some_iff.1 hc).1
  have e : vs[m]? = some vs[m] := List.getElem?_eq_getElem (by omega)
  let G' : Gh := { G with owner := fun b => if G.owner b = some (.slot r m) then some (.slot d 0) else G.owner b }
  have st : Stab G w G' w := ⟨fun _ => Nat.le_refl _, fun _ _ _ => rfl, fun _ _ h => h⟩
  have how : ∀ q b, G.owner b = some q → q ≠ .slot r m → G'.owner b = some q := by
    intro q b h1 h2
    show (if G.owner b = some (.slot r m) then some (Pos.slot d 0) else G.owner b) = some q
    rw [h1, if_neg (fun e => h2 (Option.some.inj e))]
  -- the slot r without the part
  have hr1 : RelSt P G' n (s.put r (.tuple (cs.set m v.un))) a w := by
    refine ⟨hr.size, hr.defers, fun j => ?_, fun k1 cells hk1 => ?_, ?_⟩
    · show RelS P G' w (.slot j) (look .any ((r, .tuple (cs.set m v.un)) :: s.fr) j) _
      simp only [look]
      by_cases ej : j = r
      · subst ej
        simp only [if_true]
        refine ⟨vs, hav, by simpa using hl, fun c' cc u h1 h2 => ?_⟩
        by_cases ec : c' = m
        · subst ec
          rw [List.getElem?_set_self hlt] at h1
          cases h1
          rw [e] at h2
          cases h2
          have h3 := hrr c' v _ hc e
          rcases h3.toV with h3 | ⟨cs', rfl⟩
          · have h4 := h3.stab st
            rcases hv with hv | ⟨E, xs, rfl⟩
            · cases v with
              | lptr | eptr | tuple | pin => cases hv
              | list o' E xs => exact h4
              | _ => exact h4
            · exact h4
          · rcases hv with hv | ⟨E, xs, hv⟩
            · cases hv
            · cases hv
        · rw [List.getElem?_set_ne (Ne.symm ec)] at h1
          exact (hrr c' cc u h1 h2).move st (Nat.le_refl _) (fun b _ h3 => ⟨how _ b h3 (by intro h; injection h with h5 h6; exact ec h6), rfl, rfl⟩)
      · rw [if_neg (Ne.symm ej)]
        exact (hr.slot j).move st (Nat.le_refl _) (fun _ _ _ => rfl) (fun c b _ h3 => ⟨how _ b h3 (by intro h; injection h with h5 h6; exact ej h5), rfl, rfl⟩)
    · exact (hr.loc k1 cells hk1).move st (Nat.le_refl _) rfl ((how _ _ (hr.loc k1 cells hk1).own (by intro h; cases h)).trans (hr.loc k1 cells hk1).own.symm) rfl (fun c b _ h2 => ⟨how _ b h2 (by intro h; cases h), rfl, rfl⟩)
    · exact hr.mem.move st (Nat.le_refl _) (fun q b hq _ h2 => ⟨how q b h2 (by intro h; subst h; cases hq), rfl, rfl⟩) (fun b hb => ⟨(hr.mem.far b hb).1, by
        show (if G.owner b = some (.slot r m) then some (Pos.slot d 0) else G.owner b) = none
        rw [(hr.mem.far b hb).2]; simp⟩) rfl
  refine ⟨vs[m], w, G', ?_, hr1.put hn ?_, ⟨rfl, rfl, rfl, Nat.le_refl _, fun b _ h => ⟨?_, rfl, rfl⟩, st⟩⟩
  · have hav' : a.eval (.tmp r) = .tuple vs.toArray := hav
    simp [execOp, ho, Instr.extract, hav', e]
  · have h3 := (hrr m v _ hc e).move (q' := .slot d 0) st (Nat.le_refl _) (fun b _ h2 => ⟨by
      show (if G.owner b = some (.slot r m) then some (Pos.slot d 0) else G.owner b) = _
      rw [if_pos h2], rfl, rfl⟩)
    rcases hv with hv | ⟨E, xs, rfl⟩
    · cases v with
      | lptr | eptr | tuple | pin => cases hv
      | _ => exact h3
    · exact h3
  · show (if G.owner b = some (.slot r m) then some (Pos.slot d 0) else G.owner b) = none
    rw [h]; simp

/-- Append, of a list; of a text's bytes. -/
theorem AOps.appL {size bytes : Nat} {ti : TypeInfo} {z : Value} {o2 : Bool} {xs ys zs : List AV} {c : Call} (hg : Wants ops s o) (hd : o.dst = some d) (hn : d < n) (hrd : r ≠ d) (ho : o.op = .call c) (hc : c.callee = .builtin .append) (ha : c.args = #[.tmp r, y]) (hat : c.argTypes = #[t, tx])
    (ht : P.underlying t = some (.slice E)) (htx : P.underlying tx = some (.slice E)) (hi : P.info? E = some ti) (hz : ti.zero = some z) (hsz : ti.size = size) (hby : ti.bytes = bytes) (hzs : z.cells.size = size)
    (hx : s.get r = .list true E xs) (hy : s.eval y = .list o2 E ys) {m1 m2 : Nat} (hm1 : xs.length = m1) (hm2 : ys.length = m2) (h63 : m1 + m2 ≤ maxLen) (hb : (m1 + m2) * bytes ≤ 140737488355328) (hzz : xs ++ ys = zs)
    (k : AOps P n ops rest { s with fr := (d, .list true E zs) :: (r, .list false E xs) :: s.fr } Q) : AOps P n ops (o :: rest) s Q := by
  have hs : SizeOf P E size := by unfold SizeOf; rw [hi]; simp [hsz]
  subst hm1; subst hm2
  refine AOps.app hg hd hn hrd ho hc ha hat ht hi hz hsz hby hzs hx (fun G a w hr => ?_) h63 hb hzz k
  obtain ⟨h1, h2, _⟩ := list_cells hs hy G a w hr
  exact ⟨h1, h2, src_list htx hs hy G a w hr⟩

theorem AOps.appS {bytes : Nat} {ti : TypeInfo} {z : Value} {l : List UInt8} {xs zs : List AV} {c : Call} (hg : Wants ops s o) (hd : o.dst = some d) (hn : d < n) (hrd : r ≠ d) (ho : o.op = .call c) (hc : c.callee = .builtin .append) (ha : c.args = #[.tmp r, y]) (hat : c.argTypes = #[t, tx])
    (ht : P.underlying t = some (.slice E)) (htx : P.underlying tx = some .string) (hi : P.info? E = some ti) (hz : ti.zero = some z) (hsz : ti.size = 1) (hby : ti.bytes = bytes) (hzs : z.cells.size = 1)
    (hx : s.get r = .list true E xs) (hy : s.eval y = .str l) {m1 m2 : Nat} (hm1 : xs.length = m1) (hm2 : l.length = m2) (h63 : m1 + m2 ≤ maxLen) (hb : (m1 + m2) * bytes ≤ 140737488355328) (hzz : xs ++ byteAVs l = zs)
    (k : AOps P n ops rest { s with fr := (d, .list true E zs) :: (r, .list false E xs) :: s.fr } Q) : AOps P n ops (o :: rest) s Q := by
  subst hm1; subst hm2
  exact AOps.app hg hd hn hrd ho hc ha hat ht hi hz hsz hby hzs hx (fun G a w hr => ⟨byteAVs_cells l, byteAVs_scalar l, src_str htx hy G a w hr⟩) (by rw [byteAVs_len]; exact h63) (by rw [byteAVs_len]; exact hb) hzz k

theorem byteAVs_cell {G : Gh} {w : World} {l : List UInt8} {us : Nat → Value} (hr : ∀ (j : Nat) (c : AV), ((byteAVs l).flatMap AV.cells)[j]? = some c → RelV P G w c (us j)) (j : Nat) (hj : j < l.length) : us j = .int .u8 (l.getD j 0).toNat := by
  rw [byteAVs_flat] at hr
  have := hr j _ (byteAVs_at hj)
  generalize us j = u at this
  cases this
  rfl

/-- A text out of bytes. -/
theorem Reader.ofBytes {o2 : Bool} {l : List UInt8} (ho : o.op = .convert t t' x) (h1 : P.underlying t = some (.slice E)) (h2 : P.underlying t' = some .string) (h3 : P.underlying E = some (.int .u8)) (hx : s.eval x = .list o2 E (byteAVs l)) : Reader P n s o d (.str l) := by
  intro G a w h
  obtain ⟨p, hp⟩ := h.ev x (fun v cs e1 e2 => by subst e1; subst e2; simp [St.eval, ofConst] at hx)
  rw [hx] at hp
  have hv := RelS.un (p' := p) hp
  generalize hav : a.eval x = v at hv
  refine ⟨_, RelV.str _, fun w' hb => ?_⟩
  have hv' : RelV P G w (.list false E (byteAVs l)) v := hv
  generalize hxs : byteAVs l = xs at hv'
  cases hv' with
  | nil =>
    have : l = [] := by
      have := congrArg List.length hxs
      rw [byteAVs_len] at this
      exact List.length_eq_zero_iff.1 this
    subst this
    have hr := run_convert_bytes_nil (P := P) (w := w') t E h1 h3 0 0 (dst := t') h2
    simp [execOp, ho, hav, hr, Result.andThen]
    rfl
  | zero _ b =>
    have : l = [] := by
      have := congrArg List.length hxs
      rw [byteAVs_len] at this
      exact List.length_eq_zero_iff.1 this
    subst this
    have hr := run_convert_bytes_back (P := P) w' t t' E b 0 [] h1 h3 h2 (fun j hj => by simp at hj)
    rw [List.length_nil] at hr
    simp [execOp, ho, hav, hr, Result.andThen]
  | row _ _ _ b off cap size us hs hl hsc hcap hmax htip hc hr =>
    subst hxs
    have hsz : (byteAVs l).length * size = l.length := by
      rw [byteAVs_len]
      rcases Nat.eq_zero_or_pos l.length with h0 | h0
      · rw [h0, Nat.zero_mul]
      · have := hl _ (List.mem_of_getElem? (byteAVs_at h0))
        simp [AV.cells] at this
        rw [← this, Nat.mul_one]
    have hcell : ∀ j, j < l.length → w'.cell? ⟨b, off + j, none⟩ = some (.int .u8 (l.getD j 0).toNat) := by
      intro j hj
      rw [← byteAVs_cell (P := P) (G := G) (w := w) hr j hj]
      exact cell_later hb (hc j (by omega))
    have hrun := run_convert_bytes_back (P := P) w' t t' E ⟨b, off, none⟩ cap l h1 h3 h2 (fun j hj => by
      rw [add_at]
      have := hcell j hj
      rw [List.getD_eq_getElem?_getD, List.getElem?_eq_getElem hj] at this
      exact this)
    rw [byteAVs_len] at hav
    simp [execOp, ho, hav, hrun, Result.andThen]

/-- Bytes out of a text: new memory. -/
theorem AOps.toBytes {l : List UInt8} {D : TypeDesc} (hg : Wants ops s o) (hd : o.dst = some d) (hn : d < n) (ho : o.op = .convert t t' x) (h1 : P.underlying t = some .string) (h2 : P.underlying t' = some (.slice E)) (h3 : P.underlying E = some (.int .u8)) (hx : s.eval x = .str l) (hs : SizeOf P E 1) (hb : l.length ≤ 140737488355328)
    (k : AOps P n ops rest (s.put d (.list false E (byteAVs l))) Q) : AOps P n ops (o :: rest) s Q := by
  refine AOps.step hg hd ?_ k
  intro G a w hr
  have hrun := Lib.run_convert_string_bytes (P := P) w t t' E ⟨l.toArray⟩ h1 h2 h3
  let G' : Gh := { G with tip := fun b => if b = w.heap.size then l.length else G.tip b }
  have hfar := hr.mem.far
  have hsz := Lib.bytesWorld_size w E ⟨l.toArray⟩
  have hold : ∀ b, b < w.heap.size → (Lib.bytesWorld w E ⟨l.toArray⟩).heap[b]? = w.heap[b]? := fun b hb => Lib.bytesWorld_at_old w E _ b hb
  have st : Stab G w G' (Lib.bytesWorld w E ⟨l.toArray⟩) := by
    refine ⟨fun b => ?_, fun b oo hoo => ?_, fun _ _ h => h⟩
    · show G.tip b ≤ if b = w.heap.size then l.length else G.tip b
      split
      · rename_i e; subst e; rw [(hfar _ (Nat.le_refl _)).1]; exact Nat.zero_le _
      · exact Nat.le_refl _
    · have hb : b < w.heap.size := by
        rcases Nat.lt_or_ge b w.heap.size with h | h
        · exact h
        · rw [(hfar b h).1] at hoo; omega
      exact World.cell?_of_block (w := w) (a := ⟨b, oo, none⟩) (hold b hb)
  have htip : ∀ b, b < w.heap.size → G'.tip b = G.tip b := by
    intro b hb
    show (if b = w.heap.size then l.length else G.tip b) = _
    rw [if_neg (by omega)]
  have hrun' : (execOp a.eval o).run P w = .ok (.value (.slice (some ⟨w.heap.size, 0, none⟩) l.length (grownCap w l.length 0 E))) (Lib.bytesWorld w E ⟨l.toArray⟩) := by
    simp only [execOp, ho, hr.evStr hx, Sem.run_bind, hrun, Result.andThen_ok]
    rfl
  refine ⟨_, _, G', hrun', ?_, ⟨rfl, rfl, rfl, by omega, fun b hb hn => ⟨hn, hold b hb, htip b hb⟩, st⟩⟩
  refine hr.turn hn st (by omega) (fun _ _ => rfl) (fun q b h1 h2 _ => ⟨h2, hold b h1, htip b h1⟩) (fun b hb => ?_) rfl ?_
  · obtain ⟨h4, h5⟩ := hfar b (by omega)
    refine ⟨?_, h5⟩
    show (if b = w.heap.size then l.length else G.tip b) = 0
    rw [if_neg (by omega)]; exact h4
  · have := RelV.row (P := P) (G := G') (w := Lib.bytesWorld w E ⟨l.toArray⟩) false E (byteAVs l) w.heap.size 0 (grownCap w l.length 0 E) 1 (fun j => .int .u8 (l.getD j 0).toNat) hs (byteAVs_cells l) (byteAVs_scalar l) ?_ ?_ (fun _ => ?_) (fun j hj => ?_) (fun j c hj => ?_)
    · rw [byteAVs_len] at this; exact this
    · rw [byteAVs_len]; exact grownCap_ge w l.length 0 E
    · exact grownCap_le_maxLen w l.length 0 E (by unfold maxLen; omega)
    · show _ ≤ if w.heap.size = w.heap.size then l.length else _
      rw [byteAVs_len]; simp
    · rw [byteAVs_len, Nat.mul_one] at hj
      rw [Nat.zero_add]
      exact Lib.bytesWorld_cell w E ⟨l.toArray⟩ j hj
    · rw [byteAVs_flat] at hj
      have hj' := (List.getElem?_eq_some_iff.1 hj).1
      rw [byteAVs_len] at hj'
      rw [byteAVs_at hj'] at hj
      cases hj
      exact .lit _
end
end Go.Proofs.Ytfnbfkgknfagmaa
