/- Abstract values: append, at the operation. -/
import Derived.Test.YtfnbfkgknfagmaaAvApp
namespace Go.Proofs.Ytfnbfkgknfagmaa
open Go.RowKit

section
variable {P : Program} {n : Nat} {s : St} {ops : Array Oper} {o : Oper} {rest : List Oper} {Q : St → Prop} {d r : Nat} {t tx E : TypeId} {x y : Operand}

theorem flat_app (xs ys : List AV) : (xs ++ ys).flatMap AV.cells = xs.flatMap AV.cells ++ ys.flatMap AV.cells := List.flatMap_append

theorem rel_app {G : Gh} {w : World} {cx cy : List AV} {ux uy : List Value} (hx : ux.length = cx.length) (h1 : ∀ (j : Nat) c u, cx[j]? = some c → ux[j]? = some u → RelV P G w c u) (h2 : ∀ (j : Nat) c u, cy[j]? = some c → uy[j]? = some u → RelV P G w c u) :
    ∀ (j : Nat) c u, (cx ++ cy)[j]? = some c → (ux ++ uy)[j]? = some u → RelV P G w c u := by
  intro j c u hc hu
  rcases Nat.lt_or_ge j cx.length with h | h
  · rw [List.getElem?_append_left h] at hc
    rw [List.getElem?_append_left (by omega)] at hu
    exact h1 j c u hc hu
  · rw [List.getElem?_append_right h] at hc
    rw [List.getElem?_append_right (by omega), hx] at hu
    exact h2 _ c u hc hu

/-- A row that was laid anew: the ghost, the memory. -/
theorem grown_new {G : Gh} {w w' : World} {v' : Value} (q : Pos) (tip : Nat) (hsz : w'.heap.size = w.heap.size + 1) (hsame : ∀ k, k < w.heap.size → w'.heap[k]? = w.heap[k]?) (hfar : ∀ b, w.heap.size ≤ b → G.tip b = 0 ∧ G.owner b = none)
    (hos : w'.os = w.os) (htape : w'.tape = w.tape) (hout : w'.output = w.output) :
    Keep G w (G.new w.heap.size q tip) w' ∧ (∀ q' b, b < w.heap.size → G.owner b = some q' → (G.new w.heap.size q tip).owner b = some q' ∧ w'.heap[b]? = w.heap[b]? ∧ (G.new w.heap.size q tip).tip b = G.tip b) ∧
      ∀ b, w'.heap.size ≤ b → (G.new w.heap.size q tip).tip b = 0 ∧ (G.new w.heap.size q tip).owner b = none := by
  have st : Stab G w (G.new w.heap.size q tip) w' := by
    refine ⟨fun b => ?_, fun b oo ho => ?_, fun _ _ h => h⟩
    · show G.tip b ≤ if b = w.heap.size then tip else G.tip b
      split
      · rename_i e; subst e; rw [(hfar _ (Nat.le_refl _)).1]; exact Nat.zero_le _
      · exact Nat.le_refl _
    · have hb : b < w.heap.size := by
        rcases Nat.lt_or_ge b w.heap.size with h | h
        · exact h
        · rw [(hfar b h).1] at ho; omega
      exact World.cell?_of_block (w := w) (a := ⟨b, oo, none⟩) (hsame b hb)
  refine ⟨⟨hos, htape, hout, by omega, fun b hb ho => ?_, st⟩, fun q' b hb ho => ?_, fun b hb => ?_⟩
  · have hne : b ≠ w.heap.size := by omega
    simp only [Gh.new, if_neg hne]
    exact ⟨ho, hsame b hb, trivial⟩
  · have hne : b ≠ w.heap.size := by omega
    simp only [Gh.new, if_neg hne]
    exact ⟨ho, hsame b hb, trivial⟩
  · have hne : b ≠ w.heap.size := by omega
    obtain ⟨h1, h2⟩ := hfar b (by omega)
    simp only [Gh.new, if_neg hne]
    exact ⟨h1, h2⟩

theorem AOps.app {size bytes : Nat} {i : TypeInfo} {z : Value} {xs ys zs : List AV} {c : Call} (hg : Wants ops s o) (hd : o.dst = some d) (hn : d < n) (hrd : r ≠ d) (ho : o.op = .call c) (hc : c.callee = .builtin .append) (ha : c.args = #[.tmp r, y]) (hat : c.argTypes = #[t, tx])
    (ht : P.underlying t = some (.slice E)) (hi : P.info? E = some i) (hz : i.zero = some z) (hsz : i.size = size) (hby : i.bytes = bytes) (hzs : z.cells.size = size)
    (hx : s.get r = .list true E xs)
    (hsrc : ∀ (G : Gh) (a : Act) (w : World), RelSt P G n s a w → (∀ x ∈ ys, x.cells.length = size) ∧ (∀ x ∈ ys, ∀ c ∈ x.cells, c.scalar = true) ∧ ∃ news, Src P size tx (a.eval y) ys.length news w ∧ ∀ (j : Nat) c u, (ys.flatMap AV.cells)[j]? = some c → news[j]? = some u → RelV P G w c u)
    (h63 : xs.length + ys.length ≤ maxLen) (hb : (xs.length + ys.length) * bytes ≤ 140737488355328) (hzz : xs ++ ys = zs)
    (k : AOps P n ops rest { s with fr := (d, .list true E zs) :: (r, .list false E xs) :: s.fr } Q) : AOps P n ops (o :: rest) s Q := by
  refine AOps.step hg hd ?_ k
  subst hzz
  intro G a w hr
  obtain ⟨hly, hscy, news, hsr, hnr⟩ := hsrc G a w hr
  have hs : SizeOf P E size := by unfold SizeOf; rw [hi]; simp [hsz]
  have hsr0 := hr.slot r
  rw [hx] at hsr0
  have hfar := hr.mem.far
  have hru := hr.unslot r
  rw [hx] at hru
  have hur : ((s.put r (.list false E xs)).get r).un = (s.put r (.list false E xs)).get r := by rw [get_put]; rfl
  generalize hav : a.tmps.getD r undef = v at hsr0
  have hae : a.eval (.tmp r) = v := hav
  have hrun' : ∀ v' w', (Builtin.append_ #[t, tx] o.type #[v, a.eval y]).run P w = .ok v' w' → (execOp a.eval o).run P w = .ok (.value v') w' := by
    intro v' w' h
    simp [execOp, ho, resolve, hc, ha, hat, invoke, builtin, hae, h]
  have hlz : (xs ++ ys).length = xs.length + ys.length := List.length_append
  rcases hsr0 with ⟨size', us, hs', hl, hsc, hown, hrr, hbb⟩ | ⟨rfl, rfl | ⟨b, off, size', hs', rfl⟩⟩
  · have : size' = size := by unfold SizeOf at hs hs'; rw [hs] at hs'; exact (Option.some.inj hs').symm
    subst this
    have hul := hown.1
    have hlall : ∀ x ∈ xs ++ ys, x.cells.length = size' := fun x hx => (List.mem_append.1 hx).elim (hl x) (hly x)
    have hscall : ∀ x ∈ xs ++ ys, ∀ c ∈ x.cells, c.scalar = true := fun x hx => (List.mem_append.1 hx).elim (hsc x) (hscy x)
    have hrel : ∀ (j : Nat) c u, ((xs ++ ys).flatMap AV.cells)[j]? = some c → (us ++ news)[j]? = some u → RelV P G w c u := by
      rw [flat_app]; exact rel_app (by rw [hul, flat_len hl]) hrr hnr
    obtain ⟨v', w', hrun, hown', hos, htape, hout, hcases⟩ := run_app (P := P) (ty := o.type) ht hi hz hsz hby hzs hown hsr h63 hb
    rcases hcases with ⟨rfl, rfl, hm⟩ | ⟨hsz', g, hg1, hg2, hglt, hsame⟩ | ⟨hsz', hnew, hsame⟩
    · -- nothing is appended
      have hys : ys = [] := List.length_eq_zero_iff.1 hm
      subst hys
      simp only [List.append_nil]
      let G' : Gh := { G with owner := fun b => if v'.ownBlock = some b then some (.slot d 0) else G.owner b }
      have st : Stab G w' G' w' := ⟨fun _ => Nat.le_refl _, fun _ _ _ => rfl, fun _ _ h => h⟩
      have how : ∀ q b, G.owner b = some q → (∀ c, q ≠ .slot r c) → G'.owner b = some q := by
        intro q b h1 h2
        show (if v'.ownBlock = some b then some (Pos.slot d 0) else G.owner b) = some q
        rw [if_neg (fun e => h2 0 (by have := (hbb b e).2.1; rw [h1] at this; exact Option.some.inj this))]
        exact h1
      refine ⟨_, _, G', hrun' _ _ hrun, ?_, ⟨rfl, rfl, rfl, Nat.le_refl _, fun b hb ho => ⟨?_, rfl, rfl⟩, st⟩⟩
      · refine hru.turnX (fun i => i = r) (fun i h => .inr (by rw [h]; exact hur)) hn st (Nat.le_refl _) (fun _ _ => rfl) (fun q b h1 h2 h3 => ⟨how q b h2 (fun c => h3 r c rfl), rfl, rfl⟩) (fun b hb => ⟨(hfar b hb).1, ?_⟩) rfl ?_
        · show (if v'.ownBlock = some b then some (Pos.slot d 0) else G.owner b) = none
          rw [if_neg (fun e => by have := (hbb b e).1; omega)]
          exact (hfar b hb).2
        · refine .inl ⟨size', us, hs, hl, hsc, hown, fun j c u h1 h2 => (hrr j c u h1 h2).stab st, fun b hb => ?_⟩
          obtain ⟨h1, h2, h3⟩ := hbb b hb
          refine ⟨h1, ?_, h3⟩
          show (if v'.ownBlock = some b then some (Pos.slot d 0) else G.owner b) = _
          rw [if_pos hb]
      · show (if v'.ownBlock = some b then some (Pos.slot d 0) else G.owner b) = none
        rw [if_neg (fun e => by have := (hbb b e).2.1; rw [ho] at this; cases this)]
        exact ho
    · -- in place
      obtain ⟨hgl, hgo, hgt⟩ := hbb g hg1
      let G' : Gh := { G with owner := fun b => if b = g then some (.slot d 0) else G.owner b, tip := fun b => if b = g then (xs ++ ys).length * size' else G.tip b }
      have st : Stab G w G' w' := by
        refine ⟨fun b => ?_, fun b oo hoo => ?_, fun _ _ h => h⟩
        · show G.tip b ≤ if b = g then (xs ++ ys).length * size' else G.tip b
          split
          · rename_i e; subst e; rw [hgt]; exact Nat.mul_le_mul_right _ (by omega)
          · exact Nat.le_refl _
        · by_cases e : b = g
          · subst e
            rw [hgt] at hoo
            have c1 : ∀ j u, us[j]? = some u → w.cell? ((⟨b, 0, none⟩ : Addr).add j) = some u := by
              rcases hown.2 with ⟨rfl, _⟩ | ⟨g', cap, cur, rfl, _⟩
              · cases hg1
              · simp only [Value.ownBlock, Option.some.injEq] at hg1; subst hg1; exact hown.cells rfl
            have c2 : ∀ j u, (us ++ news)[j]? = some u → w'.cell? ((⟨b, 0, none⟩ : Addr).add j) = some u := by
              rcases hown'.2 with ⟨rfl, _⟩ | ⟨g', cap, cur, rfl, _⟩
              · cases hg2
              · simp only [Value.ownBlock, Option.some.injEq] at hg2; subst hg2; exact hown'.cells rfl
            have hlt : oo < us.length := by omega
            have e1 := c1 oo us[oo] (List.getElem?_eq_getElem hlt)
            have e2 := c2 oo us[oo] (by rw [List.getElem?_append_left hlt]; exact List.getElem?_eq_getElem hlt)
            rw [add_at, Nat.zero_add] at e1 e2
            rw [e1, e2]
          · exact World.cell?_of_block (w := w) (a := ⟨b, oo, none⟩) (hsame b e)
      refine ⟨_, _, G', hrun' _ _ hrun, ?_, ⟨hos, htape, hout, by omega, fun b hb ho => ?_, st⟩⟩
      · refine hru.turnX (fun i => i = r) (fun i h => .inr (by rw [h]; exact hur)) hn st (by omega) (fun _ _ => rfl) (fun q b h1 h2 h3 => ?_) (fun b hb => ?_) rfl ?_
        · have e : b ≠ g := fun e => by subst e; rw [hgo] at h2; exact h3 r 0 rfl (Option.some.inj h2).symm
          show (if b = g then _ else G.owner b) = some q ∧ _ ∧ (if b = g then _ else G.tip b) = G.tip b
          rw [if_neg e, if_neg e]
          exact ⟨h2, hsame b e, rfl⟩
        · have e : b ≠ g := by omega
          show (if b = g then _ else G.tip b) = 0 ∧ (if b = g then _ else G.owner b) = none
          rw [if_neg e, if_neg e]
          exact hfar b (by omega)
        · refine .inl ⟨size', us ++ news, hs, hlall, hscall, by rw [hlz]; exact hown', fun j c u h1 h2 => (hrel j c u h1 h2).stab st, fun b hb => ?_⟩
          rw [hg2] at hb
          cases hb
          refine ⟨by omega, ?_, ?_⟩
          · show (if g = g then _ else _) = _; simp
          · show (if g = g then _ else _) = _; simp
      · have e : b ≠ g := fun e => by subst e; rw [hgo] at ho; cases ho
        show (if b = g then _ else G.owner b) = none ∧ _ ∧ (if b = g then _ else G.tip b) = G.tip b
        rw [if_neg e, if_neg e]
        exact ⟨ho, hsame b e, rfl⟩
    · -- a new row
      obtain ⟨kp, how, hfar'⟩ := grown_new (G := G) (v' := v') (.slot d 0) ((xs ++ ys).length * size') hsz' hsame hfar hos htape hout
      refine ⟨_, _, _, hrun' _ _ hrun, ?_, kp⟩
      refine hru.turnX (fun i => i = r) (fun i h => .inr (by rw [h]; exact hur)) hn kp.stab (by omega) (fun _ _ => rfl) (fun q b h1 h2 h3 => how q b h1 h2) hfar' rfl ?_
      refine .inl ⟨size', us ++ news, hs, hlall, hscall, by rw [hlz]; exact hown', fun j c u h1 h2 => (hrel j c u h1 h2).stab kp.stab, fun b hb => ?_⟩
      rw [hnew] at hb
      cases hb
      refine ⟨by omega, ?_, ?_⟩
      · show (if w.heap.size = w.heap.size then _ else _) = _; simp
      · show (if w.heap.size = w.heap.size then _ else _) = _; simp
  · -- nil
    have hown : w.ownsRow 0 E size (.slice none 0 0) 0 [] := World.ownsRow_nil w 0 E size
    obtain ⟨v', w', hrun, hown', hos, htape, hout, hcases⟩ := run_app (P := P) (ty := o.type) ht hi hz hsz hby hzs hown hsr (by simpa using h63) (by simpa using hb)
    rcases hcases with ⟨rfl, rfl, hm⟩ | ⟨hsz', g, hg1, _⟩ | ⟨hsz', hnew, hsame⟩
    · have hys : ys = [] := List.length_eq_zero_iff.1 hm
      subst hys
      refine ⟨_, _, G, hrun' _ _ hrun, ?_, Keep.refl _ _⟩
      refine hru.put hn (.inr ⟨rfl, .inl rfl⟩)
    · cases hg1
    · obtain ⟨kp, how, hfar'⟩ := grown_new (G := G) (v' := v') (.slot d 0) (ys.length * size) hsz' hsame hfar hos htape hout
      refine ⟨_, _, _, hrun' _ _ hrun, ?_, kp⟩
      refine hru.turnX (fun i => i = r) (fun i h => .inr (by rw [h]; exact hur)) hn kp.stab (by omega) (fun _ _ => rfl) (fun q b h1 h2 h3 => how q b h1 h2) hfar' rfl ?_
      rw [List.nil_append]
      refine .inl ⟨size, news, hs, hly, hscy, by simpa using hown', fun j c u h1 h2 => (hnr j c u h1 h2).stab kp.stab, fun b hb => ?_⟩
      rw [hnew] at hb
      cases hb
      refine ⟨by omega, ?_, ?_⟩
      · show (if w.heap.size = w.heap.size then _ else _) = _; simp
      · show (if w.heap.size = w.heap.size then _ else _) = _; simp
  · -- a piece without room
    rcases run_app0 (P := P) (ty := o.type) ht hi hz hsz hby hzs b off hsr (by simpa using h63) (by simpa using hb) with ⟨hrun, hm⟩ | ⟨v', w', hrun, hown', hos, htape, hout, hsz', hnew, hsame⟩
    · have hys : ys = [] := List.length_eq_zero_iff.1 hm
      subst hys
      refine ⟨_, _, G, hrun' _ _ hrun, ?_, Keep.refl _ _⟩
      refine hru.put hn (.inr ⟨rfl, .inr ⟨b, off, _, hs', rfl⟩⟩)
    · obtain ⟨kp, how, hfar'⟩ := grown_new (G := G) (v' := v') (.slot d 0) (ys.length * size) hsz' hsame hfar hos htape hout
      refine ⟨_, _, _, hrun' _ _ hrun, ?_, kp⟩
      refine hru.turnX (fun i => i = r) (fun i h => .inr (by rw [h]; exact hur)) hn kp.stab (by omega) (fun _ _ => rfl) (fun q b h1 h2 h3 => how q b h1 h2) hfar' rfl ?_
      rw [List.nil_append]
      refine .inl ⟨size, news, hs, hly, hscy, hown', fun j c u h1 h2 => (hnr j c u h1 h2).stab kp.stab, fun b hb => ?_⟩
      rw [hnew] at hb
      cases hb
      refine ⟨by omega, ?_, ?_⟩
      · show (if w.heap.size = w.heap.size then _ else _) = _; simp
      · show (if w.heap.size = w.heap.size then _ else _) = _; simp
end
end Go.Proofs.Ytfnbfkgknfagmaa
