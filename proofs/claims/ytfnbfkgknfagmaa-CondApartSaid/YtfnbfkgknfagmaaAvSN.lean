/- Abstract values: loops of a known number of rounds; 'own[i] = v' for a struct, where nothing else that is kept lies in memory but local blocks. -/
import Derived.Test.YtfnbfkgknfagmaaAvT
import Derived.Test.YtfnbfkgknfagmaaAvEq
import Derived.LoopN
namespace Go.Proofs.Ytfnbfkgknfagmaa
open Go.RowKit

section
variable {P : Program} {n : Nat} {s : St} {w0 : World} {c : Code} {QE : Exit → St → Prop}
def ARounds (P : Program) (n : Nat) (c : Code) (QE : Exit → St → Prop) : Nat → St → Prop
  | 0, _ => False
  | k + 1, s => AWp P n c s fun e s' => match e with | .normal => ARounds P n c QE k s' | e => QE e s'
theorem AWp.round {k : Nat} (h : AWp P n c s fun e s' => match e with | .normal => ARounds P n c QE k s' | e => QE e s') : ARounds P n c QE (k + 1) s := h
theorem AWp.unroll (k : Nat) (h : ARounds P n c QE k s) : AWp P n (.loop c) s QE := by
  intro G a w K hr hfx hK
  refine wp_loop_rounds k ?_
  induction k generalizing s G a w K with
  | zero => exact h.elim
  | succ k ih =>
    refine h G a w _ hr hfx ?_
    intro e s' G' a' w' hq hr' hk
    cases e with
    | normal => exact ih hq G' a' w' K hr' (hfx.keep hk) fun e s2 G2 a2 w2 hq2 hr2 hk2 => hK e s2 G2 a2 w2 hq2 hr2 (hk.trans hk2)
    | _ => exact hK _ s' G' a' w' hq hr' hk
theorem TWp.mid {x y : Code} (ls ks : List Nat) (I : St → Prop) (h : TWp P n w0 x s fun e s' => match e with | .normal => I (s'.keep ls ks) | e => QE e s') (k : ∀ s', I s' → TWp P n w0 y s' QE) : TWp P n w0 (.seq x y) s QE := by
  refine TWp.seq ?_
  intro G a w K hr hfx hkp hK
  refine h G a w K hr hfx hkp ?_
  intro e s' G' a' w' hq hr' hf' hk
  cases e with
  | normal => exact hK .normal (s'.keep ls ks) G' a' w' (k _ hq) (hr'.keep ls ks) hf' hk
  | _ => exact hK _ s' G' a' w' hq hr' hf' hk
def TRounds (P : Program) (n : Nat) (w0 : World) (c : Code) (QE : Exit → St → Prop) : Nat → St → Prop
  | 0, _ => False
  | k + 1, s => TWp P n w0 c s fun e s' => match e with | .normal => TRounds P n w0 c QE k s' | e => QE e s'
theorem TWp.round {k : Nat} (h : TWp P n w0 c s fun e s' => match e with | .normal => TRounds P n w0 c QE k s' | e => QE e s') : TRounds P n w0 c QE (k + 1) s := h
theorem TWp.unroll (k : Nat) (h : TRounds P n w0 c QE k s) : TWp P n w0 (.loop c) s QE := by
  intro G a w K hr hfx hkp hK
  refine wp_loop_rounds k ?_
  induction k generalizing s G a w K with
  | zero => exact h.elim
  | succ k ih =>
    refine h G a w _ hr hfx hkp ?_
    intro e s' G' a' w' hq hr' hf' hk
    cases e with
    | normal => exact ih hq G' a' w' K hr' hf' hk hK
    | _ => exact hK _ s' G' a' w' hq hr' hf' hk
end

/-- What lies in no memory. -/
def AV.mf : AV → Bool
  | .any | .lit _ | .str _ => true
  | _ => false
def AV.mfs : AV → Bool
  | .any | .lit _ | .str _ | .lptr _ _ => true
  | .agg cs => cs.all AV.mf
  | _ => false
section
variable {P : Program} {G : Gh} {w w' : World}
theorem RelV.mf {x : AV} {v : Value} (hx : x.mf = true) (h : RelV P G w x v) : RelV P G w' x v := by
  cases x with
  | any => exact .any v
  | lit u => cases h; exact .lit _
  | str l => cases h; exact .str _
  | _ => cases hx
theorem RelO.mf {q : Pos} {x : AV} {v : Value} (hx : x.mf = true) (h : RelO P G w q x v) : RelO P G w' q x v := by
  cases x with
  | any => exact RelV.any v
  | lit u => exact RelV.mf (w := w) (x := .lit u) rfl h
  | str l => exact RelV.mf (w := w) (x := .str l) rfl h
  | _ => cases hx
theorem RelS.mfs {p : Nat → Pos} {x : AV} {v : Value} (hx : x.mfs = true) (h : RelS P G w p x v) : RelS P G w' p x v := by
  cases x with
  | any => exact RelV.any v
  | lit u => exact RelV.mf (w := w) (x := .lit u) rfl h
  | str l => exact RelV.mf (w := w) (x := .str l) rfl h
  | lptr k o => exact h
  | agg cs =>
    have h' : RelV P G w (.agg cs) v := h
    cases h' with
    | agg _ vs hl hr => exact RelV.agg cs vs hl fun j c u e1 e2 => (hr j c u e1 e2).mf (List.all_eq_true.1 hx c (List.mem_of_getElem? e1))
  | _ => cases hx
end
theorem concL_len : ∀ {cs : List AV} {us : List Value}, concL cs = some us → cs.length = us.length
  | [], us, h => by cases h; rfl
  | c :: r, us, h => by
    unfold concL at h
    split at h
    · rename_i u0 us0 h1 h2
      cases h
      simp [concL_len h2]
    · cases h
theorem concL_get {P : Program} {G : Gh} {w : World} : ∀ {cs : List AV} {us : List Value} {j : Nat} {c : AV} {u : Value}, concL cs = some us → cs[j]? = some c → us[j]? = some u → RelV P G w c u
  | [], us, j, c, u, h, h1, _ => by simp at h1
  | a :: r, us, j, c, u, h, h1, h2 => by
    unfold concL at h
    split at h
    · rename_i u0 us0 q1 q2
      cases h
      cases j with
      | zero =>
        cases h1; cases h2
        unfold conc1 at q1
        split at q1
        · cases q1; exact .lit _
        · cases q1; exact .str _
        · cases q1
      | succ j => exact concL_get q2 (by simpa using h1) (by simpa using h2)
    · cases h
theorem loc_mf {l : List (Nat × List AV)} (h : l.all (fun p => p.2.all AV.mf) = true) : ∀ k cells, lookL l k = some cells → cells.all AV.mf = true := by
  intro k cells hk
  induction l with
  | nil => cases hk
  | cons a r ih =>
    obtain ⟨j, v⟩ := a
    simp only [List.all_cons, Bool.and_eq_true] at h
    simp only [lookL] at hk
    split at hk
    · cases hk; exact h.1
    · exact ih h.2 hk
theorem flat_set {xs : List AV} {m sz : Nat} {c : AV} (h : ∀ x ∈ xs, x.cells.length = sz) (hm : m < xs.length) (hc : c.cells.length = sz) :
    (xs.set m c).flatMap AV.cells = (xs.flatMap AV.cells).take (m * sz) ++ c.cells ++ (xs.flatMap AV.cells).drop (m * sz + sz) := by
  induction xs generalizing m with
  | nil => cases hm
  | cons a r ih =>
    have ha := h a (List.mem_cons_self ..)
    cases m with
    | zero =>
      rw [List.set_cons_zero, List.flatMap_cons, List.flatMap_cons, Nat.zero_mul, Nat.zero_add, List.take_zero, List.nil_append, List.drop_append_of_le_length (by omega), List.drop_eq_nil_of_le (by omega), List.nil_append]
    | succ m =>
      rw [List.set_cons_succ, List.flatMap_cons, List.flatMap_cons, ih (fun x hx => h x (List.mem_cons_of_mem _ hx)) (by simpa using hm)]
      have e1 : (m + 1) * sz = a.cells.length + m * sz := by rw [Nat.add_mul, ha]; omega
      rw [e1, List.take_length_add_append, Nat.add_assoc, List.drop_length_add_append]
      simp only [List.append_assoc]
theorem splice_get {α : Type} {l ins : List α} {o k : Nat} (hk : ins.length = k) (h : o + k ≤ l.length) (j : Nat) : (l.take o ++ ins ++ l.drop (o + k))[j]? = if j < o then l[j]? else if j < o + k then ins[j - o]? else l[j]? := by
  have ht : (l.take o).length = o := by rw [List.length_take]; omega
  split
  · rename_i h1
    rw [List.append_assoc, List.getElem?_append_left (by omega), List.getElem?_take_of_lt h1]
  · rename_i h1
    split
    · rename_i h2
      rw [List.append_assoc, List.getElem?_append_right (by omega), ht, List.getElem?_append_left (by omega)]
    · rename_i h2
      rw [List.getElem?_append_right (by rw [List.length_append]; omega), List.length_append, ht, List.getElem?_drop]
      congr 1; omega

section
variable {P : Program} {n : Nat} {s : St} {w0 : World} {Q : Exit → St → Prop}
set_option maxHeartbeats 1000000 in
/-- 'own[i] = v' in a row of the call's own, v a struct. -/
theorem TWp.setAgg {id r ri d1 d2 d3 d4 m sz : Nat} {t te E : TypeId} {xs ys : List AV} {vs : List Value} {cs : List AV} {o1 o2 ob o3 o4 : Oper} (ls : List Nat) (kk : IntKind)
    (h1 : o1.op = .move (.tmp r) ∧ o1.dst = some d1 ∧ o1.guard = none) (h2 : o2.op = .move (.tmp ri) ∧ o2.dst = some d2 ∧ o2.guard = none) (h3 : o3.op = .indexAddr t (.tmp d1) (.tmp d2) ∧ o3.dst = some d3 ∧ o3.guard = none) (h4 : o4.op = .store te (.tmp d3) (.tmp d4) ∧ o4.dst = none ∧ o4.guard = none) (hob : ob.dst = some d4 ∧ ob.guard = none)
    (hbv : Reader P n ((s.put d1 (.list false E xs)).put d2 (.lit (.int kk (m : Int)))) ob d4 (.agg cs)) (hcs : concL cs = some vs)
    (hd : d1 < n ∧ d2 < n ∧ d3 < n ∧ d1 ≠ d2 ∧ r ≠ d1 ∧ ri ≠ d1 ∧ ls.all (fun i => i != d1 && i != d2 && i != d3 && i != d4) = true ∧ r ≠ d2 ∧ r ≠ d3 ∧ d4 < n ∧ d1 ≠ d4 ∧ d2 ≠ d4 ∧ d3 ≠ d4)
    (hu : P.underlying t = some (.slice E)) (hE : SizeOf P E sz) (hte : SizeOf P te sz) (hx : s.get r = .list true E xs) (hi : s.get ri = .lit (.int kk (m : Int))) (hm : m < xs.length)
    (hvl : vs.length = sz) (hone : ∀ u ∈ vs, u.oneCell' = true) (hxm : ∀ c ∈ xs.flatMap AV.cells, c.mf = true)
    (hmf : ls.all (fun i => i == r || (s.get i).mfs) = true) (hloc : ∀ k cells, lookL s.loc k = some cells → cells.all AV.mf = true) (hmem : s.mem = noM) (hcsc : ∀ c ∈ cs, c.scalar = true) (hys : xs.set m (.agg cs) = ys)
    (hk : Q .normal ((⟨ls.map fun i => (i, if i = r then .list true E ys else s.get i), s.loc, noM⟩ : St))) : TWp P n w0 (.region id #[o1, o2, ob, o3, o4] false) s Q := by
  subst hys
  intro G a w K hr hfx hkp hK
  have hsl := hr.slot r
  rw [hx] at hsl
  have hsl' : RelO P G w (.slot r 0) (.list true E xs) (a.tmps.getD r undef) := hsl
  have hxs : xs ≠ [] := by intro h; rw [h] at hm; simp at hm
  rcases hsl' with ⟨size, us, hs, hl, hsc1, hown, hrr, hb⟩ | ⟨h, _⟩
  · obtain ⟨hul, hown2⟩ := hown
    have hsize : size = sz := by
      unfold SizeOf at hs hE
      rw [hs] at hE
      simpa using hE
    subst hsize
    rcases hown2 with ⟨_, h0⟩ | ⟨g, cap, cur, hvr, _, hh, hc, hmx, hz, ht⟩
    · exact absurd (List.length_eq_zero_iff.1 h0) hxs
    · obtain ⟨hb1, hb2, hb3⟩ := hb g (by rw [hvr]; rfl)
      have hsi := hr.slot ri
      rw [hi] at hsi
      have hvi : a.tmps.getD ri undef = .int kk (m : Int) := RelS.lit hsi
      obtain ⟨hd1, hd2, hd3, hd12, hrd1, hrid1, hall, hrd2, hrd3, hd4, hd14, hd24, hd34⟩ := hd
      have hmul : m * size + size ≤ xs.length * size := by
        have := Nat.mul_le_mul_right size (show m + 1 ≤ xs.length from hm)
        rwa [Nat.add_mul, Nat.one_mul] at this
      have hcl : xs.length * size ≤ cap * size := Nat.mul_le_mul_right _ hc
      have hfit : m * size + size ≤ cur.size := by omega
      obtain ⟨W', hW⟩ : ∃ W', W' = w.setRow g (cur.toList.take (m * size) ++ vs ++ cur.toList.drop (m * size + size)).toArray := ⟨_, rfl⟩
      have hvc : (Value.agg vs.toArray).cells = vs.toArray := rfl
      have hrun : (storeVar te ⟨g, m * size, none⟩ (.agg vs.toArray)).run P w = .ok () W' := by
        have := run_storeVar_at (P := P) (t := te) (off := m * size) (v := .agg vs.toArray) hh hte (by rw [hvc]; simpa using hvl) (by rw [hvc]; simpa using hone) hfit
        rw [hvc] at this
        rw [hW]; exact this
      have hheap : W'.heap[g]? = some (.cells (cur.toList.take (m * size) ++ vs ++ cur.toList.drop (m * size + size)).toArray E (0, 0)) := by rw [hW]; exact setRow_heap w g cur _ E _ hh
      have hoth : ∀ b, b ≠ g → W'.heap[b]? = w.heap[b]? := fun b h => by rw [hW]; exact setRow_other w g b _ h
      have hzz : W'.heap.size = w.heap.size := by rw [hW]; simp
      let a1 := a.put (some d1) (.slice (some ⟨g, 0, none⟩) xs.length cap)
      let a2 := a1.put (some d2) (.int kk (m : Int))
      let ab := a2.put (some d4) (.agg vs.toArray)
      let a3 := ab.put (some d3) (.pointer (some ⟨g, m * size, none⟩))
      have sz1 : a1.tmps.size = n := by simp [a1, Act.put, hr.size]
      have sz2 : a2.tmps.size = n := by simp [a2, a1, Act.put, hr.size]
      have szb : ab.tmps.size = n := by simp [ab, a2, a1, Act.put, hr.size]
      have sz3 : a3.tmps.size = n := by simp [a3, ab, a2, a1, Act.put, hr.size]
      have e1 : a.eval (.tmp r) = .slice (some ⟨g, 0, none⟩) xs.length cap := hvr
      have e2 : a1.eval (.tmp ri) = .int kk (m : Int) := by
        show a1.tmps.getD ri undef = _
        rw [getD_put _ _ _ _ (by rw [hr.size]; exact hd1), if_neg hrid1]; exact hvi
      have e3 : ab.eval (.tmp d1) = .slice (some ⟨g, 0, none⟩) xs.length cap := by
        show ab.tmps.getD d1 undef = _
        rw [getD_put _ _ _ _ (by rw [sz2]; exact hd4), if_neg hd14, getD_put _ _ _ _ (by rw [sz1]; exact hd2), if_neg hd12, getD_put _ _ _ _ (by rw [hr.size]; exact hd1), if_pos rfl]
      have e4 : ab.eval (.tmp d2) = .int kk (m : Int) := by
        show ab.tmps.getD d2 undef = _
        rw [getD_put _ _ _ _ (by rw [sz2]; exact hd4), if_neg hd24, getD_put _ _ _ _ (by rw [sz1]; exact hd2), if_pos rfl]
      have e5 : a3.eval (.tmp d3) = .pointer (some ⟨g, m * size, none⟩) := by
        show a3.tmps.getD d3 undef = _
        rw [getD_put _ _ _ _ (by rw [szb]; exact hd3), if_pos rfl]
      have e6 : a3.eval (.tmp d4) = .agg vs.toArray := by
        show a3.tmps.getD d4 undef = _
        rw [getD_put _ _ _ _ (by rw [szb]; exact hd3), if_neg (Ne.symm hd34), getD_put _ _ _ _ (by rw [sz2]; exact hd4), if_pos rfl]
      have hun : RelV P G w (.list false E xs) (.slice (some ⟨g, 0, none⟩) xs.length cap) := by
        have h0 := RelO.un (q := .slot r 0) (c := .list true E xs) (hr.slot r |> fun h => by rw [hx] at h; exact h) rfl
        rw [show a.tmps.getD r undef = _ from hvr] at h0
        exact h0
      have hr2 := (hr.put (v := .list false E xs) hd1 hun).put (v := .lit (.int kk (m : Int))) hd2 (lit_toS _)
      obtain ⟨ub, hub, hbrun⟩ := hbv G _ w hr2
      have hub' : ub = .agg vs.toArray := by
        have h1 : RelV P G w (.agg cs) ub := hub
        cases h1 with
        | agg _ us2 hl2 hr3 => rw [concL_rel hcs hl2 hr3]
      have r1 : (execOp a.eval o1).run P w = .ok (.value (.slice (some ⟨g, 0, none⟩) xs.length cap)) w := by simp [execOp, h1.1, e1]
      have r2 : (execOp a1.eval o2).run P w = .ok (.value (.int kk (m : Int))) w := by simp [execOp, h2.1, e2]
      have rb : (execOp a2.eval ob).run P w = .ok (.value (.agg vs.toArray)) w := by rw [← hub']; exact hbrun w (Below.refl _ _)
      have r3 : (execOp ab.eval o3).run P w = .ok (.value (.pointer (some ⟨g, m * size, none⟩))) w := by
        simp [execOp, h3.1, Instr.indexAt, asIntOf, e3, e4, run_underlying hu, run_size hE, hm, add_at]
      have r4 : (execOp a3.eval o4).run P w = .ok .skip W' := by
        simp [execOp, h4.1, Instr.storeAt, Instr.sureAddr, e5, e6, hrun]
      have wt : ∀ (o : Oper) (y : Nat → Option Bool), o.guard = none → Region.wanted o y = true := fun o y h => by unfold Region.wanted; rw [h]
      refine wp_region_list ?_
      show wpList P _ _ [o1, o2, ob, o3, o4] a w
      simp only [wpList]
      rw [if_pos (wt o1 _ h1.2.2)]
      left
      unfold Oper.wp
      rw [r1, Oper.upon_value, h1.2.1]
      rw [if_pos (wt o2 _ h2.2.2)]
      left
      show Oper.upon _ _ _ _ _ ((execOp a1.eval o2).run P w)
      rw [r2, Oper.upon_value, h2.2.1]
      rw [if_pos (wt ob _ hob.2)]
      left
      show Oper.upon _ _ _ _ _ ((execOp a2.eval ob).run P w)
      rw [rb, Oper.upon_value, hob.1]
      rw [if_pos (wt o3 _ h3.2.2)]
      left
      show Oper.upon _ _ _ _ _ ((execOp ab.eval o3).run P w)
      rw [r3, Oper.upon_value, h3.2.1]
      rw [if_pos (wt o4 _ h4.2.2)]
      left
      show Oper.upon _ _ _ _ _ ((execOp a3.eval o4).run P w)
      rw [r4, Oper.upon_skip, h4.2.1]
      have hne_g : ∀ b q, G.owner b = some q → q ≠ .slot r 0 → b ≠ g := fun b q h1 h2 e => by subst e; rw [hb2] at h1; exact h2 (Option.some.inj h1).symm
      have hnone_g : ∀ b, G.owner b = none → b ≠ g := fun b h e => by subst e; rw [hb2] at h; cases h
      have hcl4 : (AV.agg cs).cells.length = size := by show cs.length = size; rw [concL_len hcs]; exact hvl
      have hsetlen : (xs.set m (.agg cs)).length = xs.length := by simp
      show K .normal a3 W'
      refine hK .normal _ G a3 W' hk ⟨sz3, by simpa [a3, ab, a2, a1, Act.put] using hr.defers, fun i => ?_, (fun k1 cells hk1 => ?_), ⟨(fun _ _ h => by cases h), (fun b hb => hr.mem.far b (by omega)), hr.mem.fin⟩⟩ ?_ ?_
      · show RelS P G W' (.slot i) (look .any (ls.map fun i => (i, if i = r then .list true E (xs.set m (.agg cs)) else s.get i)) i) _
        rcases look_mapm (fun i => if i = r then .list true E (xs.set m (.agg cs)) else s.get i) ls i with ⟨hil, e⟩ | e
        · rw [e]
          have hia := List.all_eq_true.1 hall i hil
          simp only [Bool.and_eq_true, bne_iff_ne, ne_eq] at hia
          have htm : a3.tmps.getD i undef = a.tmps.getD i undef := by
            rw [getD_put _ _ _ _ (by rw [szb]; exact hd3), if_neg hia.1.2, getD_put _ _ _ _ (by rw [sz2]; exact hd4), if_neg hia.2, getD_put _ _ _ _ (by rw [sz1]; exact hd2), if_neg hia.1.1.2, getD_put _ _ _ _ (by rw [hr.size]; exact hd1), if_neg hia.1.1.1]
          rw [htm]
          by_cases eir : i = r
          · subst eir
            simp only [if_true]
            rw [show a.tmps.getD i undef = _ from hvr]
            have hcurlen : (cur.toList.take (m * size) ++ vs ++ cur.toList.drop (m * size + size)).length = cur.size := by
              simp only [List.length_append, List.length_take, List.length_drop, Array.length_toList]; omega
            have hnew : (us.take (m * size) ++ vs ++ us.drop (m * size + size)).length = us.length := by
              simp only [List.length_append, List.length_take, List.length_drop]; omega
            refine .inl ⟨size, us.take (m * size) ++ vs ++ us.drop (m * size + size), hs, fun x hx => ?_, fun x hx cc hcc => ?_, ⟨by rw [hsetlen, hnew]; exact hul, .inr ⟨g, cap, _, by rw [hsetlen], Nat.zero_le _, hheap, by rw [hsetlen]; exact hc, hmx, ?_, ?_⟩⟩, fun j cc u q1 q2 => ?_, fun b hbb => ?_⟩
            · rcases mem_set' hx with h | h
              · exact hl x h
              · subst h; exact hcl4
            · rcases mem_set' hx with h | h
              · exact hsc1 x h cc hcc
              · subst h
                exact hcsc cc hcc
            · rw [List.size_toArray, hcurlen]; exact hz
            · rw [hsetlen, List.toList_toArray]
              refine List.ext_getElem? fun j => ?_
              have hcj : ∀ j, j < xs.length * size → cur.toList[j]? = us[j]? := fun j hj => by
                rw [← ht, List.getElem?_take_of_lt hj]
              have key1 := splice_get (l := cur.toList) hvl (by simpa using hfit) j
              have key2 := splice_get (l := us) hvl (by rw [hul]; exact hmul) j
              rw [List.getElem?_take, key1, key2]
              split
              · rename_i hj
                split
                · exact hcj j hj
                · split
                  · rfl
                  · exact hcj j hj
              · rename_i hj
                rw [if_neg (by omega), if_neg (by omega), List.getElem?_eq_none (by omega)]
            · rw [flat_set hl hm hcl4] at q1
              have q1' : ((xs.flatMap AV.cells).take (m * size) ++ cs ++ (xs.flatMap AV.cells).drop (m * size + size))[j]? = some cc := q1
              rw [splice_get (by rw [concL_len hcs]; exact hvl) (by rw [flat_len hl]; exact hmul) j] at q1'
              rw [splice_get hvl (by rw [hul]; exact hmul) j] at q2
              by_cases hj1 : j < m * size
              · rw [if_pos hj1] at q1' q2
                exact (hrr j cc u q1' q2).mf (hxm cc (List.mem_of_getElem? q1'))
              · rw [if_neg hj1] at q1' q2
                by_cases hj2 : j < m * size + size
                · rw [if_pos hj2] at q1' q2
                  exact concL_get hcs q1' q2
                · rw [if_neg hj2] at q1' q2
                  exact (hrr j cc u q1' q2).mf (hxm cc (List.mem_of_getElem? q1'))
            · simp only [Value.ownBlock, Option.some.injEq] at hbb
              subst hbb
              exact ⟨by omega, hb2, by rw [hsetlen]; exact hb3⟩
          · simp only [eir, if_false]
            have hmi := List.all_eq_true.1 hmf i hil
            simp only [Bool.or_eq_true, beq_iff_eq, eir, false_or] at hmi
            exact (hr.slot i).mfs hmi
        · rw [e]; exact RelS.weak _
      · obtain ⟨arr, T, q1, q2, q3, q4, q5, q6⟩ := hr.loc k1 cells hk1
        have hall1 := hloc k1 cells hk1
        exact ⟨arr, T, (hoth _ (hne_g _ _ q3 (by simp))).trans q1, q2, q3, q4, q5, fun j c u e1 e2 => (q6 j c u e1 e2).mf (List.all_eq_true.1 hall1 c (List.mem_of_getElem? e1))⟩
      · obtain ⟨F, f1, f2⟩ := hfx
        refine ⟨F, fun b ob e => ?_, f2⟩
        obtain ⟨g1, g2, g3⟩ := f1 b ob e
        exact ⟨by omega, (hoth b (hnone_g b g3)).trans g2, g3⟩
      · have hfree : ∀ b, b < w0.heap.size → G.owner b = none ∧ W'.heap[b]? = w0.heap[b]? ∧ G.tip b = (Gh.start w0).tip b := fun b hb => by
          obtain ⟨k1, k2, k3⟩ := hkp.free b hb rfl
          exact ⟨k1, (hoth b (hnone_g b k1)).trans k2, k3⟩
        refine ⟨by rw [hW]; exact hkp.os, by rw [hW]; exact hkp.tape, by rw [hW]; exact hkp.output, by have := hkp.size; omega, fun b hb _ => hfree b hb, ⟨hkp.stab.tip, fun b oo hoo => ?_, hkp.stab.mb⟩⟩
        have hb : b < w0.heap.size := by
          rcases Nat.lt_or_ge b w0.heap.size with h | h
          · exact h
          · rw [start_far h] at hoo; omega
        exact World.cell?_of_block (w := w0) (a := ⟨b, oo, none⟩) (hfree b hb).2.1
  · exact absurd h hxs
end
section
variable {P : Program} {n : Nat} {s : St} {o : Oper} {d : Nat} {t E : TypeId} {x y : Operand}
/-- An element of an array by value: a struct. -/
theorem Reader.indexV {cs : List AV} {m len size : Nat} {k : IntKind} {i : Int} {v : AV} {D : TypeDesc} (ho : o.op = .index t x y) (hu : P.underlying t = some (.array len E)) (hue : P.underlying E = some D) (hs : SizeOf P E size) (hx : s.eval x = .agg cs) (hxc : ∃ r, x = .tmp r) (hy : s.eval y = .lit (.int k i)) (hi : i = m) (hm : m < len)
    (hv : partOf (TypeDesc.agg D) size cs (m * size) = some v) (hf : v.flat = true) : Reader P n s o d v := by
  intro G a w h
  obtain ⟨r, rfl⟩ := hxc
  have hp := h.slot r
  rw [show s.get r = .agg cs from hx] at hp
  generalize hav : a.tmps.getD r undef = va at hp
  have hp' : RelV P G w (.agg cs) va := hp
  cases hp' with
  | agg _ vs hl hr =>
    obtain ⟨u, hu1, hu2⟩ := run_part (P := P) hue hs hl hr hv
    refine ⟨u, hu1.toS hf, fun w' _ => ?_⟩
    have ev : a.eval (.tmp r) = .agg vs.toArray := hav
    subst hi
    simp [execOp, ho, Instr.index, asIntOf, ev, h.evLit hy, run_underlying hu, run_size hs, hm, hu2 w', Result.andThen]
/-- An array, built. -/
theorem Reader.buildA {ps : Array (Nat × Operand)} {xs : List (Nat × AV)} {zs : Array Value} {Es : List TypeId} {cs : List AV} {m size : Nat} (ho : o.op = .build t ps) (hu : P.underlying t = some (.array m E)) (hs : SizeOf P E size) (hp : Parts s ps xs)
    (hz : (P.info? t).map (·.zero) = some (some (.agg zs))) (hz1 : zs.toList.all (fun c => c.oneCell') = true)
    (hf : fillA (fun i => some (i * size, size)) (zcells zs.toList Es) xs = some cs) : Reader P n s o d (.agg cs) := by
  intro G a w hr
  obtain ⟨h1, h2⟩ := hp.rel hr
  obtain ⟨arr, hfill, hrel⟩ := fill_rel (P := P) (G := G) (w := w) (fun i => some (i * size, size)) xs _ (zcells zs.toList Es) zs cs h1 h2 (zcells_rel _ _ (List.all_eq_true.1 hz1)) hf
  refine ⟨.agg arr, ?_, fun w' _ => ?_⟩
  · have := RelV.agg cs arr.toList hrel.1 hrel.2
    simp only [Array.toArray_toList] at this
    exact this
  · cases hi : P.info? t with
    | none => simp [hi] at hz
    | some i =>
      simp only [hi, Option.map_some, Option.some.injEq] at hz
      have hfill' : Instr.fill (fun i : Nat => some (i * size, size)) zs (Array.map (fun x => (x.1, a.eval x.2)) ps).toList = some arr := hfill
      rw [Array.toList_map] at hfill'
      simp [execOp, ho, Instr.build, zeroValue, typeInfo, hi, hz, run_underlying hu, run_size hs, Value.cells, hfill', Result.andThen]
end
end Go.Proofs.Ytfnbfkgknfagmaa
