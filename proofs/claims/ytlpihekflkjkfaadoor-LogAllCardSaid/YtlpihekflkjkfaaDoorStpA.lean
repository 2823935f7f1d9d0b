/- Lists of structs, opened at once: leaves of a type; a row of them. Steps as a law's argument. -/
import Derived.Test.YtlpihekflkjkfaaDoorOpenS
import Derived.Test.YtlpihekflkjkfaaDoorAvMem
import Derived.Test.YtlpihekflkjkfaaDoorLg8
namespace Go.Proofs.YtlpihekflkjkfaaDoor
open Go.RowKit

/-- What one cell of a type holds. -/
inductive LK where
  | b | i (k : IntKind) | s | l (t : TypeId)
  deriving DecidableEq

def leavesF (P : Program) (g : TypeId → Option (List LK)) : List Field → Nat → Option (List LK)
  | [], _ => some []
  | f :: r, o => (g f.type).bind fun ks => if f.offset = o ∧ P.cellsOf f.type = ks.length then (leavesF P g r (o + ks.length)).map fun q => ks ++ q else none
def leaves (P : Program) : Nat → TypeId → Option (List LK)
  | 0, _ => none
  | n + 1, t =>
    match P.underlying t with
    | some .bool => some [.b]
    | some (.int k) => some [.i k]
    | some .string => some [.s]
    | some (.slice _) => some [.l t]
    | some (.struct fs) => (leavesF P (leaves P n) fs.toList 0).bind fun ks => if P.cellsOf t = ks.length then some ks else none
    | some (.array m e) => (leaves P n e).bind fun ks => if P.cellsOf e = ks.length ∧ P.cellsOf t = m * ks.length then some (List.replicate m ks).flatten else none
    | _ => none

section
variable {H : Type} {enc : TypeId × Value → H} {P : Program} {w : World}
def Trd (enc : TypeId × Value → H) (P : Program) (w : World) (t : TypeId) (cs : List Value) : Prop := ∃ m x, DataW.trod enc P w 0 (fun _ => true) true m t cs = some x
def LeafOK (enc : TypeId × Value → H) (P : Program) (w : World) : LK → Value → Prop
  | .b, v => ∃ q, v = .bool q
  | .i k, v => ∃ z, v = .int k z ∧ (Lit.int k z).wf = true
  | .s, v => ∃ l : List UInt8, v = .string ⟨l.toArray⟩ ∧ l.length ≤ maxLen
  | .l t, v => Trd enc P w t [v]
def LeavesOK (enc : TypeId × Value → H) (P : Program) (w : World) (ks : List LK) (cs : List Value) : Prop := cs.length = ks.length ∧ ∀ (j : Nat) k, ks[j]? = some k → ∃ v, cs[j]? = some v ∧ LeafOK enc P w k v
theorem LeavesOK.cons {k : LK} {ks : List LK} {cs : List Value} (h : LeavesOK enc P w (k :: ks) cs) : ∃ v r, cs = v :: r ∧ LeafOK enc P w k v ∧ LeavesOK enc P w ks r := by
  obtain ⟨h1, h2⟩ := h
  cases cs with
  | nil => cases h1
  | cons v r =>
    obtain ⟨u, e, hu⟩ := h2 0 k rfl
    cases e
    exact ⟨v, r, rfl, hu, by simpa using h1, fun j k' hk => h2 (j + 1) k' hk⟩
theorem LeavesOK.nil {cs : List Value} (h : LeavesOK enc P w [] cs) : cs = [] := List.length_eq_zero_iff.1 h.1

theorem leavesF_ok {g : TypeId → Option (List LK)} (hg : ∀ t ks cs, g t = some ks → Trd enc P w t cs → LeavesOK enc P w ks cs) {cs : List Value} :
    ∀ (fs : List Field) (o : Nat) (ks : List LK), leavesF P g fs o = some ks → (∀ f ∈ fs, Trd enc P w f.type ((cs.drop f.offset).take (P.cellsOf f.type))) →
      ∀ (j : Nat) k, ks[j]? = some k → ∃ v, cs[o + j]? = some v ∧ LeafOK enc P w k v
  | [], o, ks, h, _, j, k, hj => by
    simp [leavesF] at h
    subst h
    simp at hj
  | f :: r, o, ks, h, hf, j, k, hj => by
    simp only [leavesF, Option.bind_eq_some_iff] at h
    obtain ⟨k1, h1, h2⟩ := h
    split at h2
    · rename_i hc
      obtain ⟨k2, h3, rfl⟩ := Option.map_eq_some_iff.1 h2
      obtain ⟨ho, hcc⟩ := hc
      obtain ⟨a1, a2⟩ := hg f.type k1 _ h1 (hf f (List.mem_cons_self ..))
      by_cases hlt : j < k1.length
      · rw [List.getElem?_append_left hlt] at hj
        obtain ⟨v, hv, hl⟩ := a2 j k hj
        rw [hcc, List.getElem?_take_of_lt hlt, List.getElem?_drop, ho] at hv
        exact ⟨v, hv, hl⟩
      · rw [List.getElem?_append_right (by omega)] at hj
        obtain ⟨v, hv, hl⟩ := leavesF_ok hg r (o + k1.length) k2 h3 (fun f' h' => hf f' (List.mem_cons_of_mem _ h')) (j - k1.length) k hj
        rw [show o + k1.length + (j - k1.length) = o + j by omega] at hv
        exact ⟨v, hv, hl⟩
    · cases h2
theorem rep_get {α : Type} (ks : List α) : ∀ (m j : Nat) (k : α), ((List.replicate m ks).flatten)[j]? = some k → ∃ i r, i < m ∧ r < ks.length ∧ j = i * ks.length + r ∧ ks[r]? = some k
  | 0, j, k, h => by simp at h
  | m + 1, j, k, h => by
    rw [List.replicate_succ, List.flatten_cons] at h
    by_cases hlt : j < ks.length
    · rw [List.getElem?_append_left hlt] at h
      exact ⟨0, j, by omega, hlt, by omega, h⟩
    · rw [List.getElem?_append_right (by omega)] at h
      obtain ⟨i, r, h1, h2, h3, h4⟩ := rep_get ks m (j - ks.length) k h
      refine ⟨i + 1, r, by omega, h2, ?_, h4⟩
      rw [Nat.add_mul]; omega
theorem leaves_ok : ∀ (n : Nat) (t : TypeId) (ks : List LK) (cs : List Value), leaves P n t = some ks → Trd enc P w t cs → LeavesOK enc P w ks cs
  | 0, t, ks, cs, h, _ => by cases h
  | n + 1, t, ks, cs, h, ⟨m, x, hx⟩ => by
    unfold leaves at h
    split at h
    · rename_i hu
      cases h
      obtain ⟨q, rfl, _⟩ := DataW.trod_bool hu hx
      exact ⟨rfl, fun j k hj => by match j, hj with | 0, hj => cases hj; exact ⟨_, rfl, q, rfl⟩⟩
    · rename_i k hu
      cases h
      obtain ⟨z, rfl, _, hw⟩ := DataW.trod_int hu hx
      exact ⟨rfl, fun j k hj => by match j, hj with | 0, hj => cases hj; exact ⟨_, rfl, z, rfl, hw⟩⟩
    · rename_i hu
      cases h
      obtain ⟨q, rfl, _, hw⟩ := DataW.trod_string hu hx
      exact ⟨rfl, fun j k hj => by match j, hj with | 0, hj => cases hj; exact ⟨_, rfl, q.data.toList, by simp, by simpa using hw⟩⟩
    · rename_i e hu
      cases h
      have hl : ∃ v, cs = [v] := by
        rcases DataW.trod_slice hu hx with ⟨rfl, _⟩ | ⟨a, len, cap, _, _, _, _, rfl, _⟩ <;> exact ⟨_, rfl⟩
      obtain ⟨v, rfl⟩ := hl
      exact ⟨rfl, fun j k hj => by match j, hj with | 0, hj => cases hj; exact ⟨_, rfl, m, x, hx⟩⟩
    · rename_i fs hu
      obtain ⟨k1, h1, h2⟩ := Option.bind_eq_some_iff.1 h
      split at h2
      · rename_i hc
        cases h2
        obtain ⟨xs, m', _, _, hlen, hl, hf⟩ := DataW.trod_struct hu hx
        refine ⟨hlen.trans hc, fun j k hj => ?_⟩
        have := leavesF_ok (cs := cs) (fun t ks cs h1 h2 => leaves_ok n t ks cs h1 h2) fs.toList 0 ks h1 (fun f hm => by
          obtain ⟨i, hi, rfl⟩ := List.getElem_of_mem hm
          have h3 := hf i fs.toList[i] (by simp)
          have hi' : i < xs.length := by rw [hl]; simpa using hi
          rw [List.getElem?_eq_getElem hi'] at h3
          exact ⟨m', _, h3⟩) j k hj
        rwa [Nat.zero_add] at this
      · cases h2
    · rename_i q e hu
      obtain ⟨k1, h1, h2⟩ := Option.bind_eq_some_iff.1 h
      split at h2
      · rename_i hc
        cases h2
        obtain ⟨xs, m', _, _, hlen, hl, hf⟩ := DataW.trod_array hu hx
        refine ⟨by rw [hlen, hc.2]; simp, fun j k hj => ?_⟩
        obtain ⟨i, r, hi, hr, rfl, hk⟩ := rep_get k1 q j k hj
        have h3 := hf i hi
        rw [List.getElem?_eq_getElem (by rw [hl]; exact hi)] at h3
        obtain ⟨a1, a2⟩ := leaves_ok n e k1 _ h1 ⟨m', _, h3⟩
        obtain ⟨v, hv, hlf⟩ := a2 r k hk
        rw [hc.1, List.getElem?_take_of_lt hr, List.getElem?_drop] at hv
        exact ⟨v, hv, hlf⟩
      · cases h2
    · cases h

theorem flat_inv {xs : List AV} {n : Nat} (hn : 0 < n) (h : ∀ x ∈ xs, x.cells.length = n) {j : Nat} {c : AV} (hj : (xs.flatMap AV.cells)[j]? = some c) : ∃ x, xs[j / n]? = some x ∧ x.cells[j % n]? = some c := by
  induction xs generalizing j with
  | nil => simp at hj
  | cons a r ih =>
    rw [List.flatMap_cons] at hj
    have ha := h a (List.mem_cons_self ..)
    by_cases hlt : j < n
    · rw [List.getElem?_append_left (by omega)] at hj
      rw [Nat.div_eq_of_lt hlt, Nat.mod_eq_of_lt hlt]
      exact ⟨a, rfl, hj⟩
    · rw [List.getElem?_append_right (by omega), ha] at hj
      obtain ⟨x, h1, h2⟩ := ih (fun x hx => h x (List.mem_cons_of_mem _ hx)) hj
      have e1 : j / n = (j - n) / n + 1 := by
        conv => lhs; rw [show j = (j - n) + n by omega]
        exact Nat.add_div_right _ hn
      have e2 : j % n = (j - n) % n := by
        conv => lhs; rw [show j = (j - n) + n by omega]
        exact Nat.add_mod_right _ _
      rw [e1, e2]
      exact ⟨x, h1, h2⟩

/-- A row of values, opened at once. -/
theorem open_row {α : Type} (d : α) {A : α → AV} {φ : α → Prop} {n : Nat} {t e : TypeId} {v : Value} (ht : P.underlying t = some (.slice e)) (hce : P.cellsOf e = n) (hn : 0 < n) (hs : SizeOf P e n) (hA : ∀ y, (A y).cells.length = n ∧ ∀ c ∈ (A y).cells, c.scalar = true)
    (hel : ∀ cs, Trd enc P w e cs → ∃ y, φ y ∧ ∀ (j : Nat) c, (A y).cells[j]? = some c → ∃ u, cs[j]? = some u ∧ RelV P (Gh.start w) w c u)
    (h : Trd enc P w t [v]) : ∃ l : List α, (∀ y ∈ l, φ y) ∧ l.length ≤ maxLen ∧ RelV P (Gh.start w) w (.list false e (l.map A)) v := by
  obtain ⟨fuel, x, hf⟩ := h
  rcases Deep.open_slice ht hf with ⟨hcs, _⟩ | ⟨a, len, cap, m, n', D, Pl, hcs, _, hl, hm, hmm, _, hx⟩
  · cases hcs
    exact ⟨[], fun y hy => (by cases hy), Nat.zero_le _, .nil _ _⟩
  · cases hcs
    have hm' : m = cap := by rw [hmm]; rfl
    subst hm'
    rcases Nat.eq_zero_or_pos m with h0 | h0
    · have hl0 : len = 0 := by omega
      rw [h0, hl0]
      exact ⟨[], fun y hy => (by cases hy), Nat.zero_le _, .zero _ _⟩
    · rw [hce] at hx
      have hspot : a.spot = none := by
        obtain ⟨cs0, h1, _⟩ := hx 0 h0
        obtain ⟨_, q2, q3⟩ := World.cells?_some h1
        have q4 := q3 0 hn
        rw [Nat.zero_mul] at q4
        have q5 : (a.add 0).add 0 = a := rfl
        rw [q5, List.getElem?_eq_getElem (by omega)] at q4
        simp only [World.cell?] at q4
        split at q4
        · split at q4
          · cases q4
          · rename_i hq; cases hsp : a.spot with
            | none => rfl
            | some z => rw [hsp] at hq; simp at hq
        · cases q4
      obtain ⟨b, off, sp⟩ := a
      simp only at hspot
      subst hspot
      have key : ∀ i, ∃ y, i < len → φ y ∧ ∃ cs' : List Value, cs'.length = n ∧ (∀ r, r < n → w.cell? ⟨b, off + (i * n + r), none⟩ = cs'[r]?) ∧ ∀ (j : Nat) c, (A y).cells[j]? = some c → ∃ u, cs'[j]? = some u ∧ RelV P (Gh.start w) w c u := by
        intro i
        by_cases hi : i < len
        · obtain ⟨cs', h1, h2⟩ := hx i (by omega)
          obtain ⟨y, hy1, hy2⟩ := hel cs' ⟨_, _, h2⟩
          obtain ⟨_, q2, q3⟩ := World.cells?_some h1
          refine ⟨y, fun _ => ⟨hy1, cs', q2, fun r hr => ?_, hy2⟩⟩
          rw [← q3 r hr]
          congr 1
          rw [add_at, add_at, Nat.add_assoc]
        · exact ⟨d, fun h => (hi h).elim⟩
      let l : List α := (List.range len).map fun i => Classical.choose (key i)
      have hll : l.length = len := by simp [l]
      have hlg : ∀ i, i < len → l[i]? = some (Classical.choose (key i)) := by
        intro i hi
        simp [l, hi]
      have hAl : ∀ x ∈ l.map A, x.cells.length = n := by
        intro x hx'; obtain ⟨y, _, rfl⟩ := List.mem_map.1 hx'; exact (hA y).1
      refine ⟨l, ?_, by omega, ?_⟩
      · intro y hy
        obtain ⟨i, hi, rfl⟩ := List.mem_map.1 hy
        exact (Classical.choose_spec (key i) (List.mem_range.1 hi)).1
      · have hcell : ∀ i, i < len → ∀ r, r < n → ∃ u, w.cell? ⟨b, off + (i * n + r), none⟩ = some u := by
          intro i hi r hr
          obtain ⟨_, cs', q1, q2, _⟩ := Classical.choose_spec (key i) hi
          rw [q2 r hr, List.getElem?_eq_getElem (by omega)]
          exact ⟨_, rfl⟩
        have hall : ∀ j, j < len * n → ∃ u, w.cell? ⟨b, off + j, none⟩ = some u := by
          intro j hj
          have h1 : j / n < len := Nat.div_lt_of_lt_mul (by rw [Nat.mul_comm]; exact hj)
          have h2 : j % n < n := Nat.mod_lt _ hn
          have h3 := hcell (j / n) h1 (j % n) h2
          rwa [show j / n * n + j % n = j from by rw [Nat.mul_comm]; exact Nat.div_add_mod j n] at h3
        rw [show Value.slice (some ⟨b, off, none⟩) len m = .slice (some ⟨b, off, none⟩) (l.map A).length m by rw [List.length_map, hll]]
        refine RelV.row false e (l.map A) b off m n (fun j => (w.cell? ⟨b, off + j, none⟩).getD undef) hs hAl (fun x hx' => ?_) (by rw [List.length_map, hll]; exact hl) hm (fun hpos => ?_) (fun j hj => ?_) (fun j c hj => ?_)
        · obtain ⟨y, _, rfl⟩ := List.mem_map.1 hx'; exact (hA y).2
        · rw [List.length_map, hll] at hpos ⊢
          have hp : 0 < len * n := Nat.mul_pos hpos hn
          obtain ⟨u, hu⟩ := hall (len * n - 1) (by omega)
          simp only [World.cell?] at hu
          cases hb : w.heap[b]? with
          | none => simp [hb] at hu
          | some o =>
            cases o with
            | cells arr T fr =>
              rw [start_tip hb]
              simp only [hb, Option.isSome_none, Bool.false_eq_true, if_false] at hu
              have := (Array.getElem?_eq_some_iff.1 hu).1
              omega
            | _ => simp [hb] at hu
        · rw [List.length_map, hll] at hj
          obtain ⟨u, hu⟩ := hall j hj
          simp only [hu, Option.getD_some]
        · obtain ⟨x, h1, h2⟩ := flat_inv hn hAl hj
          rw [List.getElem?_map] at h1
          obtain ⟨y, hy, rfl⟩ := Option.map_eq_some_iff.1 h1
          have hi : j / n < len := by rw [← hll]; exact (List.getElem?_eq_some_iff.1 hy).1
          rw [hlg _ hi] at hy
          cases hy
          obtain ⟨_, cs', q1, q2, q3⟩ := Classical.choose_spec (key (j / n)) hi
          obtain ⟨u, hu1, hu2⟩ := q3 (j % n) c h2
          have q4 := q2 (j % n) (Nat.mod_lt _ hn)
          rw [show j / n * n + j % n = j from by rw [Nat.mul_comm]; exact Nat.div_add_mod j n, hu1] at q4
          simp only [q4, Option.getD_some]
          exact hu2
end

section
variable {H : Type} {enc : TypeId × Value → H} {P : Program} {w : World}
theorem leaf_one {k : LK} {v : Value} (h : LeafOK enc P w k v) (hu : ∀ t, k = .l t → ∃ e, P.underlying t = some (.slice e)) : v.oneCell' = true := by
  cases k with
  | b => obtain ⟨q, rfl⟩ := h; rfl
  | i k => obtain ⟨q, rfl, _⟩ := h; rfl
  | s => obtain ⟨q, rfl, _⟩ := h; rfl
  | l t =>
    obtain ⟨m, x, hx⟩ := h
    obtain ⟨e, he⟩ := hu t rfl
    rcases DataW.trod_slice he hx with ⟨hc, _⟩ | ⟨a, len, cap, _, _, _, _, hc, _⟩ <;> cases hc <;> rfl
/-- A list of which nothing more is told. -/
theorem open_any {ks : List LK} {n : Nat} {t e : TypeId} {v : Value} (hlv : leaves P n e = some ks) (hk : ∀ k ∈ ks, ∀ t, k ≠ .l t) (ht : P.underlying t = some (.slice e)) (hce : P.cellsOf e = ks.length) (hn : 0 < ks.length) (hs : SizeOf P e ks.length)
    (h : Trd enc P w t [v]) : ∃ xs : List AV, RelV P (Gh.start w) w (.list false e xs) v := by
  obtain ⟨l, _, _, hr⟩ := open_row (α := { us : List Value // us.length = ks.length ∧ ∀ u ∈ us, u.oneCell' = true }) ⟨List.replicate ks.length (.bool true), by simp, fun u hu => by rw [List.eq_of_mem_replicate hu]; rfl⟩
    (A := fun y => .agg (y.1.map AV.lit)) (φ := fun _ => True) ht hce hn hs
    (fun y => ⟨by show (y.1.map AV.lit).length = _; rw [List.length_map]; exact y.2.1, fun c hc => by
      obtain ⟨u, hu, rfl⟩ := List.mem_map.1 hc
      exact y.2.2 u hu⟩)
    (fun cs hcs => by
      obtain ⟨h1, h2⟩ := leaves_ok n e ks cs hlv hcs
      refine ⟨⟨cs, h1, fun u hu => ?_⟩, trivial, fun j c hc => ?_⟩
      · obtain ⟨j, hj, rfl⟩ := List.getElem_of_mem hu
        obtain ⟨v, hv, hl⟩ := h2 j (ks[j]'(by omega)) (List.getElem?_eq_getElem _)
        rw [List.getElem?_eq_getElem hj] at hv
        cases hv
        exact leaf_one hl fun t ht' => absurd ht' (hk _ (List.getElem_mem _) t)
      · have hc' : (cs.map AV.lit)[j]? = some c := hc
        rw [List.getElem?_map] at hc'
        obtain ⟨u, hu, rfl⟩ := Option.map_eq_some_iff.1 hc'
        exact ⟨u, hu, .lit _⟩) h
  exact ⟨_, hr⟩
end

def EvB (e : Ev) : Prop := e.id.length ≤ maxLen ∧ (-9223372036854775808 ≤ e.n ∧ e.n ≤ 9223372036854775807)
section
variable {H : Type} {enc : TypeId × Value → H} {w : World}
theorem open_evs {v : Value} (h : Trd enc Tryd.prog w 51 [v]) : ∃ l : List Ev, (∀ e ∈ l, EvB e) ∧ l.length ≤ maxLen ∧ RelV Tryd.prog (Gh.start w) w (.list false 34 (l.map encE)) v := by
  refine open_row e0 Tryd.underlying51 (n := 4) (by kernel_rfl) (by omega) sizeOf_34 (fun y => ⟨rfl, fun c hc => ?_⟩) (fun cs hcs => ?_) h
  · simp only [encE, AV.cells, List.mem_cons, List.mem_nil_iff, or_false] at hc
    rcases hc with rfl | rfl | rfl | rfl <;> rfl
  · have hl0 := leaves_ok 6 34 [.i .i64, .s, .i .i64, .i .i64] cs (by kernel_rfl) hcs
    obtain ⟨_, _, rfl, ⟨z0, rfl, _⟩, hl1⟩ := hl0.cons
    obtain ⟨_, _, rfl, ⟨z1, rfl, w1⟩, hl2⟩ := hl1.cons
    obtain ⟨_, _, rfl, ⟨z2, rfl, _⟩, hl3⟩ := hl2.cons
    obtain ⟨_, _, rfl, ⟨z3, rfl, w3⟩, hl4⟩ := hl3.cons
    obtain rfl := hl4.nil
    refine ⟨⟨z0, z1, z2, z3⟩, ⟨w1, i64_le w3⟩, fun j c hc => ?_⟩
    match j, hc with
    | 0, hc | 2, hc | 3, hc => cases hc; exact ⟨_, rfl, .lit _⟩
    | 1, hc => cases hc; exact ⟨_, rfl, .str _⟩
    | _ + 4, hc => cases hc
def StpB (x : Stp) : Prop := (∀ e ∈ x.evs, EvB e) ∧ x.evs.length ≤ maxLen
theorem open_steps {v : Value} (h : Trd enc Tryd.prog w 48 [v]) : ∃ l : List Stp, (∀ x ∈ l, StpB x) ∧ l.length ≤ maxLen ∧ RelV Tryd.prog (Gh.start w) w (.list false 57 (l.map encS)) v := by
  refine open_row s0 Tryd.underlying48 (n := 7) (by kernel_rfl) (by omega) sizeOf_57 (fun y => ⟨rfl, fun c hc => ?_⟩) (fun cs hcs => ?_) h
  · simp only [encS, AV.cells, List.mem_cons, List.mem_nil_iff, or_false] at hc
    rcases hc with rfl | rfl | rfl | rfl | rfl | rfl | rfl <;> rfl
  · have hl0 := leaves_ok 6 57 [.i .i64, .l 51, .i .i64, .l 52, .b, .b, .b] cs (by kernel_rfl) hcs
    obtain ⟨_, _, rfl, ⟨z0, rfl, _⟩, hl1⟩ := hl0.cons
    obtain ⟨_, _, rfl, w1, hl2⟩ := hl1.cons
    obtain ⟨_, _, rfl, ⟨z2, rfl, _⟩, hl3⟩ := hl2.cons
    obtain ⟨_, _, rfl, w3, hl4⟩ := hl3.cons
    obtain ⟨_, _, rfl, ⟨z4, rfl⟩, hl5⟩ := hl4.cons
    obtain ⟨_, _, rfl, ⟨z5, rfl⟩, hl6⟩ := hl5.cons
    obtain ⟨_, _, rfl, ⟨z6, rfl⟩, hl7⟩ := hl6.cons
    obtain rfl := hl7.nil
    obtain ⟨es, he1, he2, he3⟩ := open_evs w1
    obtain ⟨ps, hp⟩ := open_any (n := 6) (e := 199) (ks := [.s, .i .i64, .b, .i .i64, .i .i64, .i .i64, .i .i64, .i .i64, .i .i64, .s, .i .i64, .i .i64]) (by kernel_rfl) (by intro k hk t e; subst e; simp at hk) Tryd.underlying52 (by kernel_rfl) (by decide) sizeOf_199 w3
    refine ⟨⟨z0, es, z2, ps, z4, z5, z6⟩, ⟨he1, he2⟩, fun j c hc => ?_⟩
    match j, hc with
    | 0, hc | 2, hc | 4, hc | 5, hc | 6, hc => cases hc; exact ⟨_, rfl, .lit _⟩
    | 1, hc => cases hc; exact ⟨_, rfl, he3⟩
    | 3, hc => cases hc; exact ⟨_, rfl, hp⟩
    | _ + 7, hc => cases hc
set_option maxRecDepth 20000 in
theorem open_relSteps {H : Type} {enc : TypeId × Value → H} {r : Reach} {b0 : Nat} {v : Value} {d : DataW H} {ps : List MemPlace} (hv : Value.okWide Tryd.prog w r b0 48 v) (h : DataW.Trod enc Tryd.prog w 0 (fun _ => true) true 48 v d ps) :
    ∃ l : List Stp, (∀ x ∈ l, StpB x) ∧ l.length ≤ maxLen ∧ RelV Tryd.prog (Gh.start w) w (.list false 57 (l.map encS)) v := by
  obtain ⟨a0, len, cap, rfl⟩ := Go.WideShapes.okWide_slice Tryd.underlying48 hv
  obtain ⟨fuel, hf⟩ := h
  exact open_steps ⟨fuel, _, hf⟩
end
end Go.Proofs.YtlpihekflkjkfaaDoor
