/- Abstract values: regions that draw their order: what no world hangs on is taken first; the rest in every order, each set of what has been done once. -/
import Derived.Test.YtfnbfkgknfagmaaAvPure
namespace Go.Proofs.Ytfnbfkgknfagmaa
open Go.RowKit

def SAny (P : Program) (n : Nat) (ops : Array Oper) (Q : St → Prop) (k : Nat) (listed : Array Bool) (s : St) : Prop :=
  ∀ (G : Gh) (a : Act) (w : World) (K : Act → World → Prop), RelSt P G n s a w → Fix G w → (∀ s' G' a' w', Q s' → RelSt P G' n s' a' w' → Keep G w G' w' → K a' w') →
    wpAny P .any ops (fun e a w => e = .normal ∧ K a w) k listed a w

section
variable {P : Program} {n : Nat} {s : St} {ops : Array Oper} {Q : St → Prop} {QE : Exit → St → Prop} {k d : Nat} {listed : Array Bool} {o : Oper}

theorem SAny.done (hr : Region.ready .any ops listed = []) (h : Q s) : SAny P n ops Q k listed s :=
  fun G a w K hrel _ hK => wpAny_done hr ⟨rfl, hK s G a w h hrel (Keep.refl _ _)⟩ k

theorem SAny.step (rs : List Nat) (hr : Region.ready .any ops listed = rs) (h0 : rs ≠ []) (h : ∀ i ∈ rs, ∃ o, ops[i]? = some o ∧ AOps P n ops [o] s fun s' => SAny P n ops Q k (listed.setIfInBounds i true) s') : SAny P n ops Q (k + 1) listed s := by
  intro G a w K hrel hfx hK
  refine wpAny_all hr h0 fun i hi => ?_
  obtain ⟨o, ho, hop⟩ := h i hi
  have := hop G a w (fun e a w => match e with | .normal => wpAny P .any ops (fun e a w => e = .normal ∧ K a w) k (listed.setIfInBounds i true) a w | e => (fun e a w => e = .normal ∧ K a w) e a w) hrel hfx
    (fun s' G' a' w' hq hr' hk' => hq G' a' w' K hr' (hfx.keep hk') fun s2 G2 a2 w2 hq2 hr2 hk2 => hK s2 G2 a2 w2 hq2 hr2 (hk'.trans hk2))
  unfold wpOp
  simp only [ho]
  simp only [wpList] at this
  split at this
  · rename_i hw
    rw [if_pos hw]
    rcases this with h1 | h1
    · left; exact upon_same (K := fun e a w => e = .normal ∧ K a w) h1
    · right; exact h1
  · rename_i hw
    rw [if_neg hw]; exact this

theorem SAny.take (i : Nat) {v : AV} (ho : ops[i]? = some o) (hs : Region.noSelect ops = true) (hf : Region.free .any ops listed i = true) (hr : (Region.ready .any ops listed).contains i = true) (hg : Wants ops s o) (hd : o.dst = some d) (hn : d < n)
    (h : PReader P n s o d v) (hk : SAny P n ops Q k (listed.setIfInBounds i true) (s.put d v)) : SAny P n ops Q (k + 1) listed s := by
  intro G a w K hrel hfx hK
  obtain ⟨u, hu, hrun⟩ := h G a w hrel
  refine wpAny_take ho hs hf hr (fun c a w h => by cases h.1) (v := u) (.inl ⟨wants_eval hrel (fun t => by omega) hg, hrun⟩) ?_
  rw [hd]
  exact hk G _ w K (hrel.put hn hu) hfx hK

theorem SAny.keep (ls ks : List Nat) (h : SAny P n ops Q k listed (s.keep ls ks)) : SAny P n ops Q k listed s := fun G a w K hrel hfx hK => h G a w K (hrel.keep ls ks) hfx hK

theorem SAny.share (k' : Nat) (listed' : Array Bool) (S' : St) (h1 : SAny P n ops Q k' listed' S') (h2 : SAny P n ops Q k' listed' S' → SAny P n ops Q k listed s) : SAny P n ops Q k listed s := h2 h1
theorem SAny.same (ls ks : List Nat) {listed' : Array Bool} {S' : St} (h : SAny P n ops Q k listed' S') (hl : listed = listed') (hk : s.keep ls ks = S') : SAny P n ops Q k listed s := by
  subst hl; subst hk; exact SAny.keep ls ks h

/-- A region that draws its order. -/
theorem AWp.anyR {id : Nat} (ls ks : List Nat) (S : St) (hm : P.follows .mixedOrders = true) (h : SAny P n ops (fun s' => s'.keep ls ks = S) ops.size (Array.replicate ops.size false) s) (k : QE .normal S) : AWp P n (.region id ops true) s QE := by
  intro G a w K hr hfx hK
  refine Code.wp_mono (Q := fun e a w => e = .normal ∧ K .normal a w) (fun e a w h => by obtain ⟨rfl, h⟩ := h; exact h) ?_
  refine wp_region_any hm ?_
  obtain ⟨hr1, hk1⟩ := hr.later (w' := { w with drawn := w.drawn + 1 }) ⟨rfl, rfl, rfl, Nat.le_refl _, fun _ _ => rfl⟩
  refine h G a _ (fun a w => K .normal a w) hr1 (hfx.keep hk1) fun s' G' a' w' hq hr' hk' => ?_
  refine hK .normal S G' a' w' k ?_ (hk1.trans hk')
  have := hr'.keep ls ks
  rw [hq] at this
  exact this

/-- Both ways of a slot's truth. -/
theorem AWp.cases {c : Code} (t : Nat) {b : Bool} (hs : s.get t = .lit (.bool b)) (hT : b = true → AWp P n c (s.put t (.lit (.bool true))) QE) (hF : b = false → AWp P n c (s.put t (.lit (.bool false))) QE) : AWp P n c s QE := by
  intro G a w K hr hfx hK
  cases b with
  | true => exact hT rfl G a w K (hr.over hs rfl) hfx hK
  | false => exact hF rfl G a w K (hr.over hs rfl) hfx hK
end
section
variable {P : Program} {n : Nat} {s : St} {QE : Exit → St → Prop}
theorem AWp.mid {x y : Code} (ls ks : List Nat) (I : St → Prop) (h : AWp P n x s fun e s' => match e with | .normal => I (s'.keep ls ks) | e => QE e s') (k : ∀ s', I s' → AWp P n y s' QE) : AWp P n (.seq x y) s QE := by
  refine AWp.seq ?_
  intro G a w K hr hfx hK
  refine h G a w K hr hfx ?_
  intro e s' G' a' w' hq hr' hk
  cases e with
  | normal => exact hK .normal (s'.keep ls ks) G' a' w' (k _ hq) (hr'.keep ls ks) hk
  | _ => exact hK _ s' G' a' w' hq hr' hk
end
theorem fold_eq {k : IntKind} {i j : Int} {b : Bool} (h : (i == j) = b) : intBin .eql k i j = some (.bool b) := by rw [← h]; rfl
/-- Cells that are whole numbers. -/
def intsA (cnt : List Int) : List AV := cnt.map fun n => .lit (.int .i64 n)
theorem intsA_len (cnt : List Int) : (intsA cnt).length = cnt.length := by simp [intsA]
theorem loaded_int {cnt : List Int} {m o : Nat} (ho : o = m) (h : m < cnt.length) : loaded false 1 (intsA cnt) o = some (.lit (.int .i64 (cnt.getD m 0))) := by
  subst ho
  unfold loaded intsA
  rw [if_neg (by decide), List.getElem?_map, List.getElem?_eq_getElem h, List.getD_eq_getElem?_getD, List.getElem?_eq_getElem h]; rfl
theorem loaded_ints {cnt : List Int} {n : Nat} (h : cnt.length = n) : loaded true n (intsA cnt) 0 = some (.agg (intsA cnt)) := by
  unfold loaded
  rw [if_pos rfl, if_pos (by rw [intsA_len]; omega), List.drop_zero, List.take_of_length_le (by rw [intsA_len]; omega)]
  congr 2
  unfold intsA
  rw [List.map_map]; rfl
theorem splice_int {cnt : List Int} {m o : Nat} {v : Int} (ho : o = m) (h : m < cnt.length) : splice (intsA cnt) o [.lit (.int .i64 v)] = intsA (cnt.set m v) := by
  subst ho
  unfold splice intsA
  rw [List.set_eq_take_append_cons_drop, if_pos h, List.map_append, List.map_take, List.map_cons, List.map_drop]
  simp
theorem splice_ints {cells : List AV} {cnt : List Int} (h : cells.length = cnt.length) : splice cells 0 (intsA cnt) = intsA cnt := by
  unfold splice
  rw [List.take_zero, List.nil_append, Nat.zero_add, List.drop_eq_nil_of_le (by rw [intsA_len]; omega), List.append_nil]
theorem ints_flat (cnt : List Int) : ∀ c ∈ intsA cnt, c.flat = true := by
  intro c hc
  obtain ⟨z, _, rfl⟩ := List.mem_map.1 hc; rfl
theorem ints_part (cnt : List Int) : (AV.agg (intsA cnt)).part = true := by
  unfold intsA
  simp [AV.part, AV.scalar, Value.oneCell']
section
variable {P : Program} {n : Nat} {s : St} {ops : Array Oper} {rest : List Oper} {Q : St → Prop} {o : Oper} {x y : Operand} {t : TypeId}
theorem AOps.storeLE {v : AV} {cells cells' : List AV} {k0 off size : Nat} (hg : Wants ops s o) (hd : o.dst = none) (ho : o.op = .store t x y) (hx : s.eval x = .lptr k0 off) (hc : lookL s.loc k0 = some cells) (hs : SizeOf P t size) (hy : ArgOf s y v) (hok : Operand.ok y = true) (hp : v.part = true) (hfl : ∀ c ∈ v.cells, c.flat = true)
    (hsz : v.cells.length = size) (hfit : off + size ≤ cells.length) (hn : splice cells off v.cells = cells') (k : AOps P n ops rest { s with loc := (k0, cells') :: s.loc } Q) : AOps P n ops (o :: rest) s Q := by
  subst hn
  exact AOps.storeL hg hd ho hx hc hs hy hok hp hfl hsz hfit k
end
end Go.Proofs.Ytfnbfkgknfagmaa
