/- AvMp2, AvSN. -/
import Derived.Test.YtmmfkpbkacfegaaGreatDoorM3
import Derived.Test.YtmmfkpbkacfegaaGreatDoorM2
import Derived.LoopN
namespace Go.Proofs.YtmmfkpbkacfegaaGreatDoor
section
open Go.RowKit

section
variable {P : Program} {n : Nat} {s : St} {ops : Array Oper} {o : Oper} {rest : List Oper} {Q : St → Prop} {QE : Exit → St → Prop} {d : Nat} {t kt et E : TypeId} {x y z : Operand} {S : List (List UInt8 × AV)}
theorem Reader.mapAsk {id : Nat} {k : List UInt8} (v : AV) (b : Bool) {z0 : Value} (ht : P.underlying t = some (.map kt et)) (hkt : P.underlying kt = some .string) (hz : (P.info? et).map (·.zero) = some (some z0)) (hc : s.mem id = some (mapA S))
    (hcase : (b = true ∧ ∃ i, findS k S 0 = some (i, v)) ∨ (b = false ∧ findS k S 0 = none ∧ ∀ G w, RelV P G w v z0)) (hfl : v.flat = true) (ho : o.op = .lookup t x y true := by rfl) (hx : s.eval x = .gmap id := by rfl) (hy : s.eval y = .str k := by rfl) : Reader P n s o d (.tuple [v, .lit (.bool b)]) := by
  rcases hcase with ⟨rfl, i, hf⟩ | ⟨rfl, hf, hv⟩
  · exact Reader.mapGet ho ht hkt hx hc hy hf hfl rfl
  · exact Reader.mapNone ho ht hkt hx hc hy hf hz hv hfl rfl
/-- .. that isn't there, asked for the value alone. -/
theorem Reader.mapAtNone {id : Nat} {k : List UInt8} {v : AV} {z0 : Value} (ho : o.op = .lookup t x y false) (ht : P.underlying t = some (.map kt et)) (hkt : P.underlying kt = some .string) (hx : s.eval x = .gmap id) (hc : s.mem id = some (mapA S)) (hy : s.eval y = .str k)
    (hf : findS k S 0 = none) (hz : (P.info? et).map (·.zero) = some (some z0)) (hv : ∀ G w, RelV P G w v z0) (hfl : v.flat = true) : Reader P n s o d v := by
  intro G a w hr
  obtain ⟨b0, hb0, hav⟩ := hr.evM hx
  obtain ⟨b', hb', hX⟩ := hr.mem.obj id _ hc
  rw [hb0] at hb'
  cases hb'
  obtain ⟨es, clock, hh, ho1, ht1, ⟨he1, he2, he3⟩, he4⟩ := hX.map
  have hky : a.eval y = .string ⟨k.toArray⟩ := hr.evStr hy
  rcases findNow_S (k := k) S es.toList 0 (by simpa using he1) (fun i q x hi => by obtain ⟨e, a1, a2, _⟩ := he4 i q x hi; exact ⟨e, by simpa using a1, a2⟩) with ⟨_, q4⟩ | ⟨j, x', e', hq, _⟩
  · refine ⟨z0, (hv G w).toS hfl, fun w' hw => ?_⟩
    have hh' : w'.heap[b0]? = some (.map es clock) := (hw.block b0 (Array.getElem?_eq_some_iff.1 hh).1).trans hh
    have hck : ∀ em, (Instr.checkKey em 10000 kt (.string ⟨k.toArray⟩)).run P w' = .ok () w' := fun em => MapKept.run_checkKey (k := .string ⟨k.toArray⟩) hkt trivial em 9999
    have hz' : (zeroValue et).run P w' = .ok z0 w' := by
      cases hi : P.info? et with
      | none => simp [hi] at hz
      | some i => simp only [hi, Option.map_some, Option.some.injEq] at hz; simp [zeroValue, typeInfo, hi, hz]
    have h1 : (Instr.lookup t (.map (some b0)) (.string ⟨k.toArray⟩) false).run P w' = .ok z0 w' := by
      simp [Instr.lookup, run_underlying ht, MapKept.run_getObj_map hh', hck, MapKept.run_findKey hkt q4, hz', Result.andThen]
    simp [execOp, ho, hav, hky, h1]
  · rw [hf] at hq; cases hq
theorem Reader.mapVal {id : Nat} {k : List UInt8} (v : AV) {z0 : Value} (ht : P.underlying t = some (.map kt et)) (hkt : P.underlying kt = some .string) (hz : (P.info? et).map (·.zero) = some (some z0)) (hc : s.mem id = some (mapA S))
    (hcase : (∃ i, findS k S 0 = some (i, v)) ∨ (findS k S 0 = none ∧ ∀ G w, RelV P G w v z0)) (hfl : v.flat = true) (ho : o.op = .lookup t x y false := by rfl) (hx : s.eval x = .gmap id := by rfl) (hy : s.eval y = .str k := by rfl) : Reader P n s o d v := by
  rcases hcase with ⟨i, hf⟩ | ⟨hf, hv⟩
  · exact Reader.mapAt ho ht hkt hx hc hy hf hfl rfl
  · exact Reader.mapAtNone ho ht hkt hx hc hy hf hz hv hfl
theorem Reader.mapLen' {c : Call} {id m : Nat} (ho : o.op = .call c) (hcl : c.callee = .builtin .len) (ha : c.args = #[x]) (hat : c.argTypes = #[t]) (ht : P.underlying t = some (.map kt et)) (hx : s.eval x = .gmap id) (hc : s.mem id = some (mapA S)) (hm : S.length = m) : Reader P n s o d (.lit (.int .i64 (m : Int))) := by
  subst hm; exact Reader.mapLen ho hcl ha hat ht hx hc
/-- A key that is there is written anew. -/
theorem AOps.mapPut {id i : Nat} {k : List UInt8} {v0 v : AV} {M' : Nat → Option (List AV)} (ht : P.underlying t = some (.map kt et)) (hkt : P.underlying kt = some .string) (hc : s.mem id = some (mapA S)) (hold : findS k S 0 = some (i, v0)) (hM : setM s.mem id (mapA (S.set i (k, v))) = M') (kk : AOps P n ops rest { s with mem := M' } Q)
    (hfl : v.flat = true) (ho : o.op = .mapUpdate t x y z := by rfl) (hx : s.eval x = .gmap id := by rfl) (hy : s.eval y = .str k := by rfl) (hz : (s.eval z).un = v := by rfl) (hok : Operand.ok z = true := by rfl) (hg : Wants ops s o := by first | exact trivial | exact ⟨_, rfl, rfl⟩) (hd : o.dst = none := by rfl) : AOps P n ops (o :: rest) s Q := by
  subst hM
  refine AOps.effect hg hd ?_ kk
  intro G a w hr
  obtain ⟨b0, hb0, hav⟩ := hr.evM hx
  obtain ⟨b', hb', hX⟩ := hr.mem.obj id _ hc
  rw [hb0] at hb'
  cases hb'
  obtain ⟨es, clock, hh, ho1, ht1, ⟨he1, he2, he3⟩, he4⟩ := hX.map
  have hky : a.eval y = .string ⟨k.toArray⟩ := hr.evStr hy
  have hrv : RelV P G w v (a.eval z) := ArgOf.rel (.inl ⟨hz, hfl⟩) hr (ok_const hok)
  rcases findNow_S (k := k) S es.toList 0 (by simpa using he1) (fun i q x hi => by obtain ⟨e, a1, a2, _⟩ := he4 i q x hi; exact ⟨e, by simpa using a1, a2⟩) with ⟨hq, _⟩ | ⟨j, x', e', hq, q2, q3, q4⟩
  · rw [hold] at hq; cases hq
  · rw [hold] at hq
    cases hq
    have hck : (Instr.checkKey false 10000 kt (.string ⟨k.toArray⟩)).run P w = .ok () w := MapKept.run_checkKey (k := .string ⟨k.toArray⟩) hkt trivial false 9999
    have hkk : (Instr.keyThatStays (.string ⟨k.toArray⟩) (.string ⟨k.toArray⟩)).run P w = .ok (.string ⟨k.toArray⟩) w := MapKept.run_keyThatStays (d := .string) (k := .string ⟨k.toArray⟩) trivial
    have hj : es[j]? = some e' := by simpa using q2
    rw [Nat.zero_add] at q4
    have hrun : (execOp a.eval o).run P w = .ok .skip { w with heap := w.heap.setIfInBounds b0 (.map (es.modify j fun e => { e with key := .string ⟨k.toArray⟩, val := a.eval z }) clock) } := by
      have h1 : (Instr.mapUpdate t (.map (some b0)) (.string ⟨k.toArray⟩) (a.eval z)).run P w = .ok () { w with heap := w.heap.setIfInBounds b0 (.map (es.modify j fun e => { e with key := .string ⟨k.toArray⟩, val := a.eval z }) clock) } := by
        simp [Instr.mapUpdate, run_underlying ht, MapKept.run_getObj_map hh, hck, MapKept.run_findKey hkt q4, hj, q3, hkk, MapKept.run_setObj_map _ hh, Result.andThen]
      simp [execOp, ho, hav, hky, h1]
    obtain ⟨r1, r2⟩ := hr.setMap (S' := S.set (0 + j) (k, v)) (es' := es.modify j fun e => { e with key := .string ⟨k.toArray⟩, val := a.eval z }) (clock' := clock) hc hb0
      ⟨by simpa using he1, by simpa using he2, fun i e hi => by
        rw [Array.getElem?_modify] at hi
        split at hi
        · obtain ⟨e0, h0, rfl⟩ := Option.map_eq_some_iff.1 hi
          exact he3 i e0 h0
        · exact he3 i e hi⟩ (fun i q x hi => by
        rw [Nat.zero_add, List.getElem?_set] at hi
        by_cases hij : j = i
        · subst hij
          rw [if_pos rfl] at hi
          split at hi
          · cases hi
            exact ⟨{ e' with key := .string ⟨k.toArray⟩, val := a.eval z }, by rw [Array.getElem?_modify, if_pos rfl, hj]; rfl, rfl, hrv⟩
          · cases hi
        · rw [if_neg hij] at hi
          obtain ⟨e, b1, b2, b3⟩ := he4 i q x hi
          exact ⟨e, by rw [Array.getElem?_modify, if_neg hij]; exact b1, b2, b3⟩)
    exact ⟨_, G, hrun, r1, r2⟩
end
section
variable {P : Program} {n : Nat} {s : St} {a : Act} {w : World} {G : Gh} {E : TypeId}
/-- An object's empty list is its own. -/
theorem RelSt.objList {id j : Nat} {cells : List AV} (hr : RelSt P G n s a w) (hc : s.mem id = some cells) (hj : cells[j]? = some (.lit (.slice none 0 0))) (hsc : cells.all AV.scalar = true) : RelSt P G n { s with mem := setM s.mem id (cells.set j (.list true E [])) } a w := by
  refine ⟨hr.size, hr.defers, hr.slot, hr.loc, ⟨fun id' cs h => ?_, hr.mem.far, hr.mem.fin⟩⟩
  have h' : setM s.mem id (cells.set j (.list true E [])) id' = some cs := h
  by_cases e : id' = id
  · subst e
    rw [setM_get] at h'
    cases h'
    obtain ⟨b, hb, hX⟩ := hr.mem.obj id' cells hc
    obtain ⟨⟨arr, T, h1, h2, h3, h4, h5, h6⟩, h7⟩ := hX.cells hsc
    refine ⟨b, hb, .inl ⟨⟨arr, T, h1, by simpa using h2, h3, h4, fun c hcm => ?_, fun k c u hk hu => ?_⟩, h7⟩⟩
    · rcases List.mem_or_eq_of_mem_set hcm with h | rfl
      · exact h5 c h
      · rfl
    · rw [List.getElem?_set] at hk
      split at hk
      · rename_i ejk
        subst ejk
        split at hk
        · cases hk
          have h8 := h6 j _ u hj hu
          have e8 : u = .slice none 0 0 := by
            have h9 : RelV P G w (.lit (.slice none 0 0)) u := h8
            cases h9; rfl
          exact .inr ⟨rfl, .inl e8⟩
        · cases hk
      · exact h6 k c u hk hu
  · rw [setM_ne e] at h'
    exact hr.mem.obj id' cs h'
end
section
variable {P : Program} {n : Nat} {s : St} {ops : Array Oper} {l : List Oper} {Q : St → Prop}
theorem AOps.objList {cells : List AV} {M' : Nat → Option (List AV)} (E : TypeId) (j : Nat) {id : Nat} (hc : s.mem id = some cells) (hj : cells[j]? = some (.lit (.slice none 0 0))) (hM : setM s.mem id (cells.set j (.list true E [])) = M') (h : AOps P n ops l { s with mem := M' } Q) (hsc : cells.all AV.scalar = true := by first | rfl | (simp only [List.all_cons, List.all_nil, *]; rfl)) : AOps P n ops l s Q := by
  subst hM
  exact fun G a w K hr hfx hK => h G a w K (hr.objList hc hj hsc) hfx hK
end
/-! A map literal in a region that draws its order. -/
section
variable {P : Program} {n : Nat} {s0 : St} {ops : Array Oper} {QE : Exit → St → Prop}
def entL (ins : List (Nat × List UInt8 × AV)) (listed : Array Bool) : List (List UInt8 × AV) := (ins.filter fun p => listed.getD p.1 false).map (·.2)
theorem entL_set {_ins : List (Nat × List UInt8 × AV)} {listed : Array Bool} {i : Nat} (hi : i < listed.size) (hf : listed.getD i false = false) : ∀ {ins : List (Nat × List UInt8 × AV)}, (ins.map Prod.fst).Nodup → ∀ {e : List UInt8 × AV}, (i, e) ∈ ins → (entL ins (listed.setIfInBounds i true)).Perm (entL ins listed ++ [e])
  | [], _, e, h => by cases h
  | p :: r, hn, e, h => by
    rw [List.map_cons, List.nodup_cons] at hn
    rcases List.mem_cons.1 h with rfl | h
    · have hr : entL r (listed.setIfInBounds i true) = entL r listed := by
        unfold entL
        congr 1
        refine List.filter_congr fun q hq => ?_
        rw [getD_set_ne false (fun e' => hn.1 (List.mem_map.2 ⟨q, hq, e'.symm⟩))]
      have e1 : entL ((i, e) :: r) (listed.setIfInBounds i true) = e :: entL r listed := by
        rw [← hr]; unfold entL; rw [List.filter_cons]; simp [hi]
      have e2 : entL ((i, e) :: r) listed = entL r listed := by
        unfold entL; rw [List.filter_cons]; simp only [hf]; rfl
      rw [e1, e2]
      exact (List.perm_append_singleton e _).symm
    · have ih := entL_set (_ins := r) hi hf hn.2 h
      have hne : i ≠ p.1 := fun e => hn.1 (by rw [← e]; exact List.mem_map_of_mem (f := Prod.fst) h)
      have e1 : ∀ l : Array Bool, entL (p :: r) l = (if l.getD p.1 false then [p.2] else []) ++ entL r l := fun l => by
        unfold entL; rw [List.filter_cons]; split <;> rfl
      rw [e1, e1, getD_set_ne false hne, List.append_assoc]
      exact List.Perm.append_left _ ih
theorem findS_none {k : List UInt8} : ∀ {S : List (List UInt8 × AV)} {o : Nat}, (∀ p ∈ S, k ≠ p.1) → findS k S o = none
  | [], _, _ => rfl
  | p :: r, o, h => by
    unfold findS
    rw [if_neg (h p (List.mem_cons_self ..))]
    exact findS_none fun q hq => h q (List.mem_cons_of_mem _ hq)
theorem findS_some {k : List UInt8} {v : AV} : ∀ {S : List (List UInt8 × AV)} {o : Nat}, (k, v) ∈ S → (∀ p ∈ S, k = p.1 → p.2 = v) → ∃ i, findS k S o = some (i, v)
  | p :: r, o, h, hu => by
    unfold findS
    by_cases e : k = p.1
    · rw [if_pos e]; exact ⟨o, by rw [hu p (List.mem_cons_self ..) e]⟩
    · rw [if_neg e]
      rcases List.mem_cons.1 h with rfl | h
      · exact absurd rfl e
      · exact findS_some h fun q hq => hu q (List.mem_cons_of_mem _ hq)
/-- Each operation of such a region: the map is made (at its place), an entry is laid in, or a slot gets its value. -/
def HopM (P : Program) (n : Nat) (ops : Array Oper) (s0 : St) (m0 : Nat) (ws : Nat → List (List (Nat × AV))) (rs : Nat → List (List (Nat × Option Nat × AV))) (ins : List (Nat × List UInt8 × AV)) (i : Nat) (o : Oper) : Prop :=
  (i = m0 ∧ ∀ fr, AOps P n ops [o] ⟨fr, s0.loc, s0.mem⟩ fun s' => ∃ id, s0.mem id = none ∧ s' = ⟨(ws id).getD i [] ++ fr, s0.loc, setM s0.mem id (mapA [])⟩) ∨
  (∃ e, (i, e) ∈ ins ∧ depB ops i m0 = true ∧ ∀ id S fr, s0.mem id = none → findS e.1 S 0 = none → RdR fr ((rs id).getD i []) → AOps P n ops [o] ⟨fr, s0.loc, setM s0.mem id (mapA S)⟩ fun s' => s' = ⟨(ws id).getD i [] ++ fr, s0.loc, setM s0.mem id (mapA (S ++ [e]))⟩) ∨
  (i ≠ m0 ∧ (∀ p ∈ ins, p.1 ≠ i) ∧ ∀ id fr mem, RdR fr ((rs id).getD i []) → AOps P n ops [o] ⟨fr, s0.loc, mem⟩ fun s' => s' = ⟨(ws id).getD i [] ++ fr, s0.loc, mem⟩)
theorem AWp.anyM {id0 : Nat} (ls ks : List Nat) (_S : Nat → St) (m0 : Nat) (ws : Nat → List (List (Nat × AV))) (rs : Nat → List (List (Nat × Option Nat × AV))) (ins : List (Nat × List UInt8 × AV)) (kk : List (List Nat)) (rk : List (List (Nat × Option Nat)))
    (hm : P.follows .mixedOrders = true) (hlen : ∀ x, (ws x).length = ops.size) (hks : ∀ x, (ws x).map (fun w => w.map Prod.fst) = kk) (hrk : ∀ x, (rs x).map (fun r => r.map fun p => (p.1, p.2.1)) = rk) (hchk : svB ops kk rk = true)
    (hval : ∀ x, ValL s0.fr (ws x) (rs x)) (hn : (ins.map Prod.fst).Nodup) (hn2 : (ins.map fun p => p.2.1).Nodup) (hins : ∀ p ∈ ins, p.1 < ops.size) (hm0 : m0 < ops.size) (hind : ∀ x y i, i ≠ m0 → depB ops i m0 = false → (ws x).getD i [] = (ws y).getD i []) (hinm : ∀ p ∈ ins, p.1 ≠ m0)
    (hop : ∀ i o, ops[i]? = some o → HopM P n ops s0 m0 ws rs ins i o)
    (k : ∀ id T, s0.mem id = none → T.Perm (ins.map (·.2)) → (∃ s', s' = (⟨frA (ws id) s0.fr, s0.loc, setM s0.mem id (mapA T)⟩ : St).keep ls ks ∧ QE .normal s')) : AWp P n (.region id0 ops true) s0 QE := by
  intro G a w K hr hfx hK
  refine wp_region_any hm ?_
  obtain ⟨hr1, hk1⟩ := hr.later (w' := { w with drawn := w.drawn + 1 }) ⟨rfl, rfl, rfl, Nat.le_refl _, fun _ _ => rfl⟩
  have hA : AAny P n ops (fun s' => ∃ id T, s0.mem id = none ∧ T.Perm (ins.map (·.2)) ∧ s'.keep ls ks = (⟨frA (ws id) s0.fr, s0.loc, setM s0.mem id (mapA T)⟩ : St).keep ls ks) ops.size (Array.replicate ops.size false) s0 := by
    refine AAny.vals (ι := Nat) ws rs (fun id listed m => listed.size = ops.size ∧ if listed.getD m0 false = true then s0.mem id = none ∧ ∃ T, T.Perm (entL ins listed) ∧ m = setM s0.mem id (mapA T) else m = s0.mem ∧ ∀ p ∈ ins, listed.getD p.1 false = false) kk rk hlen (fun x i t => ?_) (fun x i p hp => ?_) hchk (fun x i p hp => ((hval x).at i).of p hp) ?_ 0 ⟨by simp, by
      have e0 : ∀ j, (Array.replicate ops.size false).getD j false = false := fun j => by
        rw [Array.getD_eq_getD_getElem?, Array.getElem?_replicate]; split <;> rfl
      rw [if_neg (by rw [e0]; decide)]
      exact ⟨rfl, fun p _ => e0 _⟩⟩ ?_
    · rw [keys_has, ← hks x]
      exact congrArg (fun l : List Nat => l.contains t) (getD_map' (fun w : List (Nat × AV) => w.map Prod.fst) (ws x) i []).symm
    · have e := getD_map' (fun r : List (Nat × Option Nat × AV) => r.map fun p => (p.1, p.2.1)) (rs x) i []
      rw [hrk x] at e
      rw [show rk.getD i [] = ((rs x).getD i []).map fun p => (p.1, p.2.1) from e]; exact List.mem_map.2 ⟨p, hp, rfl⟩
    · rintro x listed i o fr mem ho hfi hdep hcl ⟨hsz, hJ⟩ hrd
      have hin := (Array.getElem?_eq_some_iff.1 ho).1
      have hff : listed.getD i false = false := by have h2 := hfi; simp [hsz, hin] at h2 ⊢; exact h2
      rcases hop i o ho with ⟨rfl, h⟩ | ⟨e, he, hd, h⟩ | ⟨hne, hni, h⟩
      · rw [if_neg (by rw [hff]; decide)] at hJ
        obtain ⟨rfl, hno⟩ := hJ
        refine AOps.mono (h fr) ?_
        rintro s' ⟨id, hid, rfl⟩
        refine ⟨id, _, rfl, ⟨by simpa using hsz, ?_⟩, fun j hj => hind id x j (fun e => by rw [e, hff] at hj; cases hj) ?_⟩
        · rw [if_pos (by simp [hsz, hin])]
          refine ⟨hid, [], ?_, rfl⟩
          have : entL ins (listed.setIfInBounds i true) = [] := by
            unfold entL
            rw [List.filter_eq_nil_iff.2 fun p hp => by rw [getD_set_ne false (Ne.symm (hinm p hp)), hno p hp]; decide]
            rfl
          rw [this]
        · cases hv : depB ops j i with
          | false => rfl
          | true => rw [hcl j hj i hv] at hff; cases hff
      · have hl0 := hdep m0 hd
        rw [if_pos hl0] at hJ
        obtain ⟨hid, T, hT, rfl⟩ := hJ
        have hkey : findS e.1 T 0 = none := findS_none fun p hp hk => by
          have hp2 := hT.mem_iff.1 hp
          obtain ⟨q, hq, rfl⟩ := List.mem_map.1 hp2
          obtain ⟨hq1, hq2⟩ := List.mem_filter.1 hq
          have : q = (i, e) := by
            have hinj : ∀ (l : List (Nat × List UInt8 × AV)), (l.map fun p => p.2.1).Nodup → ∀ a ∈ l, ∀ b ∈ l, a.2.1 = b.2.1 → a = b := by
              intro l
              induction l with
              | nil => intro _ a ha; cases ha
              | cons c r ih =>
                intro hn a ha b hb e
                rw [List.map_cons, List.nodup_cons] at hn
                rcases List.mem_cons.1 ha with ea | ha <;> rcases List.mem_cons.1 hb with eb | hb
                · rw [ea, eb]
                · exact absurd (List.mem_map.2 ⟨b, hb, by rw [← e, ea]⟩) hn.1
                · exact absurd (List.mem_map.2 ⟨a, ha, by rw [e, eb]⟩) hn.1
                · exact ih hn.2 a ha b hb e
            exact hinj ins hn2 q hq1 _ he hk.symm
          rw [this] at hq2
          rw [hff] at hq2; cases hq2
        refine AOps.mono (h x T fr hid hkey (RdR.of hrd)) ?_
        rintro s' rfl
        refine ⟨x, _, rfl, ⟨by simpa using hsz, ?_⟩, fun _ _ => rfl⟩
        rw [if_pos (getD_set_true hl0)]
        exact ⟨hid, _, (hT.append_right [e]).trans (entL_set (_ins := ins) (by omega) hff hn he).symm, rfl⟩
      · refine AOps.mono (h x fr mem (RdR.of hrd)) ?_
        rintro s' rfl
        refine ⟨x, mem, rfl, ⟨by simpa using hsz, ?_⟩, fun _ _ => rfl⟩
        rw [getD_set_ne false hne]
        have e1 : entL ins (listed.setIfInBounds i true) = entL ins listed := by
          unfold entL; congr 1
          exact List.filter_congr fun q hq => by rw [getD_set_ne false (Ne.symm (hni q hq))]
        split
        · rename_i hl; rw [if_pos hl] at hJ; rw [e1]; exact hJ
        · rename_i hl; rw [if_neg hl] at hJ; exact ⟨hJ.1, fun p hp => by rw [getD_set_ne false (Ne.symm (hni p hp))]; exact hJ.2 p hp⟩
    · rintro x s listed hl hall ⟨_, hJ⟩ hg
      rw [if_pos (hall m0 hm0)] at hJ
      obtain ⟨hid, T, hT, hmem⟩ := hJ
      refine ⟨x, T, hid, ?_, St.keep_eq ls ks hl hmem hg⟩
      have : entL ins listed = ins.map (·.2) := by
        unfold entL
        rw [List.filter_eq_self.2 fun p hp => hall p.1 (hins p hp)]
      rw [← this]; exact hT
  refine AAny.sound _ _ _ hA G a _ K hr1 (hfx.keep hk1) fun s' G' a' w' hq hr' hk' => ?_
  obtain ⟨id, T, hid, hT, he⟩ := hq
  obtain ⟨s2, rfl, h2⟩ := k id T hid hT
  refine hK .normal _ G' a' w' h2 ?_ (hk1.trans hk')
  have := hr'.keep ls ks
  rw [he] at this
  exact this
end
section
variable {P : Program} {n : Nat} {s0 : St} {ops : Array Oper} {m0 : Nat} {ws : Nat → List (List (Nat × AV))} {rs : Nat → List (List (Nat × Option Nat × AV))} {ins : List (Nat × List UInt8 × AV)}
def HopMs (P : Program) (n : Nat) (ops : Array Oper) (s0 : St) (m0 : Nat) (ws : Nat → List (List (Nat × AV))) (rs : Nat → List (List (Nat × Option Nat × AV))) (ins : List (Nat × List UInt8 × AV)) : Nat → List Oper → Prop
  | _, [] => True
  | i, o :: os => HopM P n ops s0 m0 ws rs ins i o ∧ HopMs P n ops s0 m0 ws rs ins (i + 1) os
theorem hm0 {i : Nat} : HopMs P n ops s0 m0 ws rs ins i [] := trivial
theorem HopMs.at : ∀ (os : List Oper) (i j m : Nat) (o : Oper), HopMs P n ops s0 m0 ws rs ins i os → os[j]? = some o → m = i + j → HopM P n ops s0 m0 ws rs ins m o
  | [], _, j, _, o, _, ho, _ => by simp at ho
  | a :: os, i, 0, m, o, h, ho, hm => by
    have e : a = o := by simpa using ho
    subst e; subst hm
    exact h.1
  | a :: os, i, j + 1, m, o, h, ho, hm => HopMs.at os (i + 1) j m o h.2 (by simpa using ho) (by omega)
theorem hmV {i : Nat} {o : Oper} {os : List Oper} (h : ∀ id fr mem, RdR fr ((rs id).getD i []) → AOps P n ops [o] ⟨fr, s0.loc, mem⟩ fun s' => s' = ⟨(ws id).getD i [] ++ fr, s0.loc, mem⟩) (k : HopMs P n ops s0 m0 ws rs ins (i + 1) os) (hi : Nat.beq i m0 = false := by rfl) (hc : (ins.map Prod.fst).contains i = false := by rfl) : HopMs P n ops s0 m0 ws rs ins i (o :: os) :=
  ⟨.inr (.inr ⟨fun e => by subst e; simp at hi, fun p hp e => by
    exact absurd (List.contains_iff_mem.2 (List.mem_map.2 ⟨p, hp, e⟩)) (by rw [hc]; decide), h⟩), k⟩
theorem hmN {i d : Nat} {t : TypeId} {o : Oper} {os : List Oper} (k : HopMs P n ops s0 m0 ws rs ins (i + 1) os) (hi : i = m0 := by rfl) (ho : o.op = .makeMap t none := by rfl) (hg : o.guard = none := by rfl) (hd : o.dst = some d := by rfl) (hn : d < n := by decide) (hw : ∀ id, (ws id).getD i [] = [(d, .gmap id)] := by exact fun _ => rfl) : HopMs P n ops s0 m0 ws rs ins i (o :: os) :=
  ⟨.inl ⟨hi, fun fr => AOps.newMap (by unfold Wants; rw [hg]; trivial) hd hn ho fun id hid => AOps.nil ⟨id, hid, by rw [hw]; rfl⟩⟩, k⟩
theorem hmI {i d dv : Nat} {t kt et : TypeId} {src : Option Nat} {kx : List UInt8} {ow : Bool} {E : TypeId} {xs : List AV} {o : Oper} {os : List Oper} (j : Nat) (hu : P.underlying t = some (.map kt et)) (hkt : P.underlying kt = some .string) (k : HopMs P n ops s0 m0 ws rs ins (i + 1) os)
    (hj : ins[j]? = some (i, kx, .list false E xs) := by rfl) (ho : o.op = .insert t (.tmp d) (.const (.string ⟨kx.toArray⟩)) (.tmp dv) := by rfl) (hg : o.guard = none := by rfl) (hd : o.dst = none := by rfl) (hw : ∀ id, (ws id).getD i [] = [] := by exact fun _ => rfl) (hr : ∀ id, (rs id).getD i [] = [(d, some m0, .gmap id), (dv, src, .list ow E xs)] := by exact fun _ => rfl)
    (hdep : depB ops i m0 = true := by kernel_rfl) : HopMs P n ops s0 m0 ws rs ins i (o :: os) :=
  ⟨.inr (.inl ⟨(kx, .list false E xs), List.mem_of_getElem? hj, hdep, fun id S fr _ hf h => by
    rw [hr] at h
    obtain ⟨h1, h2, -⟩ := h
    refine AOps.mapNew (S := S) (k := kx) (v := .list false E xs) (by unfold Wants; rw [hg]; trivial) hd (.inr ho) hu hkt h1 setM_get (by simp [St.eval, ofConst]) (.inl ⟨un_of h2 rfl, rfl⟩) rfl rfl hf setM_setM (AOps.nil ?_)
    rw [hw]; rfl⟩), k⟩
def mask (ops : Array Oper) (m0 : Nat) : Nat → List (List (Nat × AV)) → List (List (Nat × AV))
  | _, [] => []
  | i, w :: r => (if (Nat.beq i m0 || depB ops i m0) = true then [] else w) :: mask ops m0 (i + 1) r
theorem mask_get : ∀ (l : List (List (Nat × AV))) (k j : Nat), Nat.beq (k + j) m0 = false → depB ops (k + j) m0 = false → (mask ops m0 k l).getD j [] = l.getD j []
  | [], k, j, _, _ => rfl
  | w :: r, k, 0, h1, h2 => by
    rw [Nat.add_zero] at h1 h2
    show (if (Nat.beq k m0 || depB ops k m0) = true then [] else w) = w
    rw [h1, h2]; rfl
  | w :: r, k, j + 1, h1, h2 => by
    have := mask_get r (k + 1) j (by rwa [show k + 1 + j = k + (j + 1) by omega]) (by rwa [show k + 1 + j = k + (j + 1) by omega])
    simpa [mask] using this
theorem AWp.anyMs {id0 : Nat} {QE : Exit → St → Prop} (ls ks : List Nat) (m0 : Nat) (ws : Nat → List (List (Nat × AV))) (rs : Nat → List (List (Nat × Option Nat × AV))) (ins : List (Nat × List UInt8 × AV)) (hop : HopMs P n ops s0 m0 ws rs ins 0 ops.toList)
    (k : ∀ id T, s0.mem id = none → T.Perm (ins.map (·.2)) → (∃ s', s' = (⟨frA (ws id) s0.fr, s0.loc, setM s0.mem id (mapA T)⟩ : St).keep ls ks ∧ QE .normal s')) (hlen : ∀ x, (ws x).length = ops.size := by exact fun _ => rfl) (hval : ∀ x, ValL s0.fr (ws x) (rs x) := by intro x; repeat' first | exact vl0 | exact vr0 | refine vl1 ?_ ?_ | refine vrN rfl ?_ | refine vrS rfl ?_) (hag : ∀ x y, mask ops m0 0 (ws x) = mask ops m0 0 (ws y) := by intro x y; kernel_rfl)
    (hm : P.follows .mixedOrders = true := by kernel_rfl) (hks : ∀ x, (ws x).map (fun w => w.map Prod.fst) = (ws 0).map (fun w => w.map Prod.fst) := by exact fun _ => rfl) (hrk : ∀ x, (rs x).map (fun r => r.map fun p => (p.1, p.2.1)) = (rs 0).map (fun r => r.map fun p => (p.1, p.2.1)) := by exact fun _ => rfl)
    (hchk : svB ops ((ws 0).map (fun w => w.map Prod.fst)) ((rs 0).map (fun r => r.map fun p => (p.1, p.2.1))) = true := by kernel_rfl) (hn : decide (ins.map Prod.fst).Nodup = true := by kernel_rfl) (hn2 : decide (ins.map fun p => p.2.1).Nodup = true := by kernel_rfl) (hins : (ins.all fun p => Nat.blt p.1 ops.size) = true := by kernel_rfl) (hm0 : Nat.blt m0 ops.size = true := by kernel_rfl)
    (hinm : (ins.all fun p => !(Nat.beq p.1 m0)) = true := by kernel_rfl) : AWp P n (.region id0 ops true) s0 QE :=
  AWp.anyM ls ks (fun _ => s0) m0 ws rs ins _ _ hm hlen hks hrk hchk hval (of_decide_eq_true hn) (of_decide_eq_true hn2) (fun p hp => by have := List.all_eq_true.1 hins p hp; simpa using this) (by simpa using hm0) (fun x y i h1 h2 => by
    have hb : Nat.beq (0 + i) m0 = false := by rw [Nat.zero_add]; cases hb : Nat.beq i m0 with
      | false => rfl
      | true => exact absurd (Nat.eq_of_beq_eq_true hb) h1
    have hd : depB ops (0 + i) m0 = false := by rw [Nat.zero_add]; exact h2
    rw [← mask_get (ws x) 0 i hb hd, hag x y, mask_get (ws y) 0 i hb hd]) (fun p hp e => by
    have := List.all_eq_true.1 hinm p hp
    rw [e, Nat.beq_refl] at this; cases this) (fun i o ho => HopMs.at _ 0 i i o hop (by simpa using ho) (Nat.zero_add i).symm) k
end
end
section
open Go.RowKit

section
variable {P : Program} {n : Nat} {s : St} {w0 : World} {c : Code} {QE : Exit → St → Prop}
def ARounds (P : Program) (n : Nat) (c : Code) (QE : Exit → St → Prop) : Nat → St → Prop
  | 0, _ => False
  | k + 1, s => AWp P n c s fun e s' => match e with | .normal => ARounds P n c QE k s' | e => QE e s'
theorem AWp.round {k : Nat} (h : AWp P n c s fun e s' => match e with | .normal => ARounds P n c QE k s' | e => QE e s') : ARounds P n c QE (k + 1) s := h
theorem AWp.unroll (k : Nat) (h : ARounds P n c QE k s) : AWp P n (.loop c) s QE := by
  intro G a w K hr hfx hK
  refine wp_loop_rounds k ?_
  induction k generalizing s G a w K with
  | zero => exact h.elim
  | succ k ih =>
    refine h G a w _ hr hfx ?_
    intro e s' G' a' w' hq hr' hk
    cases e with
    | normal => exact ih hq G' a' w' K hr' (hfx.keep hk) fun e s2 G2 a2 w2 hq2 hr2 hk2 => hK e s2 G2 a2 w2 hq2 hr2 (hk.trans hk2)
    | _ => exact hK _ s' G' a' w' hq hr' hk
def TRounds (P : Program) (n : Nat) (w0 : World) (c : Code) (QE : Exit → St → Prop) : Nat → St → Prop
  | 0, _ => False
  | k + 1, s => TWp P n w0 c s fun e s' => match e with | .normal => TRounds P n w0 c QE k s' | e => QE e s'
theorem TWp.round {k : Nat} (h : TWp P n w0 c s fun e s' => match e with | .normal => TRounds P n w0 c QE k s' | e => QE e s') : TRounds P n w0 c QE (k + 1) s := h
theorem TWp.unroll (k : Nat) (h : TRounds P n w0 c QE k s) : TWp P n w0 (.loop c) s QE := by
  intro G a w K hr hfx hkp hK
  refine wp_loop_rounds k ?_
  induction k generalizing s G a w K with
  | zero => exact h.elim
  | succ k ih =>
    refine h G a w _ hr hfx hkp ?_
    intro e s' G' a' w' hq hr' hf' hk
    cases e with
    | normal => exact ih hq G' a' w' K hr' hf' hk hK
    | _ => exact hK _ s' G' a' w' hq hr' hf' hk
end

section
variable {P : Program} {G : Gh} {w w' : World}
end
section
variable {P : Program} {n : Nat} {s : St} {w0 : World} {Q : Exit → St → Prop}
end
section
variable {P : Program} {n : Nat} {s : St} {o : Oper} {d : Nat} {t E : TypeId} {x y : Operand}
end
end
end Go.Proofs.YtmmfkpbkacfegaaGreatDoor
