/- AvPure, AvAny2, AvZ, AvSV, AvFrz, AvMp2, AvPn, AvSN, RegT, RegX. -/
import Derived.Test.YtgphopeclplahaaGreatDoorM2
import Derived.LoopN
namespace Go.Proofs.YtgphopeclplahaaGreatDoor
section
open Go.RowKit

/-- It yields one value, whatever the world. -/
def PReader (P : Program) (n : Nat) (s : St) (o : Oper) (d : Nat) (v : AV) : Prop :=
  ∀ (G : Gh) (a : Act) (w : World), RelSt P G n s a w → ∃ u, RelS P G w (.slot d) v u ∧ ∀ w', (execOp a.eval o).run P w' = .ok (.value u) w'

section
variable {P : Program} {n : Nat} {s : St} {o : Oper} {d : Nat} {t t' : TypeId} {x y : Operand} {k k' : IntKind} {i j : Int}
theorem PReader.move (ho : o.op = .move x ∨ o.op = .assign x) (hc : ∀ v cs, x = .const v → v = .agg cs → ∀ c ∈ cs, c.oneCell' = true) {v : AV} (hv : (s.eval x).un = v) : PReader P n s o d v := by
  intro G a w hr
  obtain ⟨p, hp⟩ := hr.ev x hc
  subst hv
  refine ⟨_, hp.un, fun w' => ?_⟩
  rcases ho with ho | ho <;> simp [execOp, ho]
end
section
variable {P : Program} {n : Nat} {s : St} {o : Oper} {d : Nat} {t t' : TypeId} {x y : Operand} {k k' : IntKind} {i j : Int}
theorem PReader.int {op : BinOp} (ho : o.op = .binOp op t x y t') (hx : s.eval x = .lit (.int k i)) (hy : s.eval y = .lit (.int k j)) {r : Value} (hr : intBin op k i j = some r) : PReader P n s o d (.lit r) := by
  intro G a w h
  refine ⟨_, lit_toS r, fun w' => ?_⟩
  have h1 := h.evLit hx
  have h2 := h.evLit hy
  simp only [execOp, ho, h1, h2]
  unfold intBin at hr
  split at hr <;> first | (cases hr; done) | (cases hr; simp [eqGuard, binOp, Op.intArith, Op.intCmp, Op.intBits])
end
section
variable {P : Program} {n : Nat} {s : St} {o : Oper} {d : Nat} {t t' : TypeId} {x y : Operand} {k k' : IntKind} {i j : Int}
theorem PReader.sum {op : BinOp} (ho : o.op = .binOp op t x y t') (hx : s.eval x = .lit (.int k i)) (hy : s.eval y = .lit (.int k j)) {m c : Int} (hr : intBin op k i j = some (.int k (k.wrap m))) (hc : k.wrap m = c) : PReader P n s o d (.lit (.int k c)) := by
  subst hc
  exact PReader.int ho hx hy hr
end
section
variable {P : Program} {n : Nat} {s : St} {o : Oper} {d : Nat} {t t' : TypeId} {x y : Operand} {k k' : IntKind} {i j : Int}
theorem PReader.quo (ho : o.op = .binOp .quo t x y t') (hx : s.eval x = .lit (.int k i)) (hy : s.eval y = .lit (.int k j)) (hj : j ≠ 0) {c : Int} (hc : k.wrap (i.tdiv j) = c) : PReader P n s o d (.lit (.int k c)) := by
  intro G a w h
  refine ⟨_, lit_toS _, fun w' => ?_⟩
  simp only [execOp, ho, h.evLit hx, h.evLit hy]
  simp [eqGuard, binOp, Op.intDiv, hj, hc]
end
section
variable {P : Program} {n : Nat} {s : St} {o : Oper} {d : Nat} {t t' : TypeId} {x y : Operand} {k k' : IntKind} {i j : Int}
theorem PReader.rem (ho : o.op = .binOp .rem t x y t') (hx : s.eval x = .lit (.int k i)) (hy : s.eval y = .lit (.int k j)) (hj : j ≠ 0) {c : Int} (hc : i.tmod j = c) : PReader P n s o d (.lit (.int k c)) := by
  intro G a w h
  refine ⟨_, lit_toS _, fun w' => ?_⟩
  simp only [execOp, ho, h.evLit hx, h.evLit hy]
  simp [eqGuard, binOp, Op.intDiv, hj, hc]
end
section
variable {P : Program} {n : Nat} {s : St} {o : Oper} {d : Nat} {t t' : TypeId} {x y : Operand} {k k' : IntKind} {i j : Int}
theorem PReader.bools {op : BinOp} {a b r : Bool} (ho : o.op = .binOp op t x y t') (hu : P.underlying t = some .bool) (hx : s.eval x = .lit (.bool a)) (hy : s.eval y = .lit (.bool b)) (hr : (op = .eql ∧ r = (a == b)) ∨ (op = .neq ∧ r = !(a == b))) : PReader P n s o d (.lit (.bool r)) := by
  intro G ac w h
  refine ⟨_, lit_toS _, fun w' => ?_⟩
  simp only [execOp, ho, h.evLit hx, h.evLit hy]
  rcases hr with ⟨rfl, rfl⟩ | ⟨rfl, rfl⟩
  · have e1 : (eqGuard .eql t x y (.bool a) (.bool b)).run P w' = .ok () w' := by simp [eqGuard]
    have e2 : (binOp .eql t (.bool a) (.bool b)).run P w' = .ok (.bool (a == b)) w' := by
      simp only [binOp, Op.equal, Op.maxDepth]
      simp [run_equalIn_bool 9999 hu]
    simp [e1, e2, Result.andThen]
  · have e1 : (eqGuard .neq t x y (.bool a) (.bool b)).run P w' = .ok () w' := by simp [eqGuard]
    have e2 : (binOp .neq t (.bool a) (.bool b)).run P w' = .ok (.bool (!(a == b))) w' := by
      simp only [binOp, Op.equal, Op.maxDepth]
      simp [run_equalIn_bool 9999 hu]
    simp [e1, e2, Result.andThen]
end
section
variable {P : Program} {n : Nat} {s : St} {o : Oper} {d : Nat} {t t' : TypeId} {x y : Operand} {k k' : IntKind} {i j : Int}
theorem PReader.strs {op : BinOp} {l m : List UInt8} {r : Bool} (ho : o.op = .binOp op t x y t') (hx : s.eval x = .str l) (hy : s.eval y = .str m) (hr : strBin op l m = some r) : PReader P n s o d (.lit (.bool r)) := by
  intro G a w h
  refine ⟨_, lit_toS _, fun w' => ?_⟩
  simp only [execOp, ho, h.evStr hx, h.evStr hy]
  unfold strBin at hr
  split at hr <;> first | (cases hr; done) | (cases hr; simp [eqGuard, binOp, Op.stringOp])
end
section
variable {P : Program} {n : Nat} {s : St} {o : Oper} {d : Nat} {t t' : TypeId} {x y : Operand} {k k' : IntKind} {i j : Int}
theorem PReader.cat {l m c : List UInt8} (ho : o.op = .binOp .add t x y t') (hx : s.eval x = .str l) (hy : s.eval y = .str m) (hb : l.length + m.length ≤ 9223372036854775807) (hc : l ++ m = c) : PReader P n s o d (.str c) := by
  intro G a w h
  subst hc
  refine ⟨_, RelV.str _, fun w' => ?_⟩
  simp only [execOp, ho, h.evStr hx, h.evStr hy]
  simp [eqGuard, binOp, Op.stringOp, bytes_app, IntKind.max, IntKind.signed, IntKind.bits]
  rw [bsize, bsize]
  omega
end
section
variable {P : Program} {n : Nat} {s : St} {o : Oper} {d : Nat} {t t' : TypeId} {x y : Operand} {k k' : IntKind} {i j : Int}
theorem PReader.not {b : Bool} (ho : o.op = .unOp .not t x) (hx : s.eval x = .lit (.bool b)) : PReader P n s o d (.lit (.bool !b)) := by
  intro G a w h
  refine ⟨_, lit_toS _, fun w' => ?_⟩
  simp only [execOp, ho, h.evLit hx]
  simp [Op.unary]
end
section
variable {P : Program} {n : Nat} {s : St} {o : Oper} {d : Nat} {t t' : TypeId} {x y : Operand} {k k' : IntKind} {i j : Int}
theorem PReader.conv {c : Int} {D : TypeDesc} (ho : o.op = .convert t t' x) (h1 : P.underlying t = some D) (h2 : P.underlying t' = some (.int k')) (hD : D ≠ .unsafePointer) (hx : s.eval x = .lit (.int k i)) (hc : k'.wrap i = c) : PReader P n s o d (.lit (.int k' c)) := by
  intro G a w h
  refine ⟨_, lit_toS _, fun w' => ?_⟩
  simp only [execOp, ho, h.evLit hx]
  simp only [convert, Sem.run_bind, run_underlying h1, run_underlying h2, Result.andThen]
  cases D <;> first | exact absurd rfl hD | simp [Conv.intToInt, hc]
end
section
variable {P : Program} {n : Nat} {s : St} {o : Oper} {d : Nat} {t t' : TypeId} {x y : Operand} {k k' : IntKind} {i j : Int}
theorem PReader.pick {c : Operand} {b : Bool} {v : AV} (ho : o.op = .pick c x y) (hb : s.eval c = .lit (.bool b)) (hx : ∀ w cs, x = .const w → w = .agg cs → ∀ c ∈ cs, c.oneCell' = true) (hy : ∀ w cs, y = .const w → w = .agg cs → ∀ c ∈ cs, c.oneCell' = true) (hv : (if b then s.eval x else s.eval y).un = v) : PReader P n s o d v := by
  intro G a w h
  cases b with
  | true =>
    obtain ⟨p, hp⟩ := h.ev x hx
    simp only [if_true] at hv
    subst hv
    refine ⟨_, hp.un, fun w' => ?_⟩
    simp [execOp, ho, h.evLit hb, asBool]
  | false =>
    obtain ⟨p, hp⟩ := h.ev y hy
    simp only [Bool.false_eq_true, if_false] at hv
    subst hv
    refine ⟨_, hp.un, fun w' => ?_⟩
    simp [execOp, ho, h.evLit hb, asBool]
end
section
variable {P : Program} {n : Nat} {s : St} {o : Oper} {d : Nat} {t t' : TypeId} {x y : Operand} {k k' : IntKind} {i j : Int}
theorem PReader.byte {l : List UInt8} {m : Nat} {c : UInt8} (ho : o.op = .index t x y) (hu : P.underlying t = some .string) (hx : s.eval x = .str l) (hy : s.eval y = .lit (.int k i)) (hi : i = m) (hc : l[m]? = some c) :
    PReader P n s o d (.lit (.int .u8 c.toNat)) := by
  intro G a w h
  subst hi
  refine ⟨_, lit_toS _, fun w' => ?_⟩
  obtain ⟨hlt, hcc⟩ := List.getElem?_eq_some_iff.1 hc
  have e : (⟨l.toArray⟩ : ByteArray)[m]? = some c := by
    have hs : m < (⟨l.toArray⟩ : ByteArray).size := by rw [bsize]; exact hlt
    rw [getElem?_pos (⟨l.toArray⟩ : ByteArray) m hs]
    show some ((⟨l.toArray⟩ : ByteArray).data[m]) = _
    simp [hcc]
  simp [execOp, ho, Instr.index, asIntOf, h.evStr hx, h.evLit hy, run_underlying hu, e]
end
section
variable {P : Program} {n : Nat} {s : St} {o : Oper} {d : Nat} {t t' E : TypeId} {x y : Operand} {k : IntKind} {i : Int}
theorem PReader.elemAddr {ow : Bool} {xs : List AV} {m size : Nat} {e : AV} (ho : o.op = .indexAddr t x y) (hu : P.underlying t = some (.slice E)) (hs : SizeOf P E size) (hx : s.eval x = .list ow E xs)
    (hy : s.eval y = .lit (.int k i)) (hi : i = m) (he : xs[m]? = some e) : PReader P n s o d (.eptr e 0) := by
  intro G a w h
  obtain ⟨p, hp⟩ := h.ev x (fun v cs e1 e2 => by subst e1; subst e2; simp [St.eval, ofConst] at hx)
  rw [hx] at hp
  have hv := RelS.un (p' := p) hp
  have hm := (List.getElem?_eq_some_iff.1 he).1
  generalize hav : a.eval x = v at hv
  have hv' : RelV P G w (.list false E xs) v := hv
  cases hv' with
  | nil => simp at he
  | zero => simp at he
  | row _ _ _ b off cap size' us hs' hl hsc hcap hmax htip hc hr =>
    have hsz : size' = size := by unfold SizeOf at hs hs'; rw [hs] at hs'; exact (Option.some.inj hs').symm
    subst hsz
    refine ⟨.pointer (some ⟨b, off + m * size', none⟩), ⟨b, off + m * size', fun j => us (m * size' + j), rfl, ?_, ?_⟩, fun w' => ?_⟩
    · rw [hl e (List.mem_of_getElem? he)]
      exact elem_lt hm _ _ _ (htip (by omega))
    · intro j c hj
      have hjl := (List.getElem?_eq_some_iff.1 hj).1
      rw [hl e (List.mem_of_getElem? he)] at hjl
      refine ⟨?_, hr _ c (flat_get hl he hj)⟩
      have := elem_lt hm size' 0 _ (Nat.le_refl _)
      rw [Nat.add_assoc]
      exact hc (m * size' + j) (by omega)
    · subst hi
      simp [execOp, ho, Instr.indexAt, asIntOf, hav, h.evLit hy, run_underlying hu, run_size hs, hm, add_at]
end
section
variable {P : Program} {n : Nat} {s : St} {o : Oper} {d : Nat} {t t' E : TypeId} {x y : Operand} {k : IntKind} {i : Int}
theorem PReader.fieldE {e : AV} {kk f off size : Nat} {ft : TypeId} (ho : o.op = .fieldAddr t x f) (hf : fieldOf P t f off ft size) (h0 : size ≠ 0) (hx : s.eval x = .eptr e kk) : PReader P n s o d (.eptr e (kk + off)) := by
  intro G a w h
  obtain ⟨fs, F, hu, hF, rfl, rfl, hs⟩ := hf
  obtain ⟨p, hp⟩ := h.ev x (fun v cs e1 e2 => by subst e1; subst e2; simp [St.eval, ofConst] at hx)
  rw [hx] at hp
  obtain ⟨b, oo, us, hv, h1, h2⟩ := hp
  refine ⟨_, ⟨b, oo, us, rfl, h1, h2⟩, fun w' => ?_⟩
  simp [execOp, ho, Instr.fieldAt, Instr.sureAddr, hv, run_underlying hu, hF, fieldPlace, run_size hs, h0, add_at, Nat.add_assoc]
end
section
variable {P : Program} {n : Nat} {s : St} {o : Oper} {d : Nat} {t t' E : TypeId} {x y : Operand} {k : IntKind} {i : Int}
theorem PReader.fieldL {kk k0 f off size : Nat} {ft : TypeId} (ho : o.op = .fieldAddr t x f) (hf : fieldOf P t f off ft size) (h0 : size ≠ 0) (hx : s.eval x = .lptr kk k0) : PReader P n s o d (.lptr kk (k0 + off)) := by
  intro G a w h
  obtain ⟨fs, F, hu, hF, rfl, rfl, hs⟩ := hf
  obtain ⟨p, hp⟩ := h.ev x (fun v cs e1 e2 => by subst e1; subst e2; simp [St.eval, ofConst] at hx)
  rw [hx] at hp
  have hv : a.eval x = .pointer (some ⟨G.lb kk, k0, none⟩) := hp
  refine ⟨_, rfl, fun w' => ?_⟩
  simp [execOp, ho, Instr.fieldAt, Instr.sureAddr, hv, run_underlying hu, hF, fieldPlace, run_size hs, h0, add_at]
end
section
variable {P : Program} {n : Nat} {s : St} {o : Oper} {d : Nat} {t t' E : TypeId} {x y : Operand} {k : IntKind} {i : Int}
theorem PReader.fieldG {kk k0 f off size : Nat} {ft : TypeId} (ho : o.op = .fieldAddr t x f) (hf : fieldOf P t f off ft size) (h0 : size ≠ 0) (hx : s.eval x = .gptr kk k0) : PReader P n s o d (.gptr kk (k0 + off)) := by
  intro G a w h
  obtain ⟨fs, F, hu, hF, rfl, rfl, hs⟩ := hf
  obtain ⟨p, hp⟩ := h.ev x (fun v cs e1 e2 => by subst e1; subst e2; simp [St.eval, ofConst] at hx)
  rw [hx] at hp
  generalize hav : a.eval x = v at hp
  have hp' : RelV P G w (.gptr kk k0) v := hp
  cases hp' with
  | gptr _ _ b hb =>
    refine ⟨_, RelV.gptr kk (k0 + F.offset) b hb, fun w' => ?_⟩
    simp [execOp, ho, Instr.fieldAt, Instr.sureAddr, hav, run_underlying hu, hF, fieldPlace, run_size hs, h0, add_at]
end
section
variable {P : Program} {n : Nat} {s : St} {o : Oper} {d : Nat} {t t' E : TypeId} {x y : Operand} {k : IntKind} {i : Int}
theorem PReader.indexL {kk k0 m size len : Nat} (ho : o.op = .indexAddr t x y) (hu : P.underlying t = some (.array len E)) (hs : SizeOf P E size) (hx : s.eval x = .lptr kk k0) (hy : s.eval y = .lit (.int k i)) (hi : i = m) (hm : m < len) :
    PReader P n s o d (.lptr kk (k0 + m * size)) := by
  intro G a w h
  obtain ⟨p, hp⟩ := h.ev x (fun v cs e1 e2 => by subst e1; subst e2; simp [St.eval, ofConst] at hx)
  rw [hx] at hp
  have hv : a.eval x = .pointer (some ⟨G.lb kk, k0, none⟩) := hp
  refine ⟨_, rfl, fun w' => ?_⟩
  subst hi
  simp [execOp, ho, Instr.indexAt, Instr.sureAddr, asIntOf, hv, h.evLit hy, run_underlying hu, run_size hs, hm, add_at]
end
section
variable {P : Program} {n : Nat} {s : St} {o : Oper} {d : Nat} {t t' E : TypeId} {x y : Operand} {k : IntKind} {i : Int}
theorem PReader.field {cs : List AV} {v : AV} {f off size : Nat} {ft : TypeId} {D : TypeDesc} (ho : o.op = .field t x f) (hf : fieldOf P t f off ft size) (hu : P.underlying ft = some D) (hx : s.eval x = .agg cs) (hxc : ∃ r, x = .tmp r)
    (hv : partOf (TypeDesc.agg D) size cs off = some v) (hfl : v.un.flat = true) : PReader P n s o d v.un := by
  intro G a w h
  obtain ⟨fs, F, hut, hF, rfl, rfl, hs⟩ := hf
  obtain ⟨r, rfl⟩ := hxc
  have hp := h.slot r
  rw [show s.get r = .agg cs from hx] at hp
  generalize hav : a.tmps.getD r undef = va at hp
  have hp' : RelV P G w (.agg cs) va := hp
  cases hp' with
  | agg _ vs hl hr =>
    obtain ⟨u, hu1, hu2⟩ := run_part (t := F.type) hu hs hl hr hv
    refine ⟨u, hu1.un.toS hfl, fun w' => ?_⟩
    have hav' : a.eval (.tmp r) = .agg vs.toArray := hav
    simp [execOp, ho, Instr.field, hav', run_underlying hut, hF, asAgg, hu2 w']
end
section
variable {P : Program} {n : Nat} {s : St} {o : Oper} {d : Nat} {t t' E : TypeId} {x y : Operand} {k : IntKind} {i : Int}
theorem PReader.extract {cs : List AV} {v : AV} {r m : Nat} (ho : o.op = .extract (.tmp r) m) (hx : s.get r = .tuple cs) (hc : cs[m]? = some v) (hf : v.un.flat = true) : PReader P n s o d v.un := by
  intro G a w h
  have hp := h.slot r
  rw [hx] at hp
  obtain ⟨vs, hav, hl, hr⟩ := hp
  have hlt := (List.getElem?_eq_some_iff.1 hc).1
  have e : vs[m]? = some vs[m] := List.getElem?_eq_getElem (by omega)
  have h1 := hr m v _ hc e
  refine ⟨vs[m], ?_, fun w' => ?_⟩
  · rcases h1.toV with h2 | ⟨cs', rfl⟩
    · exact h2.toS hf
    · cases hf
  · have hav' : a.eval (.tmp r) = .tuple vs.toArray := hav
    simp [execOp, ho, Instr.extract, hav', e]
end
section
variable {P : Program} {n : Nat} {s : St} {ops : Array Oper} {o : Oper} {rest : List Oper} {Q : St → Prop} {d : Nat} {t t' tx E : TypeId} {x y : Operand} {G : Gh} {a : Act} {w : World}
theorem PReader.sub {l m : List UInt8} {lo hi : Option Operand} {i j : Nat} (ho : o.op = .slice t x lo hi none) (hu : P.underlying t = some .string) (hx : s.eval x = .str l) (h1 : bnd s lo 0 i) (h2 : bnd s hi l.length j) (hij : i ≤ j) (hj : j ≤ l.length) (hm : (l.take j).drop i = m) : PReader P n s o d (.str m) := by
  intro G a w h
  subst hm
  refine ⟨_, RelV.str _, fun w' => ?_⟩
  have hs := h.evStr hx
  have key : ∀ (b : Option Operand) (df v : Nat), bnd s b df v → (b = none ∧ v = df) ∨ ∃ x k, b = some x ∧ a.eval x = .int k v := by
    intro b df v hb
    cases b with
    | none => exact .inl ⟨rfl, hb⟩
    | some x => obtain ⟨k, i, e1, e2⟩ := hb; subst e2; exact .inr ⟨x, k, rfl, h.evLit e1⟩
  have hsz : (⟨l.toArray⟩ : ByteArray).size = l.length := rfl
  rcases key lo 0 i h1 with ⟨rfl, rfl⟩ | ⟨xl, kl, rfl, hl⟩ <;> rcases key hi l.length j h2 with ⟨rfl, rfl⟩ | ⟨xh, kh, rfl, hh⟩ <;>
    simp [execOp, Instr.sliceAt, Instr.slice, run_underlying hu, Instr.sliceBounds, Instr.sliceBound, asIntOf, *, bytes_extract]
end
section
variable {P : Program} {n : Nat} {s : St} {ops : Array Oper} {o : Oper} {rest : List Oper} {Q : St → Prop} {d : Nat} {t t' tx E : TypeId} {x y : Operand} {G : Gh} {a : Act} {w : World}
theorem PReader.piece {ow : Bool} {xs ys : List AV} {size : Nat} {lo hi : Option Operand} {i j : Nat} (ho : o.op = .slice t x lo hi none) (hu : P.underlying t = some (.slice E)) (hs : SizeOf P E size) (hx : s.eval x = .list ow E xs) (h1 : bnd s lo 0 i) (h2 : bnd s hi xs.length j) (hij : i ≤ j) (hj : j ≤ xs.length)
    (hm : (xs.take j).drop i = ys) : PReader P n s o d (.list false E ys) := by
  intro G a w h
  subst hm
  obtain ⟨p, hp⟩ := h.ev x (fun v cs e1 e2 => by subst e1; subst e2; simp [St.eval, ofConst] at hx)
  rw [hx] at hp
  have key : ∀ (b : Option Operand) (df v : Nat), bnd s b df v → (b = none ∧ v = df) ∨ ∃ x k, b = some x ∧ a.eval x = .int k v := by
    intro b df v hb
    cases b with
    | none => exact .inl ⟨rfl, hb⟩
    | some x => obtain ⟨k, i, e1, e2⟩ := hb; subst e2; exact .inr ⟨x, k, rfl, h.evLit e1⟩
  have hv := RelS.un (p' := p) hp
  generalize hav : a.eval x = v at hv
  have hv' : RelV P G w (.list false E xs) v := hv
  have hlen : ((xs.take j).drop i).length = j - i := by simp; omega
  cases hv' with
  | nil =>
    have hj0 : j = 0 := by simpa using hj
    subst hj0
    have hi0 : i = 0 := by omega
    subst hi0
    refine ⟨.slice none 0 0, RelV.nil _ _, fun w' => ?_⟩
    rcases key lo 0 0 h1 with ⟨rfl, e0⟩ | ⟨xl, kl, rfl, hl⟩
    · rcases key hi _ 0 h2 with ⟨rfl, e1⟩ | ⟨xh, kh, rfl, hh⟩
      · clear e1 e0
        simp [execOp, ho, Instr.sliceAt, Instr.slice, run_underlying hu, hav, Instr.sliceBounds, run_size hs]
      · clear e0
        simp [execOp, ho, Instr.sliceAt, Instr.slice, run_underlying hu, hav, Instr.sliceBounds, Instr.sliceBound, asIntOf, run_size hs, hh]
    · rcases key hi _ 0 h2 with ⟨rfl, e1⟩ | ⟨xh, kh, rfl, hh⟩
      · clear e1
        simp [execOp, ho, Instr.sliceAt, Instr.slice, run_underlying hu, hav, Instr.sliceBounds, Instr.sliceBound, asIntOf, run_size hs, hl]
      · simp [execOp, ho, Instr.sliceAt, Instr.slice, run_underlying hu, hav, Instr.sliceBounds, Instr.sliceBound, asIntOf, run_size hs, hl, hh]
  | zero _ b =>
    have hj0 : j = 0 := by simpa using hj
    subst hj0
    have hi0 : i = 0 := by omega
    subst hi0
    refine ⟨.slice (some b) 0 0, RelV.zero _ _, fun w' => ?_⟩
    rcases key lo 0 0 h1 with ⟨rfl, e0⟩ | ⟨xl, kl, rfl, hl⟩
    · rcases key hi _ 0 h2 with ⟨rfl, e1⟩ | ⟨xh, kh, rfl, hh⟩
      · clear e1 e0
        simp [execOp, ho, Instr.sliceAt, Instr.slice, run_underlying hu, hav, Instr.sliceBounds, run_size hs]
      · clear e0
        simp [execOp, ho, Instr.sliceAt, Instr.slice, run_underlying hu, hav, Instr.sliceBounds, Instr.sliceBound, asIntOf, run_size hs, hh]
    · rcases key hi _ 0 h2 with ⟨rfl, e1⟩ | ⟨xh, kh, rfl, hh⟩
      · clear e1
        simp [execOp, ho, Instr.sliceAt, Instr.slice, run_underlying hu, hav, Instr.sliceBounds, Instr.sliceBound, asIntOf, run_size hs, hl]
      · simp [execOp, ho, Instr.sliceAt, Instr.slice, run_underlying hu, hav, Instr.sliceBounds, Instr.sliceBound, asIntOf, run_size hs, hl, hh]
  | row _ _ _ b off cap size' us hs' hl hsc hcap hmax htip hc hr =>
    have hsz : size' = size := by unfold SizeOf at hs hs'; rw [hs] at hs'; exact (Option.some.inj hs').symm
    subst hsz
    have hrun : ∀ w' : World, (execOp a.eval o).run P w' = .ok (.value (.slice (if cap = i then some ⟨b, off, none⟩ else some ⟨b, off + i * size', none⟩) (j - i) (cap - i))) w' := by
      intro w'
      have hic : i ≤ cap := by omega
      have hjc : j ≤ cap := by omega
      rcases key lo 0 i h1 with ⟨rfl, rfl⟩ | ⟨xl, kl, rfl, hl⟩ <;> rcases key hi xs.length j h2 with ⟨rfl, rfl⟩ | ⟨xh, kh, rfl, hh⟩ <;>
        simp [execOp, Instr.sliceAt, Instr.slice, run_underlying hu, Instr.sliceBounds, Instr.sliceBound, asIntOf, run_size hs, add_at, *]
    have hlx : ∀ x ∈ (xs.take j).drop i, x.cells.length = size' := fun x hx => hl x (List.mem_of_mem_take (List.mem_of_mem_drop hx))
    have hscx : ∀ x ∈ (xs.take j).drop i, ∀ c ∈ x.cells, c.scalar = true := fun x hx => hsc x (List.mem_of_mem_take (List.mem_of_mem_drop hx))
    have hrow : ∀ off', (0 < j - i → off' = off + i * size') → RelV P G w (.list false E ((xs.take j).drop i)) (.slice (some ⟨b, off', none⟩) (j - i) (cap - i)) := by
      intro off' hoff
      have := RelV.row (P := P) (G := G) (w := w) false E ((xs.take j).drop i) b off' (cap - i) size' (fun m => us (i * size' + m)) hs hlx hscx (by rw [hlen]; omega) (by omega) (fun h0 => ?_) (fun m hm => ?_) (fun m c hm => ?_)
      · rw [hlen] at this; exact this
      · rw [hlen] at h0 ⊢
        rw [hoff h0]
        have := htip (by omega)
        have h5 : (i + (j - i)) * size' ≤ xs.length * size' := Nat.mul_le_mul_right _ (by omega)
        rw [Nat.add_mul] at h5
        omega
      · rw [hlen] at hm
        have h0 : 0 < j - i := by
          rcases Nat.eq_zero_or_pos (j - i) with h | h
          · rw [h] at hm; omega
          · exact h
        rw [hoff h0, Nat.add_assoc]
        refine hc _ ?_
        have h5 : (i + (j - i)) * size' ≤ xs.length * size' := Nat.mul_le_mul_right _ (by omega)
        rw [Nat.add_mul] at h5
        omega
      · have hml := (List.getElem?_eq_some_iff.1 hm).1
        rw [flat_len hlx, hlen] at hml
        refine hr (i * size' + m) c ?_
        have e : xs.flatMap AV.cells = (xs.take i).flatMap AV.cells ++ ((xs.take j).drop i).flatMap AV.cells ++ (xs.drop j).flatMap AV.cells := by
          rw [← List.flatMap_append, ← List.flatMap_append]
          congr 1
          rw [show (xs.take i) = (xs.take j).take i by rw [List.take_take, Nat.min_eq_left hij], List.take_append_drop, List.take_append_drop]
        have hl1 : ((xs.take i).flatMap AV.cells).length = i * size' := by
          rw [flat_len (fun x hx => hl x (List.mem_of_mem_take hx)), List.length_take, Nat.min_eq_left (by omega)]
        rw [e, List.append_assoc, List.getElem?_append_right (by omega), hl1, show i * size' + m - i * size' = m by omega, List.getElem?_append_left (by rw [flat_len hlx, hlen]; exact hml)]
        exact hm
    by_cases hci : cap = i
    · refine ⟨.slice (some ⟨b, off, none⟩) (j - i) (cap - i), hrow off (fun h => by omega), fun w' => ?_⟩
      rw [hrun w', if_pos hci]
    · refine ⟨.slice (some ⟨b, off + i * size', none⟩) (j - i) (cap - i), hrow _ (fun _ => rfl), fun w' => ?_⟩
      rw [hrun w', if_neg hci]
end
section
variable {P : Program} {n : Nat} {s : St} {ops : Array Oper} {o : Oper} {rest : List Oper} {Q : St → Prop} {d : Nat} {t t' E : TypeId} {x y : Operand} {G : Gh} {a : Act} {w : World}
theorem PReader.build {ps : Array (Nat × Operand)} {xs : List (Nat × AV)} {zs : Array Value} {Es : List TypeId} {cs : List AV} {fs : Array Field} {places : List (Nat × Nat)} (ho : o.op = .build t ps) (hu : P.underlying t = some (.struct fs)) (hp : Parts s ps xs)
    (hz : (P.info? t).map (·.zero) = some (some (.agg zs))) (hz1 : zs.toList.all (fun c => c.oneCell') = true) (hpl : ∀ w : World, (fs.mapM fun f => (do pure (f.offset, ← sizeOf f.type) : Sem (Nat × Nat))).run P w = .ok places.toArray w)
    (hf : fillA (places[·]?) (zcells zs.toList Es) xs = some cs) : PReader P n s o d (.agg cs) := by
  intro G a w hr
  obtain ⟨h1, h2⟩ := hp.rel hr
  obtain ⟨arr, hfill, hrel⟩ := fill_rel (P := P) (G := G) (w := w) (places[·]?) xs _ (zcells zs.toList Es) zs cs h1 h2 (zcells_rel _ _ (List.all_eq_true.1 hz1)) hf
  refine ⟨.agg arr, ?_, fun w' => ?_⟩
  · have := RelV.agg cs arr.toList hrel.1 hrel.2
    simp only [Array.toArray_toList] at this
    exact this
  · cases hi : P.info? t with
    | none => simp [hi] at hz
    | some i =>
      simp only [hi, Option.map_some, Option.some.injEq] at hz
      have hfill' : Instr.fill (fun i : Nat => places[i]?) zs (Array.map (fun x => (x.1, a.eval x.2)) ps).toList = some arr := hfill
      rw [Array.toList_map] at hfill'
      have hpl' : (Array.mapM (fun f : Field => Prod.mk f.offset <$> sizeOf f.type) fs).run P w' = .ok places.toArray w' := by simpa using hpl w'
      simp [execOp, ho, Instr.build, zeroValue, typeInfo, hi, hz, Value.cells, run_underlying hu, hpl', Result.andThen, hfill']
end
end
section
open Go.RowKit

def SAny (P : Program) (n : Nat) (ops : Array Oper) (Q : St → Prop) (k : Nat) (listed : Array Bool) (s : St) : Prop :=
  ∀ (G : Gh) (a : Act) (w : World) (K : Act → World → Prop), RelSt P G n s a w → Fix G w → (∀ s' G' a' w', Q s' → RelSt P G' n s' a' w' → Keep G w G' w' → K a' w') →
    wpAny P .any ops (fun e a w => e = .normal ∧ K a w) k listed a w

section
variable {P : Program} {n : Nat} {s : St} {ops : Array Oper} {Q : St → Prop} {QE : Exit → St → Prop} {k d : Nat} {listed : Array Bool} {o : Oper}

theorem SAny.done (hr : Region.ready .any ops listed = []) (h : Q s) : SAny P n ops Q k listed s :=
  fun G a w _K hrel _ hK => wpAny_done hr ⟨rfl, hK s G a w h hrel (Keep.refl _ _)⟩ k

theorem SAny.step (rs : List Nat) (hr : Region.ready .any ops listed = rs) (h0 : rs ≠ []) (h : ∀ i ∈ rs, ∃ o, ops[i]? = some o ∧ AOps P n ops [o] s fun s' => SAny P n ops Q k (listed.setIfInBounds i true) s') : SAny P n ops Q (k + 1) listed s := by
  intro G a w K hrel hfx hK
  refine wpAny_all hr h0 fun i hi => ?_
  obtain ⟨o, ho, hop⟩ := h i hi
  have := hop G a w (fun e a w => match e with | .normal => wpAny P .any ops (fun e a w => e = .normal ∧ K a w) k (listed.setIfInBounds i true) a w | e => (fun e a w => e = .normal ∧ K a w) e a w) hrel hfx
    (fun s' G' a' w' hq hr' hk' => hq G' a' w' K hr' (hfx.keep hk') fun s2 G2 a2 w2 hq2 hr2 hk2 => hK s2 G2 a2 w2 hq2 hr2 (hk'.trans hk2))
  unfold wpOp
  simp only [ho]
  simp only [wpList] at this
  split at this
  · rename_i hw
    rw [if_pos hw]
    rcases this with h1 | h1
    · left; exact upon_same (K := fun e a w => e = .normal ∧ K a w) h1
    · right; exact h1
  · rename_i hw
    rw [if_neg hw]; exact this

theorem SAny.take (i : Nat) {v : AV} (ho : ops[i]? = some o) (hs : Region.noSelect ops = true) (hf : Region.free .any ops listed i = true) (hr : (Region.ready .any ops listed).contains i = true) (hg : Wants ops s o) (hd : o.dst = some d) (hn : d < n)
    (h : PReader P n s o d v) (hk : SAny P n ops Q k (listed.setIfInBounds i true) (s.put d v)) : SAny P n ops Q (k + 1) listed s := by
  intro G a w K hrel hfx hK
  obtain ⟨u, hu, hrun⟩ := h G a w hrel
  refine wpAny_take ho hs hf hr (fun c a w h => by cases h.1) (v := u) (.inl ⟨wants_eval hrel (fun t => by omega) hg, hrun⟩) ?_
  rw [hd]
  exact hk G _ w K (hrel.put hn hu) hfx hK

theorem SAny.keep (ls ks : List Nat) (h : SAny P n ops Q k listed (s.keep ls ks)) : SAny P n ops Q k listed s := fun G a w K hrel hfx hK => h G a w K (hrel.keep ls ks) hfx hK

theorem SAny.same (ls ks : List Nat) {listed' : Array Bool} {S' : St} (h : SAny P n ops Q k listed' S') (hl : listed = listed') (hk : s.keep ls ks = S') : SAny P n ops Q k listed s := by
  subst hl; subst hk; exact SAny.keep ls ks h

/-- Both ways of a slot's truth. -/
theorem AWp.cases {c : Code} (t : Nat) {b : Bool} (hs : s.get t = .lit (.bool b)) (hT : b = true → AWp P n c (s.put t (.lit (.bool true))) QE) (hF : b = false → AWp P n c (s.put t (.lit (.bool false))) QE) : AWp P n c s QE := by
  intro G a w K hr hfx hK
  cases b with
  | true => exact hT rfl G a w K (hr.over hs rfl) hfx hK
  | false => exact hF rfl G a w K (hr.over hs rfl) hfx hK
end
section
variable {P : Program} {n : Nat} {s : St} {QE : Exit → St → Prop}
theorem AWp.mid {x y : Code} (ls ks : List Nat) (I : St → Prop) (h : AWp P n x s fun e s' => match e with | .normal => I (s'.keep ls ks) | e => QE e s') (k : ∀ s', I s' → AWp P n y s' QE) : AWp P n (.seq x y) s QE := by
  refine AWp.seq ?_
  intro G a w K hr hfx hK
  refine h G a w K hr hfx ?_
  intro e s' G' a' w' hq hr' hk
  cases e with
  | normal => exact hK .normal (s'.keep ls ks) G' a' w' (k _ hq) (hr'.keep ls ks) hk
  | _ => exact hK _ s' G' a' w' hq hr' hk
end
section
variable {P : Program} {n : Nat} {s : St} {ops : Array Oper} {rest : List Oper} {Q : St → Prop} {o : Oper} {x y : Operand} {t : TypeId}
end
end
section
open Go.RowKit
abbrev zI (x : Int) : AV := .lit (.int .i64 x)
abbrev zB (b : Bool) : AV := .lit (.bool b)
section
variable {P : Program} {n : Nat} {s : St} {ops : Array Oper} {o : Oper} {rest : List Oper} {Q : St → Prop} {QE : Exit → St → Prop} {d : Nat} {t t' E : TypeId} {x y : Operand} {k : IntKind} {i j : Int}
def ArgsL (s : St) : List Operand → List AV → Prop
  | [], [] => True
  | x :: xs, v :: vs => ArgOf s x v ∧ ArgsL s xs vs
  | _, _ => False
theorem al0 : ArgsL s [] [] := trivial
theorem al1 {xs : List Operand} {vs : List AV} {v : AV} (h : ArgsL s xs vs) (h1 : (s.eval x).un = v) (h2 : v.flat = true) : ArgsL s (x :: xs) (v :: vs) := ⟨.inl ⟨h1, h2⟩, h⟩
theorem al2 {xs : List Operand} {vs : List AV} {E : TypeId} (h : ArgsL s xs vs) : ArgsL s (.const (.slice none 0 0) :: xs) (.list false E [] :: vs) := ⟨.inr ⟨rfl, _, rfl⟩, h⟩
theorem al3 {xs : List Operand} {vs : List AV} {u v : AV} (h : ArgsL s xs vs) (h0 : s.eval x = u) (h1 : u.un = v) (h2 : v.flat = true) : ArgsL s (x :: xs) (v :: vs) := ⟨.inl ⟨by rw [h0]; exact h1, h2⟩, h⟩
theorem un_of {a u v : AV} (h : a = u) (h2 : u.un = v) : a.un = v := by rw [h]; exact h2
theorem ArgsL.len : ∀ {xs : List Operand} {vs : List AV}, ArgsL s xs vs → xs.length = vs.length
  | [], [], _ => rfl
  | _ :: _, _ :: _, h => congrArg (· + 1) (ArgsL.len h.2)
  | [], _ :: _, h => h.elim
  | _ :: _, [], h => h.elim
theorem ArgsL.at : ∀ {xs : List Operand} {vs : List AV}, ArgsL s xs vs → ∀ (j : Nat) x v, xs[j]? = some x → vs[j]? = some v → ArgOf s x v
  | _ :: _, _ :: _, h, 0, x, v, h1, h2 => by cases h1; cases h2; exact h.1
  | _ :: _, _ :: _, h, j + 1, x, v, h1, h2 => ArgsL.at h.2 j x v h1 h2
  | [], [], _, j, x, v, h1, _ => by simp at h1
  | [], _ :: _, h, _, _, _, _, _ => h.elim
  | _ :: _, [], h, _, _, _, _, _ => h.elim
def PartsL (s : St) : List (Nat × Operand) → List (Nat × AV) → Prop
  | [], [] => True
  | p :: ps, x :: xs => (p.1 = x.1 ∧ ArgOf s p.2 x.2 ∧ x.2.part = true ∧ Operand.ok p.2 = true) ∧ PartsL s ps xs
  | _, _ => False
theorem pl0 : PartsL s [] [] := trivial
theorem pl1 {ps : List (Nat × Operand)} {xs : List (Nat × AV)} {p : Nat × Operand} {q : Nat × AV} (h : PartsL s ps xs) (h0 : p.1 = q.1) (h1 : (s.eval p.2).un = q.2) (h2 : q.2.flat = true) (h3 : q.2.part = true) (h4 : Operand.ok p.2 = true) : PartsL s (p :: ps) (q :: xs) := ⟨⟨h0, .inl ⟨h1, h2⟩, h3, h4⟩, h⟩
theorem pl2 {ps : List (Nat × Operand)} {xs : List (Nat × AV)} {m : Nat} {E : TypeId} (h : PartsL s ps xs) : PartsL s ((m, .const (.slice none 0 0)) :: ps) ((m, .list false E []) :: xs) := ⟨⟨rfl, .inr ⟨rfl, _, rfl⟩, rfl, rfl⟩, h⟩
theorem pl3 {ps : List (Nat × Operand)} {xs : List (Nat × AV)} {p : Nat × Operand} {q : Nat × AV} {u : AV} (h : PartsL s ps xs) (h0 : p.1 = q.1) (hu : s.eval p.2 = u) (h1 : u.un = q.2) (h2 : q.2.flat = true) (h3 : q.2.part = true) (h4 : Operand.ok p.2 = true) : PartsL s (p :: ps) (q :: xs) := ⟨⟨h0, .inl ⟨by rw [hu]; exact h1, h2⟩, h3, h4⟩, h⟩
theorem PartsL.len : ∀ {ps : List (Nat × Operand)} {xs : List (Nat × AV)}, PartsL s ps xs → ps.length = xs.length
  | [], [], _ => rfl
  | _ :: _, _ :: _, h => congrArg (· + 1) (PartsL.len h.2)
  | [], _ :: _, h => h.elim
  | _ :: _, [], h => h.elim
theorem PartsL.at : ∀ {ps : List (Nat × Operand)} {xs : List (Nat × AV)}, PartsL s ps xs → ∀ (j : Nat) p x, ps[j]? = some p → xs[j]? = some x → p.1 = x.1 ∧ ArgOf s p.2 x.2 ∧ x.2.part = true ∧ Operand.ok p.2 = true
  | _ :: _, _ :: _, h, 0, x, v, h1, h2 => by cases h1; cases h2; exact h.1
  | _ :: _, _ :: _, h, j + 1, x, v, h1, h2 => PartsL.at h.2 j x v h1 h2
  | [], [], _, j, x, v, h1, _ => by simp at h1
  | [], _ :: _, h, _, _, _, _, _ => h.elim
  | _ :: _, [], h, _, _, _, _, _ => h.elim
theorem PartsL.of {ps : Array (Nat × Operand)} {xs : List (Nat × AV)} (h : PartsL s ps.toList xs) : Parts s ps xs := ⟨by simpa using h.len, fun j p x h1 h2 => h.at j p x (by simpa using h1) h2⟩
def ysOf : Nat → List AV → List (Nat × AV)
  | _, [] => []
  | i, x :: xs => (i, x) :: ysOf (i + 1) xs

theorem zr {v : AV} (h : Reader P n s o d v) (k : AOps P n ops rest (s.put d v) Q) (hg : Wants ops s o := by first | exact trivial | exact ⟨_, rfl, rfl⟩) (hd : o.dst = some d := by rfl) (hn : d < n := by decide) : AOps P n ops (o :: rest) s Q := AOps.read hg hd hn h k
theorem zM (v : AV) (k : AOps P n ops rest (s.put d v) Q) (ho : o.op = .move x ∨ o.op = .assign x := by first | exact .inl rfl | exact .inr rfl) (hc : Operand.ok x = true := by rfl) (hv : (s.eval x).un = v := by first | rfl | exact un_of (by assumption) rfl) (hg : Wants ops s o := by first | exact trivial | exact ⟨_, rfl, rfl⟩) (hd : o.dst = some d := by rfl) (hn : d < n := by decide) :
    AOps P n ops (o :: rest) s Q := AOps.read hg hd hn (Reader.move ho (ok_const hc) hv) k
theorem zs (k : AOps P n ops rest (s.put d (.lit undef)) Q) (hg : Skips ops s o := by exact ⟨_, _, _, _, rfl, rfl, rfl, by simp [undef]⟩) (hd : o.dst = some d := by rfl) (hn : d < n := by decide) : AOps P n ops (o :: rest) s Q := AOps.skip hg hd hn k
theorem zlG {cells : List AV} (v : AV) {k0 kk size : Nat} {D : TypeDesc} (hu : P.underlying t = some D) (hs : SizeOf P t size) (hc : s.mem k0 = some cells) (ho : o.op = .load t x := by rfl) (hx : s.eval x = .gptr k0 kk := by first | rfl | assumption)
    (hv : loaded (TypeDesc.agg D) size cells kk = some v := by rfl) (hf : v.flat = true := by rfl) (hall : cells.all AV.scalar = true := by first | rfl | (simp only [List.all_cons, List.all_nil, *]; rfl)) (hne : cells ≠ [] := by first | (intro h; cases h) | simp) : Reader P n s o d v := Reader.loadG ho hu hs hx hc hv hf hall hne
theorem zfG {kk k0 f off size : Nat} {ft : TypeId} {fs : Array Field} {F : Field} (hu : P.underlying t = some (.struct fs)) (hs : SizeOf P ft size) (ho : o.op = .fieldAddr t x f := by rfl) (hF : fs[f]? = some F := by rfl) (h1 : F.offset = off := by rfl) (h2 : F.type = ft := by rfl) (h0 : size ≠ 0 := by decide) (hx : s.eval x = .gptr kk k0 := by first | rfl | assumption) :
    Reader P n s o d (.gptr kk (k0 + off)) := Reader.fieldG ho ⟨_, _, hu, hF, h1, h2, hs⟩ h0 hx
theorem zS (l : List UInt8) {c : Call} (m : Nat) (hu : P.underlying t = some .string) (hm : l.length = m := by rfl) (ho : o.op = .call c := by rfl) (hc : c.callee = .builtin .len := by rfl) (ha : c.args = #[x] := by rfl) (ht : c.argTypes = #[t] := by rfl) (hx : s.eval x = .str l := by first | rfl | assumption) :
    Reader P n s o d (.lit (.int .i64 m)) := Reader.lenStr' ho hc ha ht hu hx hm
theorem zc {f : FuncId} {c : Call} (args : List AV) {R : AV → (Nat → Option (List AV)) → Prop} (henter : ∀ (vs : Array Value) (w : World), (callFunc f vs).run P w = .ok (.enter f vs) w) (h : ACall P f args s.mem R) (k : ∀ r M, R r M → AOps P n ops rest { (s.put d r) with mem := M } Q)
    (ho : o.op = .call c := by rfl) (hc : c.callee = .value (.func f) := by rfl) (hcon : c.args.toList.all Operand.ok = true := by rfl) (hargs : ArgsL s c.args.toList args := by repeat' first | exact al0 | refine al1 ?_ rfl rfl | refine al2 ?_ | refine al3 ?_ (by assumption) rfl rfl)
    (hg : Wants ops s o := by first | exact trivial | exact ⟨_, rfl, rfl⟩) (hd : o.dst = some d := by rfl) (hn : d < n := by decide) : AOps P n ops (o :: rest) s Q :=
  AOps.call hg hd hn ho hc henter (args_ok hcon) (by simpa using hargs.len) (fun j x v h1 h2 => hargs.at j x v (by simpa using h1) h2) h k
theorem zbS {len size : Nat} {ps : Array (Nat × Operand)} {z : Value} (Es : List TypeId) (xs : List AV) {i : TypeInfo} (hu : P.underlying t = some (.slice E)) (hi : P.info? E = some i) (k : AOps P n ops rest (s.put d (.list true E xs)) Q) (ho : o.op = .buildSlice t len ps := by rfl) (hsz : i.size = size := by rfl) (hz : i.zero = some z := by rfl) (hz1 : z.cells.toList.all (fun c => c.oneCell') = true := by rfl)
    (hpos : ¬ len * size > 2 ^ 24 ∧ ¬ len * size = 0 := by decide) (hp : PartsL s ps.toList (ysOf 0 xs) := by repeat' first | exact pl0 | refine pl1 ?_ rfl rfl rfl rfl rfl | refine pl2 ?_ | refine pl3 ?_ rfl (by assumption) rfl rfl rfl rfl) (hf : fillA (fun i => some (i * size, size)) (zcells (List.replicate len z.cells.toList).flatten Es) (ysOf 0 xs) = some (xs.flatMap AV.cells) := by rfl) (hzs : z.cells.size = size := by rfl)
    (hl : (xs.all fun x => x.cells.length == size) = true := by rfl) (hsc : (xs.all fun x => x.cells.all AV.scalar) = true := by rfl) (hlen : xs.length = len := by rfl) (hg : Wants ops s o := by first | exact trivial | exact ⟨_, rfl, rfl⟩) (hd : o.dst = some d := by rfl) (hn : d < n := by decide) : AOps P n ops (o :: rest) s Q :=
  AOps.buildSlice hg hd hn ho hu hi hsz hz hz1 hpos hp.of hf hzs rfl (all_len hl) (all_sc hsc) hlen k
theorem zg {id : Nat} {y : Code} (h : AOps P n ops ops.toList s fun s' => AWp P n y s' QE) : AWp P n (.seq (.region id ops false) y) s QE := AWp.seq (AWp.region h)
theorem zN (h : Q s) : AOps P n ops [] s Q := AOps.nil h
theorem znc (v : AV) (ho : o.op = .nilCheck x := by rfl) (hx : s.eval x = v := by first | rfl | assumption) (hv : (∃ k f, v = .lptr k f) ∨ (∃ k f, v = .gptr k f) ∨ ∃ e k, v = .eptr e k := by first | exact .inl ⟨_, _, rfl⟩ | exact .inr (.inl ⟨_, _, rfl⟩) | exact .inr (.inr ⟨_, _, rfl⟩)) : Reader P n s o d v := Reader.nilCheck ho hx hv
theorem zap {r : Nat} {tx : TypeId} (bytes : Nat) {size : Nat} {ti : TypeInfo} {z : Value} {o2 : Bool} (xs ys zs : List AV) {c : Call} {m1 m2 : Nat} (ht : P.underlying t = some (.slice E)) (htx : P.underlying tx = some (.slice E)) (hi : P.info? E = some ti) (hm1 : xs.length = m1) (hm2 : ys.length = m2) (hzz : xs ++ ys = zs)
    (k : AOps P n ops rest { s with fr := (d, .list true E zs) :: (r, .list false E xs) :: s.fr } Q) (h63 : m1 + m2 ≤ maxLen := by first | omega | (unfold maxLen; omega)) (hb : (m1 + m2) * bytes ≤ 140737488355328 := by omega)
    (ho : o.op = .call c := by rfl) (hc : c.callee = .builtin .append := by rfl) (ha : c.args = #[.tmp r, y] := by rfl) (hat : c.argTypes = #[t, tx] := by rfl) (hz : ti.zero = some z := by rfl) (hsz : ti.size = size := by rfl) (hby : ti.bytes = bytes := by rfl) (hzs : z.cells.size = size := by rfl)
    (hx : s.get r = .list true E xs := by first | rfl | assumption) (hy : s.eval y = .list o2 E ys := by first | rfl | assumption) (hg : Wants ops s o := by first | exact trivial | exact ⟨_, rfl, rfl⟩) (hd : o.dst = some d := by rfl) (hn : d < n := by decide) (hrd : r ≠ d := by decide) : AOps P n ops (o :: rest) s Q :=
  AOps.appL hg hd hn hrd ho hc ha hat ht htx hi hz hsz hby hzs hx hy hm1 hm2 h63 hb hzz k
def StepL (P : Program) (n : Nat) (ops : Array Oper) (Q : St → Prop) (k : Nat) (listed : Array Bool) (s : St) : List Nat → Prop
  | [] => True
  | i :: r => (∃ o, ops[i]? = some o ∧ AOps P n ops [o] s fun s' => SAny P n ops Q k (listed.setIfInBounds i true) s') ∧ StepL P n ops Q k listed s r
theorem StepL.all {listed : Array Bool} {kf : Nat} : ∀ {rs : List Nat}, StepL P n ops Q kf listed s rs → ∀ i ∈ rs, ∃ o, ops[i]? = some o ∧ AOps P n ops [o] s fun s' => SAny P n ops Q kf (listed.setIfInBounds i true) s'
  | [], _, i, h => by cases h
  | a :: r, h, i, hi => by
    rcases List.mem_cons.1 hi with rfl | hi
    · exact h.1
    · exact StepL.all h.2 i hi
end
end
section
open Go.RowKit

section
variable {P : Program} {n : Nat} {s0 : St} {ops : Array Oper} {Q : St → Prop} {QE : Exit → St → Prop}
def frees (l : Array Bool) : Nat := l.toList.countP (· == false)
theorem frees_set {l : Array Bool} {i : Nat} (h : l.getD i true = false) : frees (l.setIfInBounds i true) + 1 = frees l := by
  have hi : i < l.size := by
    rcases Nat.lt_or_ge i l.size with h' | h'
    · exact h'
    · simp [Array.getElem?_eq_none h'] at h
  have hv : l[i] = false := by simpa [Array.getElem?_eq_getElem hi] using h
  unfold frees
  have hl : i < l.toList.length := by simpa using hi
  have hv' : l.toList[i] = false := by simpa using hv
  have hpos : 0 < l.toList.countP (· == false) := List.countP_pos_iff.2 ⟨false, by rw [← hv']; exact List.getElem_mem hl, rfl⟩
  rw [Array.toList_setIfInBounds, List.countP_set hl, hv']
  simp only [beq_self_eq_true, if_true, show (true == false) = false from rfl, Bool.false_eq_true, if_false]
  omega
theorem frees_0 {l : Array Bool} (h : frees l = 0) (i : Nat) : l.getD i true = true := by
  rcases Nat.lt_or_ge i l.size with h' | h'
  · have := List.countP_eq_zero.1 h l[i] (by simp)
    simp [h']
    simpa using this
  · simp [Array.getElem?_eq_none h']
/-- By an invariant. -/
theorem AAny.inv (I : Array Bool → St → Prop) (hdone : ∀ listed s, I listed s → Region.ready .any ops listed = [] → Q s)
    (hstep : ∀ listed s i o, I listed s → i ∈ Region.ready .any ops listed → ops[i]? = some o → AOps P n ops [o] s fun s' => I (listed.setIfInBounds i true) s') : ∀ (k : Nat) (listed : Array Bool) (s : St), I listed s → frees listed ≤ k → AAny P n ops Q k listed s
  | 0, listed, s, h, hk => by
    have hr : Region.ready .any ops listed = [] := List.eq_nil_iff_forall_not_mem.2 fun j hj => by
      have h1 := (mem_ready.1 hj).1
      rw [frees_0 (by omega) j] at h1
      cases h1
    exact ⟨hr, hdone _ _ h hr⟩
  | k + 1, listed, s, h, hk => by
    refine ⟨fun hr => hdone _ _ h hr, fun i hi => ?_⟩
    obtain ⟨h1, o, ho, _⟩ := mem_ready.1 hi
    refine ⟨o, ho, fun G a w K hr hfx hK => hstep listed s i o h hi ho G a w K hr hfx fun s' G' a' w' hq => hK s' G' a' w' ?_⟩
    exact AAny.inv I hdone hstep k _ s' hq (by have := frees_set h1; omega)

def depB (ops : Array Oper) (i j : Nat) : Bool := match ops[i]? with | some o => o.after.any fun e => Region.binds .any e && e.on == j | none => false
/-! The plain case: nothing but slots changes. -/
def RdR (fr : List (Nat × AV)) : List (Nat × Option Nat × AV) → Prop
  | [] => True
  | p :: r => look .any fr p.1 = p.2.2 ∧ RdR fr r
theorem RdR.of {fr : List (Nat × AV)} : ∀ {r : List (Nat × Option Nat × AV)}, (∀ p ∈ r, look .any fr p.1 = p.2.2) → RdR fr r
  | [], _ => trivial
  | p :: _r, h => ⟨h p (List.mem_cons_self ..), RdR.of fun q hq => h q (List.mem_cons_of_mem _ hq)⟩
def ValR (fr : List (Nat × AV)) (ws : List (List (Nat × AV))) : List (Nat × Option Nat × AV) → Prop
  | [] => True
  | p :: r => (match p.2.1 with | none => look .any fr p.1 = p.2.2 | some j => look .any (ws.getD j []) p.1 = p.2.2) ∧ ValR fr ws r
theorem ValR.of {fr : List (Nat × AV)} {ws : List (List (Nat × AV))} : ∀ {r : List (Nat × Option Nat × AV)}, ValR fr ws r → ∀ p ∈ r, match p.2.1 with | none => look .any fr p.1 = p.2.2 | some j => look .any (ws.getD j []) p.1 = p.2.2
  | q :: r, h, p, hp => by
    rcases List.mem_cons.1 hp with rfl | hp
    · exact h.1
    · exact ValR.of h.2 p hp
def ValL (fr : List (Nat × AV)) (ws : List (List (Nat × AV))) : List (List (Nat × Option Nat × AV)) → Prop
  | [] => True
  | r :: rs => ValR fr ws r ∧ ValL fr ws rs
theorem ValL.at {fr : List (Nat × AV)} {ws : List (List (Nat × AV))} : ∀ {rs : List (List (Nat × Option Nat × AV))} (i : Nat), ValL fr ws rs → ValR fr ws (rs.getD i [])
  | [], i, _ => by simp; exact trivial
  | r :: rs, 0, h => h.1
  | r :: rs, i + 1, h => by simpa using ValL.at i h.2
def HopL (P : Program) (n : Nat) (ops : Array Oper) (s0 : St) : List Oper → List (List (Nat × AV)) → List (List (Nat × Option Nat × AV)) → Prop
  | [], [], [] => True
  | o :: os, w :: ws, r :: rs => (∀ fr, RdR fr r → AOps P n ops [o] ⟨fr, s0.loc, s0.mem⟩ fun s' => s' = ⟨w ++ fr, s0.loc, s0.mem⟩) ∧ HopL P n ops s0 os ws rs
  | _, _, _ => False
theorem HopL.len : ∀ {os : List Oper} {ws : List (List (Nat × AV))} {rs : List (List (Nat × Option Nat × AV))}, HopL P n ops s0 os ws rs → ws.length = os.length
  | [], [], [], _ => rfl
  | _ :: _, _ :: _, _ :: _, h => congrArg (· + 1) (HopL.len h.2)
  | [], [], _ :: _, h => h.elim
  | [], _ :: _, _, h => h.elim
  | _ :: _, [], _, h => h.elim
  | _ :: _, _ :: _, [], h => h.elim
theorem HopL.at : ∀ {os : List Oper} {ws : List (List (Nat × AV))} {rs : List (List (Nat × Option Nat × AV))} (i : Nat) (o : Oper), HopL P n ops s0 os ws rs → os[i]? = some o → ∀ fr, RdR fr (rs.getD i []) → AOps P n ops [o] ⟨fr, s0.loc, s0.mem⟩ fun s' => s' = ⟨ws.getD i [] ++ fr, s0.loc, s0.mem⟩
  | _ :: _, _ :: _, _ :: _, 0, o, h, ho => by cases ho; exact h.1
  | _ :: _, _ :: _, _ :: _, i + 1, o, h, ho => by simpa using HopL.at i o h.2 ho
  | [], _, _, i, o, _, ho => by simp at ho
  | _ :: _, [], _, _, _, h, _ => h.elim
  | _ :: _, _ :: _, [], _, _, h, _ => h.elim
end
end
section
open Go.RowKit

def frzV (k : Nat) (cells : List AV) : AV → AV
  | .lptr k' off => if k' = k then .eptr (.agg cells) off else .lptr k' off
  | v => v
def frzL (k : Nat) (l : List (Nat × List AV)) : List (Nat × List AV) := l.filter fun p => p.1 != k
theorem look_frz (k : Nat) (cells : List AV) : ∀ (fr : List (Nat × AV)) (i : Nat), look .any (fr.map fun p => (p.1, frzV k cells p.2)) i = frzV k cells (look .any fr i)
  | [], i => rfl
  | (j, v) :: r, i => by
    simp only [List.map_cons, look]
    split
    · rfl
    · exact look_frz k cells r i
theorem lookL_frz (k : Nat) : ∀ (l : List (Nat × List AV)) (i : Nat) (c : List AV), lookL (frzL k l) i = some c → i ≠ k ∧ lookL l i = some c
  | [], i, c, h => by cases h
  | (j, v) :: r, i, c, h => by
    unfold frzL at h
    rw [List.filter_cons] at h
    split at h
    · rename_i hj
      simp only [lookL] at h ⊢
      split at h
      · rename_i e
        subst e
        rw [if_pos rfl]
        exact ⟨by simpa using hj, h⟩
      · rename_i e
        rw [if_neg e]
        exact lookL_frz k r i c h
    · rename_i hj
      obtain ⟨h1, h2⟩ := lookL_frz k r i c h
      simp only [lookL]
      rw [if_neg (fun e => by subst e; exact hj (by simpa using h1))]
      exact ⟨h1, h2⟩
section
variable {P : Program} {n : Nat} {s : St} {ops : Array Oper} {o : Oper} {l : List Oper} {Q : St → Prop} {QE : Exit → St → Prop} {d : Nat} {t ta E : TypeId} {x : Operand}
theorem RelSt.freeze {G : Gh} {a : Act} {w : World} {k : Nat} {cells : List AV} (hr : RelSt P G n s a w) (hc : lookL s.loc k = some cells) (hfl : cells.all AV.flat = true) :
    ∃ G', RelSt P G' n ⟨s.fr.map fun p => (p.1, frzV k cells p.2), frzL k s.loc, s.mem⟩ a w ∧ Keep G w G' w := by
  obtain ⟨arr, T, hh, hsz, ho, ht, hsc, hrr⟩ := hr.loc k cells hc
  have hlt := (Array.getElem?_eq_some_iff.1 hh).1
  let G' : Gh := { G with owner := fun b => if b = G.lb k then none else G.owner b, tip := fun b => if b = G.lb k then cells.length else G.tip b }
  have st : Stab G w G' w := ⟨fun b => by
    show G.tip b ≤ if b = G.lb k then cells.length else G.tip b
    split
    · rename_i e; rw [e, ht]; exact Nat.zero_le _
    · exact Nat.le_refl _, fun _ _ _ => rfl, fun _ _ h => h⟩
  have hmv : ∀ (q : Pos) (b : Nat), q ≠ .lb k → G.owner b = some q → G'.owner b = some q ∧ w.heap[b]? = w.heap[b]? ∧ G'.tip b = G.tip b := by
    intro q b hq hb
    have hne : b ≠ G.lb k := fun e => by subst e; rw [ho] at hb; exact hq (Option.some.inj hb).symm
    exact ⟨by show (if b = G.lb k then none else G.owner b) = _; rw [if_neg hne]; exact hb, rfl, by show (if b = G.lb k then cells.length else G.tip b) = _; rw [if_neg hne]⟩
  have hfar : ∀ b, w.heap.size ≤ b → G'.tip b = 0 ∧ G'.owner b = none := fun b hb => by
    have hne : b ≠ G.lb k := by omega
    exact ⟨by show (if b = G.lb k then cells.length else G.tip b) = _; rw [if_neg hne]; exact (hr.mem.far b hb).1, by show (if b = G.lb k then none else G.owner b) = _; rw [if_neg hne]; exact (hr.mem.far b hb).2⟩
  refine ⟨G', ⟨hr.size, hr.defers, fun i => ?_, fun k1 c1 h1 => ?_, ⟨fun id c1 h1 => ?_, hfar, hr.mem.fin⟩⟩, ⟨rfl, rfl, rfl, Nat.le_refl _, fun b hb hn => ?_, st⟩⟩
  · show RelS P G' w (.slot i) (look .any (s.fr.map fun p => (p.1, frzV k cells p.2)) i) _
    rw [look_frz]
    have h0 : RelS P G' w (.slot i) (look .any s.fr i) (a.tmps.getD i undef) := (hr.slot i).move st (Nat.le_refl _) (fun _ _ _ => rfl) (fun c b _ h2 => hmv _ b (by intro h; cases h) h2)
    generalize look .any s.fr i = v at h0
    cases v with
    | lptr k' off =>
      simp only [frzV]
      split
      · rename_i e
        subst e
        have e0 : a.tmps.getD i undef = .pointer (some ⟨G.lb k', off, none⟩) := h0
        refine ⟨G.lb k', 0, fun j => arr.getD j undef, by rw [e0, Nat.zero_add], ?_, fun j c hj => ?_⟩
        · show 0 + cells.length ≤ if G.lb k' = G.lb k' then cells.length else G.tip _
          rw [if_pos rfl]; omega
        · have hj' : cells[j]? = some c := hj
          have hjl := (List.getElem?_eq_some_iff.1 hj').1
          have e : arr[j]? = some (arr.getD j undef) := by rw [Array.getD_eq_getD_getElem?, Array.getElem?_eq_getElem (by omega)]; rfl
          refine ⟨by simp only [World.cell?, hh, Option.isSome_none, Bool.false_eq_true, if_false, Nat.zero_add]; exact e, ?_⟩
          have h1 := (hrr j c _ hj' e).un (hsc c (List.mem_of_getElem? hj'))
          have hcf : c.flat = true := List.all_eq_true.1 hfl c (List.mem_of_getElem? hj')
          have : c.un = c := by
            cases c with
            | list o E xs => cases o with
              | true => cases hcf
              | false => rfl
            | tuple cs => cases hcf
            | pin x v => cases hcf
            | _ => rfl
          rw [this] at h1
          exact h1.stab st
      · exact h0
    | _ => exact h0
  · obtain ⟨hne, hl⟩ := lookL_frz k s.loc k1 c1 h1
    have h0 := hr.loc k1 c1 hl
    have hne' : Pos.lb k1 ≠ Pos.lb k := by intro h; injection h with h; exact hne h
    obtain ⟨a1, a2, a3⟩ := hmv _ _ hne' h0.own
    exact h0.move st (Nat.le_refl _) rfl (a1.trans h0.own.symm) a3 (fun c b _ h2 => hmv _ b (by intro h; cases h) h2)
  · obtain ⟨b, hb, hh1⟩ := hr.mem.obj id c1 h1
    exact ⟨b, hb, hh1.move st (Nat.le_refl _) (fun _ hw => by
      obtain ⟨a1, a2, a3⟩ := hmv _ _ (by intro h; cases h) hw
      exact ⟨rfl, a1.trans hw.symm, a3⟩) (fun c b _ h2 => hmv _ b (by intro h; cases h) h2)⟩
  · have hne : b ≠ G.lb k := fun e => by subst e; rw [ho] at hn; cases hn
    exact ⟨by show (if b = G.lb k then none else G.owner b) = _; rw [if_neg hne]; exact hn, rfl, by show (if b = G.lb k then cells.length else G.tip b) = _; rw [if_neg hne]⟩
theorem AOps.freeze {cells : List AV} (k : Nat) {s' : St} (hc : lookL s.loc k = some cells) (hfl : cells.all AV.flat = true) (hs : (⟨s.fr.map fun p => (p.1, frzV k cells p.2), frzL k s.loc, s.mem⟩ : St) = s') (h : AOps P n ops l s' Q) : AOps P n ops l s Q := by
  subst hs
  intro G a w K hr hfx hK
  obtain ⟨G', r1, r2⟩ := hr.freeze hc hfl
  exact h G' a w K r1 (hfx.keep r2) fun s2 G2 a2 w2 hq hr2 hk2 => hK s2 G2 a2 w2 hq hr2 (r2.trans hk2)
theorem AWp.freeze {c : Code} {cells : List AV} (k : Nat) {s' : St} (hc : lookL s.loc k = some cells) (hfl : cells.all AV.flat = true) (hs : (⟨s.fr.map fun p => (p.1, frzV k cells p.2), frzL k s.loc, s.mem⟩ : St) = s') (h : AWp P n c s' QE) : AWp P n c s QE := by
  subst hs
  intro G a w K hr hfx hK
  obtain ⟨G', r1, r2⟩ := hr.freeze hc hfl
  exact h G' a w K r1 (hfx.keep r2) fun e s2 G2 a2 w2 hq hr2 hk2 => hK e s2 G2 a2 w2 hq hr2 (r2.trans hk2)

theorem one_cells {xs : List AV} (h : (xs.all fun c => match c with | .agg _ => false | _ => true) = true) : ∀ c ∈ xs, c.cells = [c] := fun c hc => by
  have := List.all_eq_true.1 h c hc
  cases c <;> first | rfl | cases this
/-- All of an array, as a list. -/
theorem Reader.sliceE {e : AV} {kk m : Nat} {xs : List AV} (ho : o.op = .slice t x none none none) (hu : P.underlying t = some (.array m E)) (hs : SizeOf P E 1) (hx : s.eval x = .eptr e kk)
    (hm : m ≤ maxLen) (hxs : (e.cells.drop kk).take m = xs) (hl : xs.length = m) (hone : xs.all (fun c => c.scalar && c.flat) = true) (hcc : ∀ c ∈ xs, c.cells = [c]) : Reader P n s o d (.list false E xs) := by
  intro G a w h
  obtain ⟨p, hp⟩ := h.ev x (fun v cs e1 e2 => by subst e1; subst e2; simp [St.eval, ofConst] at hx)
  rw [hx] at hp
  obtain ⟨b, oo, us, hav, h1, h2⟩ := hp
  have hfl : xs.flatMap AV.cells = xs := by
    clear hxs hl hone
    induction xs with
    | nil => rfl
    | cons a r ih => rw [List.flatMap_cons, hcc a (List.mem_cons_self ..), ih (fun c hc => hcc c (List.mem_cons_of_mem _ hc))]; rfl
  have hk : ∀ j, j < m → e.cells[kk + j]? = xs[j]? := fun j hj => by
    rw [← hxs, List.getElem?_take_of_lt hj, List.getElem?_drop]
  have hrel : RelV P G w (.list false E xs) (.slice (some ⟨b, oo + kk, none⟩) xs.length m) := by
    refine .row false E xs b (oo + kk) m 1 (fun j => us (kk + j)) hs (fun c hc => by rw [hcc c hc]; rfl) (fun c hc c' hc' => ?_) (by omega) hm (fun h0 => ?_) (fun j hj => ?_) (fun j c hj => ?_)
    · rw [hcc c hc] at hc'
      have := List.all_eq_true.1 hone c hc
      simp only [List.mem_singleton] at hc'
      subst hc'
      simp only [Bool.and_eq_true] at this
      exact this.1
    · have hj : kk + (m - 1) < e.cells.length := by
        have e1 : xs[m - 1]? = some (xs[m - 1]'(by omega)) := List.getElem?_eq_getElem (by omega)
        rw [← hk (m - 1) (by omega)] at e1
        exact (List.getElem?_eq_some_iff.1 e1).1
      omega
    · have e1 : xs[j]? = some (xs[j]'(by omega)) := List.getElem?_eq_getElem (by omega)
      rw [← hk j (by omega)] at e1
      rw [Nat.add_assoc]
      exact (h2 (kk + j) _ e1).1
    · rw [hfl] at hj
      have hjl := (List.getElem?_eq_some_iff.1 hj).1
      rw [← hk j (by omega)] at hj
      exact (h2 (kk + j) c hj).2
  refine ⟨_, hrel, fun w' _ => ?_⟩
  simp [execOp, ho, Instr.sliceAt, Instr.sureAddr, run_underlying hu, hav, Instr.sliceBounds, run_size hs, hl, add_at, Result.andThen]
end
end
section
open Go.RowKit

section
variable {P : Program} {n : Nat} {s : St} {ops : Array Oper} {o : Oper} {rest : List Oper} {Q : St → Prop} {QE : Exit → St → Prop} {d : Nat} {t kt et E : TypeId} {x y z : Operand} {S : List (List UInt8 × AV)}
end
section
variable {P : Program} {n : Nat} {s : St} {a : Act} {w : World} {G : Gh} {E : TypeId}
/-- An object's empty list is its own. -/
theorem RelSt.objList {id j : Nat} {cells : List AV} (hr : RelSt P G n s a w) (hc : s.mem id = some cells) (hj : cells[j]? = some (.lit (.slice none 0 0))) (hsc : cells.all AV.scalar = true) : RelSt P G n { s with mem := setM s.mem id (cells.set j (.list true E [])) } a w := by
  refine ⟨hr.size, hr.defers, hr.slot, hr.loc, ⟨fun id' cs h => ?_, hr.mem.far, hr.mem.fin⟩⟩
  have h' : setM s.mem id (cells.set j (.list true E [])) id' = some cs := h
  by_cases e : id' = id
  · subst e
    rw [setM_get] at h'
    cases h'
    obtain ⟨b, hb, hX⟩ := hr.mem.obj id' cells hc
    obtain ⟨⟨arr, T, h1, h2, h3, h4, h5, h6⟩, h7⟩ := hX.cells hsc (by intro e; rw [e] at hj; simp at hj)
    refine ⟨b, hb, .inl ⟨⟨arr, T, h1, by simpa using h2, h3, h4, fun c hcm => ?_, fun k c u hk hu => ?_⟩, h7⟩⟩
    · rcases List.mem_or_eq_of_mem_set hcm with h | rfl
      · exact h5 c h
      · rfl
    · rw [List.getElem?_set] at hk
      split at hk
      · rename_i ejk
        subst ejk
        split at hk
        · cases hk
          have h8 := h6 j _ u hj hu
          have e8 : u = .slice none 0 0 := by
            have h9 : RelV P G w (.lit (.slice none 0 0)) u := h8
            cases h9; rfl
          exact .inr ⟨rfl, .inl e8⟩
        · cases hk
      · exact h6 k c u hk hu
  · rw [setM_ne e] at h'
    exact hr.mem.obj id' cs h'
end
section
variable {P : Program} {n : Nat} {s : St} {ops : Array Oper} {l : List Oper} {Q : St → Prop}
theorem AOps.objList {cells : List AV} {M' : Nat → Option (List AV)} (E : TypeId) (j : Nat) {id : Nat} (hc : s.mem id = some cells) (hj : cells[j]? = some (.lit (.slice none 0 0))) (hM : setM s.mem id (cells.set j (.list true E [])) = M') (h : AOps P n ops l { s with mem := M' } Q) (hsc : cells.all AV.scalar = true := by first | rfl | (simp only [List.all_cons, List.all_nil, *]; rfl)) : AOps P n ops l s Q := by
  subst hM
  exact fun G a w K hr hfx hK => h G a w K (hr.objList hc hj hsc) hfx hK
end
/-! A map literal in a region that draws its order. -/
section
variable {P : Program} {n : Nat} {s0 : St} {ops : Array Oper} {QE : Exit → St → Prop}
/-- Each operation of such a region: the map is made (at its place), an entry is laid in, or a slot gets its value. -/
def HopM (P : Program) (n : Nat) (ops : Array Oper) (s0 : St) (m0 : Nat) (ws : Nat → List (List (Nat × AV))) (rs : Nat → List (List (Nat × Option Nat × AV))) (ins : List (Nat × List UInt8 × AV)) (i : Nat) (o : Oper) : Prop :=
  (i = m0 ∧ ∀ fr, AOps P n ops [o] ⟨fr, s0.loc, s0.mem⟩ fun s' => ∃ id, s0.mem id = none ∧ s' = ⟨(ws id).getD i [] ++ fr, s0.loc, setM s0.mem id (mapA [])⟩) ∨
  (∃ e, (i, e) ∈ ins ∧ depB ops i m0 = true ∧ ∀ id S fr, s0.mem id = none → findS e.1 S 0 = none → RdR fr ((rs id).getD i []) → AOps P n ops [o] ⟨fr, s0.loc, setM s0.mem id (mapA S)⟩ fun s' => s' = ⟨(ws id).getD i [] ++ fr, s0.loc, setM s0.mem id (mapA (S ++ [e]))⟩) ∨
  (i ≠ m0 ∧ (∀ p ∈ ins, p.1 ≠ i) ∧ ∀ id fr mem, RdR fr ((rs id).getD i []) → AOps P n ops [o] ⟨fr, s0.loc, mem⟩ fun s' => s' = ⟨(ws id).getD i [] ++ fr, s0.loc, mem⟩)
end
section
variable {P : Program} {n : Nat} {s0 : St} {ops : Array Oper} {m0 : Nat} {ws : Nat → List (List (Nat × AV))} {rs : Nat → List (List (Nat × Option Nat × AV))} {ins : List (Nat × List UInt8 × AV)}
def HopMs (P : Program) (n : Nat) (ops : Array Oper) (s0 : St) (m0 : Nat) (ws : Nat → List (List (Nat × AV))) (rs : Nat → List (List (Nat × Option Nat × AV))) (ins : List (Nat × List UInt8 × AV)) : Nat → List Oper → Prop
  | _, [] => True
  | i, o :: os => HopM P n ops s0 m0 ws rs ins i o ∧ HopMs P n ops s0 m0 ws rs ins (i + 1) os
theorem HopMs.at : ∀ (os : List Oper) (i j m : Nat) (o : Oper), HopMs P n ops s0 m0 ws rs ins i os → os[j]? = some o → m = i + j → HopM P n ops s0 m0 ws rs ins m o
  | [], _, j, _, o, _, ho, _ => by simp at ho
  | a :: os, i, 0, m, o, h, ho, hm => by
    have e : a = o := by simpa using ho
    subst e; subst hm
    exact h.1
  | a :: os, i, j + 1, m, o, h, ho, hm => HopMs.at os (i + 1) j m o h.2 (by simpa using ho) (by omega)
end
end
section
open Go.RowKit

section
variable {P : Program} {n : Nat} {s : St} {a : Act} {w : World} {G : Gh} {E : TypeId}
def Gh.lay (G : Gh) (B : Option Nat) (q : Option Pos) : Gh := { G with owner := fun x => if B = some x then q else G.owner x }
theorem lay_ne {B : Option Nat} {q : Option Pos} {b : Nat} (h : B ≠ some b) : (G.lay B q).owner b = G.owner b := if_neg h
theorem lay_eq {B : Option Nat} {q : Option Pos} {b : Nat} (h : B = some b) : (G.lay B q).owner b = q := if_pos h
theorem RelSt.lay (hr : RelSt P G n s a w) (B : Option Nat) (q : Option Pos) (id j : Nat) (hB : ∀ b, B = some b → b < w.heap.size ∧ (G.owner b = none ∨ G.owner b = some (.mc id j))) {cells : List AV} (hX : HoldsX P (G.lay B q) w ((G.mb id).getD 0) id cells) (hid : (G.mb id).isSome = true) :
    RelSt P (G.lay B q) n { s with mem := setM s.mem id cells } a w := by
  have st : Stab G w (G.lay B q) w := ⟨fun _ => Nat.le_refl _, fun _ _ _ => rfl, fun _ _ h => h⟩
  have hno : ∀ (p : Pos) (b : Nat), p ≠ .mc id j → G.owner b = some p → B ≠ some b := fun p b hp h e => by
    rcases (hB b e).2 with h1 | h1
    · rw [h1] at h; cases h
    · rw [h1] at h; exact hp (Option.some.inj h).symm
  have mv : ∀ (p : Pos), p ≠ .mc id j → ∀ b, b < w.heap.size → G.owner b = some p → (G.lay B q).owner b = some p ∧ w.heap[b]? = w.heap[b]? ∧ (G.lay B q).tip b = G.tip b := fun p hp b _ h => ⟨(lay_ne (hno p b hp h)).trans h, rfl, rfl⟩
  refine ⟨hr.size, hr.defers, fun i => ?_, fun k c hk => ?_, ⟨fun id' cs h => ?_, fun b hb => ⟨(hr.mem.far b hb).1, ?_⟩, hr.mem.fin⟩⟩
  · exact (hr.slot i).move st (Nat.le_refl _) (fun _ _ _ => rfl) (fun c b hb h2 => mv _ (by intro h; cases h) b hb h2)
  · have h0 := hr.loc k c hk
    exact h0.move st (Nat.le_refl _) rfl (lay_ne (hno _ _ (by intro h; cases h) h0.own)) rfl (fun c b hb h2 => mv _ (by intro h; cases h) b hb h2)
  · have h' : setM s.mem id cells id' = some cs := h
    by_cases e : id' = id
    · subst e
      rw [setM_get] at h'
      cases h'
      obtain ⟨b, hb⟩ := Option.isSome_iff_exists.1 hid
      rw [hb] at hX
      exact ⟨b, hb, hX⟩
    · rw [setM_ne e] at h'
      obtain ⟨b, hb, h0⟩ := hr.mem.obj id' cs h'
      exact ⟨b, hb, h0.move st (Nat.le_refl _) (fun _ hw => ⟨rfl, lay_ne (hno _ _ (by intro h; cases h) hw), rfl⟩) (fun c b hb h2 => mv _ (by intro h; injection h with h; exact e h) b hb h2)⟩
  · rw [lay_ne (fun e => by have := (hB b e).1; omega)]; exact (hr.mem.far b hb).2
end
section
variable {P : Program} {n : Nat} {s : St} {ops : Array Oper} {l : List Oper} {Q : St → Prop} {E : TypeId}
end
end
section
open Go.RowKit

section
variable {P : Program} {n : Nat} {s : St} {w0 : World} {c : Code} {QE : Exit → St → Prop}
def ARounds (P : Program) (n : Nat) (c : Code) (QE : Exit → St → Prop) : Nat → St → Prop
  | 0, _ => False
  | k + 1, s => AWp P n c s fun e s' => match e with | .normal => ARounds P n c QE k s' | e => QE e s'
theorem AWp.round {k : Nat} (h : AWp P n c s fun e s' => match e with | .normal => ARounds P n c QE k s' | e => QE e s') : ARounds P n c QE (k + 1) s := h
theorem AWp.unroll (k : Nat) (h : ARounds P n c QE k s) : AWp P n (.loop c) s QE := by
  intro G a w K hr hfx hK
  refine wp_loop_rounds k ?_
  induction k generalizing s G a w K with
  | zero => exact h.elim
  | succ k ih =>
    refine h G a w _ hr hfx ?_
    intro e s' G' a' w' hq hr' hk
    cases e with
    | normal => exact ih hq G' a' w' K hr' (hfx.keep hk) fun e s2 G2 a2 w2 hq2 hr2 hk2 => hK e s2 G2 a2 w2 hq2 hr2 (hk.trans hk2)
    | _ => exact hK _ s' G' a' w' hq hr' hk
theorem TWp.mid {x y : Code} (ls ks : List Nat) (I : St → Prop) (h : TWp P n w0 x s fun e s' => match e with | .normal => I (s'.keep ls ks) | e => QE e s') (k : ∀ s', I s' → TWp P n w0 y s' QE) : TWp P n w0 (.seq x y) s QE := by
  refine TWp.seq ?_
  intro G a w K hr hfx hkp hK
  refine h G a w K hr hfx hkp ?_
  intro e s' G' a' w' hq hr' hf' hk
  cases e with
  | normal => exact hK .normal (s'.keep ls ks) G' a' w' (k _ hq) (hr'.keep ls ks) hf' hk
  | _ => exact hK _ s' G' a' w' hq hr' hf' hk
def TRounds (P : Program) (n : Nat) (w0 : World) (c : Code) (QE : Exit → St → Prop) : Nat → St → Prop
  | 0, _ => False
  | k + 1, s => TWp P n w0 c s fun e s' => match e with | .normal => TRounds P n w0 c QE k s' | e => QE e s'
theorem TWp.round {k : Nat} (h : TWp P n w0 c s fun e s' => match e with | .normal => TRounds P n w0 c QE k s' | e => QE e s') : TRounds P n w0 c QE (k + 1) s := h
theorem TWp.unroll (k : Nat) (h : TRounds P n w0 c QE k s) : TWp P n w0 (.loop c) s QE := by
  intro G a w K hr hfx hkp hK
  refine wp_loop_rounds k ?_
  induction k generalizing s G a w K with
  | zero => exact h.elim
  | succ k ih =>
    refine h G a w _ hr hfx hkp ?_
    intro e s' G' a' w' hq hr' hf' hk
    cases e with
    | normal => exact ih hq G' a' w' K hr' hf' hk hK
    | _ => exact hK _ s' G' a' w' hq hr' hf' hk
end

section
variable {P : Program} {G : Gh} {w w' : World}
end
section
variable {P : Program} {n : Nat} {s : St} {w0 : World} {Q : Exit → St → Prop}
end
section
variable {P : Program} {n : Nat} {s : St} {o : Oper} {d : Nat} {t E : TypeId} {x y : Operand}
/-- An element of an array by value: a struct. -/
theorem Reader.indexV {cs : List AV} {m len size : Nat} {k : IntKind} {i : Int} {v : AV} {D : TypeDesc} (ho : o.op = .index t x y) (hu : P.underlying t = some (.array len E)) (hue : P.underlying E = some D) (hs : SizeOf P E size) (hx : s.eval x = .agg cs) (hxc : ∃ r, x = .tmp r) (hy : s.eval y = .lit (.int k i)) (hi : i = m) (hm : m < len)
    (hv : partOf (TypeDesc.agg D) size cs (m * size) = some v) (hf : v.flat = true) : Reader P n s o d v := by
  intro G a w h
  obtain ⟨r, rfl⟩ := hxc
  have hp := h.slot r
  rw [show s.get r = .agg cs from hx] at hp
  generalize hav : a.tmps.getD r undef = va at hp
  have hp' : RelV P G w (.agg cs) va := hp
  cases hp' with
  | agg _ vs hl hr =>
    obtain ⟨u, hu1, hu2⟩ := run_part (P := P) hue hs hl hr hv
    refine ⟨u, hu1.toS hf, fun w' _ => ?_⟩
    have ev : a.eval (.tmp r) = .agg vs.toArray := hav
    subst hi
    simp [execOp, ho, Instr.index, asIntOf, ev, h.evLit hy, run_underlying hu, run_size hs, hm, hu2 w', Result.andThen]
/-- An array, built. -/
theorem Reader.buildA {ps : Array (Nat × Operand)} {xs : List (Nat × AV)} {zs : Array Value} {Es : List TypeId} {cs : List AV} {m size : Nat} (ho : o.op = .build t ps) (hu : P.underlying t = some (.array m E)) (hs : SizeOf P E size) (hp : Parts s ps xs)
    (hz : (P.info? t).map (·.zero) = some (some (.agg zs))) (hz1 : zs.toList.all (fun c => c.oneCell') = true)
    (hf : fillA (fun i => some (i * size, size)) (zcells zs.toList Es) xs = some cs) : Reader P n s o d (.agg cs) := by
  intro G a w hr
  obtain ⟨h1, h2⟩ := hp.rel hr
  obtain ⟨arr, hfill, hrel⟩ := fill_rel (P := P) (G := G) (w := w) (fun i => some (i * size, size)) xs _ (zcells zs.toList Es) zs cs h1 h2 (zcells_rel _ _ (List.all_eq_true.1 hz1)) hf
  refine ⟨.agg arr, ?_, fun w' _ => ?_⟩
  · have := RelV.agg cs arr.toList hrel.1 hrel.2
    simp only [Array.toArray_toList] at this
    exact this
  · cases hi : P.info? t with
    | none => simp [hi] at hz
    | some i =>
      simp only [hi, Option.map_some, Option.some.injEq] at hz
      have hfill' : Instr.fill (fun i : Nat => some (i * size, size)) zs (Array.map (fun x => (x.1, a.eval x.2)) ps).toList = some arr := hfill
      rw [Array.toList_map] at hfill'
      simp [execOp, ho, Instr.build, zeroValue, typeInfo, hi, hz, run_underlying hu, run_size hs, Value.cells, hfill', Result.andThen]
end
end
section
open Go.RowKit

def edgeB (l : List Oper) (i j : Nat) : Bool :=
  match l[i]? with
  | some o => o.after.any fun e => Region.binds .any e && e.on == j
  | none => false
def clo (l : List Oper) (n : Nat) : Nat → List Nat → List Nat
  | 0, s => s
  | k + 1, s => clo l n k ((List.range n).filter fun j => s.contains j || s.any fun i => edgeB l i j)
/-- What is up when the store comes. -/
def aheadL (l : List Oper) (n : Nat) : List Nat := clo l n n ((List.range n).filter (edgeB l n))

def regOp (o : Oper) : Bool := match o.op with
  | .move _ | .assign _ | .pick .. | .unOp .not _ _ => true
  | _ => false

def storeB (l : List Oper) (n : Nat) : Bool :=
  match l[n]? with
  | some o => (match o.op with | .store .. => true | _ => false) && o.guard.isNone && o.dst.isNone && (o.after.all fun e => !Region.binds .any e || decide (e.on < n)) &&
      ((o.looksAt l.toArray).all fun t => (List.range n).all fun j => ((l[j]?).bind (·.dst)) != some t || (aheadL l n).contains j)
  | none => false

def regT (l : List Oper) (n : Nat) : Bool :=
  decide (n < l.length) && ((List.range n).all (headB l.toArray l n)) && storeB l n &&
  ((List.range n).all fun i => (aheadL l n).contains i || (match l[i]? with | some o => regOp o | none => false)) &&
  ((List.range (l.length - (n + 1))).all fun k => tailB l (n + 1) (n + 1 + k)) &&
  Region.seqB .any l.toArray (l.length - (n + 1)) (n + 1) (List.replicate (n + 1) true ++ List.replicate (l.length - (n + 1)) false).toArray

theorem clo_sub {l : List Oper} {n : Nat} {p : Nat → Prop} (hp : ∀ i j, p i → edgeB l i j = true → p j) : ∀ (k : Nat) (s : List Nat), (∀ i ∈ s, p i) → ∀ i ∈ clo l n k s, p i
  | 0, s, h, i, hi => h i hi
  | k + 1, s, h, i, hi => by
    refine clo_sub hp k _ (fun j hj => ?_) i hi
    have h2 := (List.mem_filter.1 hj).2
    simp only [Bool.or_eq_true, List.contains_iff_mem, List.any_eq_true] at h2
    rcases h2 with h2 | ⟨x, hx, he⟩
    · exact h j h2
    · exact hp x j (h x hx) he

theorem reg_run {P : Program} {o : Oper} {a : Act} {W : World} {v : Value} (hr : regOp o = true) (h : atE P o a W v) (w : World) : (execOp a.eval o).run P w = .ok (.value v) w := by
  have h0 := h ⟨W, Below.refl _ _⟩
  unfold regOp at hr
  cases ho : o.op with
  | move x =>
    simp only [execOp, ho] at h0 ⊢
    obtain ⟨_, h2⟩ := h0
    rw [← h2]; rfl
  | assign x =>
    simp only [execOp, ho] at h0 ⊢
    obtain ⟨_, h2⟩ := h0
    rw [← h2]; rfl
  | pick c x y =>
    simp only [execOp, ho] at h0 ⊢
    cases hc : a.eval c with
    | bool b =>
      simp only [hc] at h0 ⊢
      obtain ⟨_, h2⟩ := h0
      rw [← h2]; rfl
    | _ => simp only [hc] at h0; exact h0.elim
  | unOp k t x =>
    cases k with
    | not =>
      simp only [execOp, ho] at h0 ⊢
      cases hc : a.eval x with
      | bool b =>
        simp only [hc] at h0 ⊢
        obtain ⟨_, h2⟩ := h0
        rw [← h2]; rfl
      | _ => simp only [hc] at h0; exact h0.elim
    | _ => rw [ho] at hr; cases hr
  | _ => rw [ho] at hr; cases hr

theorem wpOp_reg {P : Program} {ops : Array Oper} {Q : Exit → Act → World → Prop} {W : World} {i : Nat} {o : Oper} {v : Value} {a : Act} {w : World} {K : Act → World → Prop}
    (ho : ops[i]? = some o) (hr : regOp o = true) (hy : YE P ops W o v a) (hK : K (a.put o.dst v) w) : wpOp P ops Q i K a w := by
  unfold wpOp
  simp only [ho]
  rcases hy with ⟨h1, h2⟩ | ⟨h1, h2⟩
  · simp only [h1, if_true]
    left
    unfold Oper.wp
    rw [reg_run hr h2 w]
    exact hK
  · simp only [h1, Bool.false_eq_true, if_false]
    subst h2
    exact hK

structure InvT (P : Program) (l : List Oper) (n : Nat) (Q : Exit → Act → World → Prop) (W : World) (a0 F : Act) (listed : Array Bool) (a : Act) (w : World) : Prop where
  lsize : listed.size = l.length
  defers : a.defers = a0.defers
  size : a.tmps.size = a0.tmps.size
  tail : ∀ i, n < i → i < l.length → listed.getD i false = false
  base : ∀ t, (∀ i o, i < n → l[i]? = some o → listed.getD i false = true → o.dst ≠ some t) → a.tmps[t]? = a0.tmps[t]?
  head : ∀ i o d, i < n → l[i]? = some o → o.dst = some d → listed.getD i false = true → a.tmps[d]? = F.tmps[d]?
  closed : ∀ i j, listed.getD i false = true → edgeB l i j = true → listed.getD j false = true
  pre : listed.getD n false = false → Below W.heap.size W w
  post : listed.getD n false = true → wpList P l.toArray Q (l.drop (n + 1)) F w

set_option maxHeartbeats 1000000 in
theorem any_of_invT {P : Program} {l : List Oper} {n : Nat} {W : World} {a0 F : Act} {Q : Exit → Act → World → Prop} {T : Oper} (hTn : l[n]? = some T)
    (hB : regT l n = true)
    (hF1 : F.defers = a0.defers)
    (hF3 : ∀ t, (∀ j o, 0 ≤ j → j < 0 + n → l[j]? = some o → o.dst ≠ some t) → F.tmps[t]? = a0.tmps[t]?)
    (hF4 : ∀ j o d, 0 ≤ j → j < 0 + n → l[j]? = some o → o.dst = some d → ∃ v, YE P l.toArray W o v F ∧ F.tmps[d]? = (a0.tmps[d]?).map fun _ => v)
    (hT : ∀ x : Ext W, ∃ w', (execOp F.eval T).run P x.val = .ok .skip w' ∧ wpList P l.toArray Q (l.drop (n + 1)) F w') :
    ∀ (fuel : Nat) (listed : Array Bool) (a : Act) (w : World), InvT P l n Q W a0 F listed a w → cnt listed.toList = fuel →
      wpAny P .any l.toArray Q fuel listed a w := by
  simp only [regT, Bool.and_eq_true, decide_eq_true_eq] at hB
  obtain ⟨⟨⟨⟨⟨hlen, hBh⟩, hBs⟩, hBr⟩, hBt⟩, hseq⟩ := hB
  have hBh' : ∀ i, i < n → headB l.toArray l n i = true := fun i hi => List.all_eq_true.1 hBh i (List.mem_range.2 hi)
  have hBt' : ∀ i, n + 1 ≤ i → i < l.length → tailB l (n + 1) i = true := fun i h1 h2 => by
    have := List.all_eq_true.1 hBt (i - (n + 1)) (List.mem_range.2 (by omega))
    rwa [show n + 1 + (i - (n + 1)) = i by omega] at this
  simp only [storeB, hTn, Bool.and_eq_true] at hBs
  obtain ⟨⟨⟨⟨hTop, hTg⟩, hTd⟩, hTe⟩, hTl⟩ := hBs
  have hTe' := all_edges hTe
  have hTd' : T.dst = none := by simpa using hTd
  have hTg' : T.guard = none := by simpa using hTg
  have apart : ∀ i j o o' d, i < n → j < n → i ≠ j → l[i]? = some o → l[j]? = some o' → o.dst = some d → o'.dst ≠ some d := by
    intro i j o o' d hi hj hne h1 h2 h3 h4
    have := hBh' i hi
    simp only [headB, h1, Bool.and_eq_true] at this
    have := List.all_eq_true.1 this.1.2 j (List.mem_range.2 hj)
    simp only [Bool.or_eq_true, beq_iff_eq, bne_iff_ne, ne_eq, h2, Option.bind_some, h4, h3, not_true_eq_false, or_false] at this
    exact hne this.symm
  have edges : ∀ i o, i < n → l[i]? = some o → ∀ e ∈ o.after, Region.binds .any e = true → e.on < i := by
    intro i o hi h1
    have := hBh' i hi
    simp only [headB, h1, Bool.and_eq_true] at this
    exact all_edges this.1.1.1.2
  have ahead : ∀ (listed : Array Bool), (∀ i j, listed.getD i false = true → edgeB l i j = true → listed.getD j false = true) → (∀ j, edgeB l n j = true → listed.getD j false = true) →
      ∀ i ∈ aheadL l n, listed.getD i false = true := fun listed h1 h2 =>
    clo_sub h1 n _ fun i hi => h2 i (List.mem_filter.1 hi).2
  have agree : ∀ (listed : Array Bool) (a : Act) (w : World), InvT P l n Q W a0 F listed a w → ∀ t, (∀ j o, j < n → l[j]? = some o → o.dst = some t → listed.getD j false = true) → a.tmps[t]? = F.tmps[t]? := by
    intro listed a w inv t ht
    by_cases hw : ∃ j o', j < n ∧ l[j]? = some o' ∧ o'.dst = some t
    · obtain ⟨j, o', hj, ho, hd⟩ := hw
      exact inv.head j o' t hj ho hd (ht j o' hj ho hd)
    · rw [hF3 t fun j o' _ hj h1 h2 => hw ⟨j, o', by omega, h1, h2⟩]
      exact inv.base t fun j o' hj h1 _ h2 => hw ⟨j, o', hj, h1, h2⟩
  have done : ∀ (fuel : Nat) (listed : Array Bool) (a : Act) (w : World), InvT P l n Q W a0 F listed a w → cnt listed.toList = fuel →
      (∀ i, i < n + 1 → listed.getD i false = true) → wpAny P .any l.toArray Q fuel listed a w := by
    intro fuel listed a w inv hc hall
    have hlist : listed.toList = List.replicate (n + 1) true ++ List.replicate (l.length - (n + 1)) false := by
      apply List.ext_getElem?
      intro i
      by_cases h1 : i < n + 1
      · rw [getElem?_of_getD (by rw [inv.lsize]; omega) (hall i h1), List.getElem?_append_left (by simp; omega)]
        simp [h1]
      · by_cases h2 : i < l.length
        · rw [getElem?_of_getD (by rw [inv.lsize]; exact h2) (inv.tail i (by omega) h2), List.getElem?_append_right (by simp; omega), List.length_replicate, List.getElem?_replicate, if_pos (by omega)]
        · rw [List.getElem?_eq_none (by simp [inv.lsize]; omega), List.getElem?_eq_none (by simp; omega)]
    have hlist' : listed = (List.replicate (n + 1) true ++ List.replicate (l.length - (n + 1)) false).toArray := by
      rw [← hlist]
    have hfuel : fuel = (l.drop (n + 1)).length := by
      rw [← hc, hlist, cnt_app, cnt_true, cnt_false]; simp
    subst hfuel
    have hframe : a = F := by
      have e1 : a.tmps = F.tmps := by
        apply Array.ext_getElem?
        intro t
        exact agree listed a w inv t fun j _ hj _ _ => hall j (by omega)
      have e2 : a.defers = F.defers := by rw [hF1, inv.defers]
      cases a; cases F; simp only at e1 e2; rw [e1, e2]
    rw [hframe]
    exact wpAny_of_seq (l.drop (n + 1)) (n + 1) listed _ w (fun j => by simp) (by rw [hlist']; simpa using hseq) (inv.post (hall n (by omega)))
  intro fuel
  induction fuel with
  | zero =>
    intro listed a w inv hc
    have hz := cnt_zero _ hc
    refine done 0 listed a w inv hc fun i hi => ?_
    cases hb : listed.getD i false with
    | true => rfl
    | false => exact (hz i (getElem?_of_getD (by rw [inv.lsize]; omega) hb)).elim
  | succ fuel ih =>
    intro listed a w inv hc
    by_cases hall : ∀ i, i < n + 1 → listed.getD i false = true
    · exact done _ listed a w inv hc hall
    · have hex : ∃ j, j < n + 1 ∧ listed.getD j false = false := Decidable.byContradiction fun hne => hall fun i hi => by
        cases hb : listed.getD i false with
        | true => rfl
        | false => exact (hne ⟨i, hi, hb⟩).elim
      obtain ⟨j0, hj0, hj1, hj2⟩ := least_false _ _ hex
      refine ⟨fun h0 => ?_, fun i hi => ?_⟩
      · obtain ⟨o, ho⟩ : ∃ o, l[j0]? = some o := ⟨l[j0]'(by omega), by simp⟩
        have he : ∀ e ∈ o.after, Region.binds .any e = true → e.on < j0 := by
          by_cases hjn : j0 < n
          · exact edges j0 o hjn ho
          · have : j0 = n := by omega
            subst this
            rw [hTn] at ho; cases ho
            exact hTe'
        have : j0 ∈ Region.ready .any l.toArray listed := mem_ready.2 ⟨getD_ft (by rw [inv.lsize]; omega) hj1, o, by simpa using ho, fun e he' hb => hj2 _ (he e he' hb)⟩
        rw [h0] at this; cases this
      · obtain ⟨hi1, o, ho, hdeps⟩ := mem_ready.1 hi
        obtain ⟨hisz, hi1'⟩ := getD_tf hi1
        have ho' : l[i]? = some o := by simpa using ho
        rw [inv.lsize] at hisz
        have hip : i < n + 1 := by
          rcases Nat.lt_or_ge i (n + 1) with h | h
          · exact h
          · have ht := hBt' i h hisz
            simp only [tailB, ho'] at ht
            obtain ⟨e, he, hb, hon⟩ := any_edge (List.all_eq_true.1 ht j0 (List.mem_range.2 hj0))
            have := hdeps e he hb
            rw [hon, hj1] at this
            cases this
        have hcnt : cnt (listed.setIfInBounds i true).toList = fuel := by
          have := cnt_set listed.toList i (getElem?_of_getD (by rw [inv.lsize]; exact hisz) hi1')
          simp only [Array.toList_setIfInBounds]
          omega
        have old : ∀ j, j ≠ i → (listed.setIfInBounds i true).getD j false = listed.getD j false := fun j hj => getD_set_ne false (Ne.symm hj)
        have new : (listed.setIfInBounds i true).getD i false = true := getD_set_self (by rw [inv.lsize]; exact hisz)
        have up : ∀ j, listed.getD j false = true → (listed.setIfInBounds i true).getD j false = true := fun j hj => by
          by_cases e : j = i
          · rw [e]; exact new
          · rw [old j e]; exact hj
        have hclosed : ∀ p j, (listed.setIfInBounds i true).getD p false = true → edgeB l p j = true → (listed.setIfInBounds i true).getD j false = true := by
          intro p j hp he
          by_cases e : p = i
          · subst e
            simp only [edgeB, ho'] at he
            obtain ⟨e', h1, h2, h3⟩ := any_edge he
            rw [← h3]; exact up _ (hdeps e' h1 h2)
          · rw [old p e] at hp
            exact up _ (inv.closed p j hp he)
        by_cases hin : i < n
        · have hBi := hBh' i hin
          simp only [headB, ho', Bool.and_eq_true] at hBi
          obtain ⟨⟨⟨⟨hsel, _⟩, hd⟩, _⟩, hlook⟩ := hBi
          obtain ⟨d, hd⟩ := Option.isSome_iff_exists.1 hd
          obtain ⟨v, hy, hFd⟩ := hF4 i o d (Nat.zero_le _) (by omega) ho' hd
          have hya : YE P l.toArray W o v a := hy.congr (notSel hsel) fun t ht => by
            have hlt := List.all_eq_true.1 hlook t ht
            refine agree listed a w inv t fun j o' hj ho'' hd' => ?_
            have := List.all_eq_true.1 hlt j (List.mem_range.2 hj)
            simp only [Bool.or_eq_true, bne_iff_ne, ne_eq, ho'', Option.bind_some, hd', not_true_eq_false, Bool.and_eq_true, decide_eq_true_eq, false_or] at this
            obtain ⟨e, he, hb, hon⟩ := any_edge this.2
            have hl := hdeps e he hb
            rw [hon] at hl
            exact hl
          have next : ∀ w', (listed.getD n false = false → Below W.heap.size W w') → (listed.getD n false = true → wpList P l.toArray Q (l.drop (n + 1)) F w') →
              InvT P l n Q W a0 F (listed.setIfInBounds i true) (a.put o.dst v) w' := by
            intro w' hpre hpost
            refine ⟨by simp [inv.lsize], by rw [put_defs, inv.defers], by rw [put_size, inv.size], ?_, ?_, ?_, hclosed, ?_, ?_⟩
            · intro k h1 h2
              rw [old k (by omega)]
              exact inv.tail k h1 h2
            · intro t ht
              rw [hd, put_ne]
              · refine inv.base t fun k o' hk h1 h2 h3 => ?_
                by_cases hki : k = i
                · subst hki
                  rw [hi1'] at h2; cases h2
                · exact ht k o' hk h1 (by rw [old k hki]; exact h2) h3
              · intro e; subst e
                exact ht i o (by omega) ho' new hd
            · intro k o' d' hk h1 h2 h3
              by_cases hki : k = i
              · subst hki
                rw [ho'] at h1; cases h1
                rw [hd] at h2; cases h2
                have hsame : (a.tmps[d]?).map (fun _ => v) = (a0.tmps[d]?).map (fun _ => v) := by
                  by_cases hz : d < a.tmps.size
                  · have hz' : d < a0.tmps.size := by rw [← inv.size]; exact hz
                    simp [hz, hz']
                  · have hz' : ¬ d < a0.tmps.size := by rw [← inv.size]; exact hz
                    simp [hz, hz']
                rw [hd, put_at, hFd, hsame]
              · rw [hd, put_ne _ _ _ _ (fun e => apart i k o o' d (by omega) (by omega) (Ne.symm hki) ho' h1 hd (by rw [h2, e]))]
                exact inv.head k o' d' hk h1 h2 (by rw [← old k hki]; exact h3)
            · intro h; rw [old n (by omega)] at h; exact hpre h
            · intro h; rw [old n (by omega)] at h; exact hpost h
          cases hn : listed.getD n false with
          | false =>
            refine wpOp_of_YE ho (inv.pre hn) hya fun w' hbw => ih _ _ _ (next w' (fun _ => (inv.pre hn).trans (hbw.mono (inv.pre hn).size)) fun h => ?_) hcnt
            rw [hn] at h; cases h
          | true =>
            have hfree : regOp o = true := by
              have := List.all_eq_true.1 hBr i (List.mem_range.2 hin)
              simp only [ho', Bool.or_eq_true] at this
              rcases this with h | h
              · have := ahead listed inv.closed (fun j he => inv.closed n j hn he) i (by simpa using h)
                rw [hi1'] at this; cases this
              · exact h
            exact wpOp_reg ho hfree hya (ih _ _ _ (next w (fun h => (by rw [hn] at h; cases h)) fun _ => inv.post hn) hcnt)
        · have hii : i = n := by omega
          subst hii
          rw [hTn] at ho'; cases ho'
          obtain ⟨w', hrun, hrest⟩ := hT ⟨w, inv.pre hi1'⟩
          have hah := ahead listed inv.closed (fun j he => by
            simp only [edgeB, hTn] at he
            obtain ⟨e', h1, h2, h3⟩ := any_edge he
            rw [← h3]; exact hdeps e' h1 h2)
          have hex : execOp a.eval T = execOp F.eval T := execOp_congr T (fun cs b e => by rw [e] at hTop; cases hTop) fun x hx => by
            cases x with
            | tmp t =>
              have hlt := List.all_eq_true.1 hTl t (List.mem_append_left _ (List.mem_filterMap.2 ⟨.tmp t, by simpa using hx, rfl⟩))
              have := agree listed a w inv t fun j o' hj ho'' hd' => by
                have := List.all_eq_true.1 hlt j (List.mem_range.2 hj)
                simp only [Bool.or_eq_true, bne_iff_ne, ne_eq, ho'', Option.bind_some, hd', not_true_eq_false, false_or] at this
                exact hah j (by simpa using this)
              simp only [Act.eval, Array.getD_eq_getD_getElem?, this]
            | _ => rfl
          unfold wpOp
          simp only [ho, Region.wanted, hTg', if_true]
          left
          unfold Oper.wp
          rw [hex, hrun]
          show wpAny P .any l.toArray Q fuel _ (a.put T.dst undef) w'
          rw [hTd']
          refine ih _ _ _ ?_ hcnt
          refine ⟨by simp [inv.lsize], inv.defers, inv.size, ?_, ?_, ?_, hclosed, ?_, fun _ => hrest⟩
          · intro k h1 h2
            rw [old k (by omega)]
            exact inv.tail k h1 h2
          · intro t ht
            exact inv.base t fun k o' hk h1 h2 h3 => ht k o' hk h1 (up k h2) h3
          · intro k o' d' hk h1 h2 h3
            exact inv.head k o' d' hk h1 h2 (by rw [← old k (by omega)]; exact h3)
          · intro h; rw [new] at h; cases h

/-- The region, with a store at n. -/
theorem wp_region_T {P : Program} {id : Nat} {Q : Exit → Act → World → Prop} {a : Act} {w : World} {l : List Oper} (n : Nat) (T : Oper) (hTn : l[n]? = some T) (hm : P.follows .mixedOrders = true) (hB : regT l n = true)
    (h : wpE P l.toArray w (fun F => ∀ x : Ext w, ∃ w', (execOp F.eval T).run P x.val = .ok .skip w' ∧ wpList P l.toArray Q (l.drop (n + 1)) F w') (l.take n) a) : (Code.region id l.toArray true).wp P Q a w := by
  refine wp_region_any hm ?_
  have hB' := hB
  simp only [regT, Bool.and_eq_true, decide_eq_true_eq] at hB'
  obtain ⟨⟨⟨⟨⟨hlen, hBh⟩, _⟩, _⟩, _⟩, _⟩ := hB'
  have hl : (l.take n).length = n := by simp; omega
  obtain ⟨F, hK, h1, h2, h3, h4⟩ := head_frame l n (l.take n) 0 a
    (fun j hj => by rw [hl] at hj; simp [hj])
    (fun j hj => by rw [hl] at hj; simpa using List.all_eq_true.1 hBh j (List.mem_range.2 hj)) (by omega) h
  rw [hl] at h3 h4
  refine any_of_invT (n := n) (W := w) (a0 := a) (F := F) hTn hB h1 h3 h4 hK _ _ _ _ ?_ ?_
  · have hr : ∀ i, (Array.replicate l.toArray.size false).getD i false = false := fun i => by
      rw [Array.getD_eq_getD_getElem?, Array.getElem?_replicate]; split <;> rfl
    refine ⟨by simp, rfl, rfl, fun i _ _ => hr i, fun t _ => rfl, ?_, ?_, fun _ => world_drawn w, ?_⟩
    · intro i o d _ _ _ hx; rw [hr] at hx; cases hx
    · intro i j hx; rw [hr] at hx; cases hx
    · intro hx; rw [hr] at hx; cases hx
  · simp [cnt_false]
end
section
open Go.RowKit

def bldB (l : List Oper) (n : Nat) : Bool :=
  match l[n]? with
  | some o => (match o.op with | .buildSlice .. => true | _ => false) && o.guard.isNone && o.dst.isSome && (o.after.all fun e => !Region.binds .any e || decide (e.on < n)) &&
      ((o.looksAt l.toArray).all fun t => (List.range n).all fun j => ((l[j]?).bind (·.dst)) != some t || (aheadL l n).contains j) &&
      ((o.looksAt l.toArray).all fun t => o.dst != some t) && ((List.range n).all fun j => match l[j]? with | some p => p.dst != o.dst && (p.looksAt l.toArray).all fun t => o.dst != some t | none => false)
  | none => false
def tailC (l : List Oper) (p i : Nat) : Bool :=
  (List.range p).all fun j => (clo l p p ((List.range p).filter (edgeB l i))).contains j

def regX (l : List Oper) (n : Nat) : Bool :=
  decide (n < l.length) && ((List.range n).all (headB l.toArray l n)) && bldB l n &&
  ((List.range (l.length - (n + 1))).all fun k => tailC l (n + 1) (n + 1 + k)) &&
  Region.seqB .any l.toArray (l.length - (n + 1)) (n + 1) (List.replicate (n + 1) true ++ List.replicate (l.length - (n + 1)) false).toArray

structure InvX (P : Program) (l : List Oper) (n : Nat) (Q : Exit → Act → World → Prop) (W : World) (a0 F : Act) (listed : Array Bool) (a : Act) (w : World) : Prop where
  lsize : listed.size = l.length
  defers : a.defers = a0.defers
  size : a.tmps.size = a0.tmps.size
  tail : ∀ i, n < i → i < l.length → listed.getD i false = false
  base : ∀ t, (∀ i o, i < n + 1 → l[i]? = some o → listed.getD i false = true → o.dst ≠ some t) → a.tmps[t]? = a0.tmps[t]?
  head : ∀ i o d, i < n → l[i]? = some o → o.dst = some d → listed.getD i false = true → a.tmps[d]? = F.tmps[d]?
  closed : ∀ i j, listed.getD i false = true → edgeB l i j = true → listed.getD j false = true
  below : Below W.heap.size W w
  post : ∀ T d, l[n]? = some T → T.dst = some d → listed.getD n false = true → ∃ u w1, Below w1.heap.size w1 w ∧ a.tmps[d]? = (a0.tmps[d]?).map (fun _ => u) ∧ ∀ y : Ext w1, wpList P l.toArray Q (l.drop (n + 1)) (F.put (some d) u) y.val

set_option maxHeartbeats 1000000 in
theorem any_of_invX {P : Program} {l : List Oper} {n : Nat} {W : World} {a0 F : Act} {Q : Exit → Act → World → Prop} {T : Oper} (hTn : l[n]? = some T)
    (hB : regX l n = true)
    (hF1 : F.defers = a0.defers)
    (hF3 : ∀ t, (∀ j o, 0 ≤ j → j < 0 + n → l[j]? = some o → o.dst ≠ some t) → F.tmps[t]? = a0.tmps[t]?)
    (hF4 : ∀ j o d, 0 ≤ j → j < 0 + n → l[j]? = some o → o.dst = some d → ∃ v, YE P l.toArray W o v F ∧ F.tmps[d]? = (a0.tmps[d]?).map fun _ => v)
    (hT : ∀ x : Ext W, ∃ u w', (execOp F.eval T).run P x.val = .ok (.value u) w' ∧ Below x.val.heap.size x.val w' ∧ ∀ y : Ext w', wpList P l.toArray Q (l.drop (n + 1)) (F.put T.dst u) y.val) :
    ∀ (fuel : Nat) (listed : Array Bool) (a : Act) (w : World), InvX P l n Q W a0 F listed a w → cnt listed.toList = fuel →
      wpAny P .any l.toArray Q fuel listed a w := by
  simp only [regX, Bool.and_eq_true, decide_eq_true_eq] at hB
  obtain ⟨⟨⟨⟨hlen, hBh⟩, hBs⟩, hBt⟩, hseq⟩ := hB
  have hBh' : ∀ i, i < n → headB l.toArray l n i = true := fun i hi => List.all_eq_true.1 hBh i (List.mem_range.2 hi)
  have hBt' : ∀ i, n + 1 ≤ i → i < l.length → tailC l (n + 1) i = true := fun i h1 h2 => by
    have := List.all_eq_true.1 hBt (i - (n + 1)) (List.mem_range.2 (by omega))
    rwa [show n + 1 + (i - (n + 1)) = i by omega] at this
  simp only [bldB, hTn, Bool.and_eq_true] at hBs
  obtain ⟨⟨⟨⟨⟨⟨hTop, hTg⟩, hTd⟩, hTe⟩, hTl⟩, hTs⟩, hTo⟩ := hBs
  have hTe' := all_edges hTe
  obtain ⟨dT, hTd'⟩ := Option.isSome_iff_exists.1 hTd
  have hne : ∀ j o, j < n → l[j]? = some o → o.dst ≠ some dT := by
    intro j o hj ho hd
    have := List.all_eq_true.1 hTo j (List.mem_range.2 hj)
    simp only [ho, Bool.and_eq_true, bne_iff_ne, ne_eq] at this
    exact this.1 (by rw [hd, hTd'])
  have hTself : ∀ t ∈ T.looksAt l.toArray, t ≠ dT := by
    intro t ht e
    have := List.all_eq_true.1 hTs t ht
    rw [hTd', e] at this
    simp at this
  have hnl : ∀ j o, j < n → l[j]? = some o → ∀ t ∈ o.looksAt l.toArray, t ≠ dT := by
    intro j o hj ho t ht e
    have := List.all_eq_true.1 hTo j (List.mem_range.2 hj)
    simp only [ho, Bool.and_eq_true] at this
    have := List.all_eq_true.1 this.2 t ht
    rw [hTd', e] at this
    simp at this
  have hTg' : T.guard = none := by simpa using hTg
  have apart : ∀ i j o o' d, i < n → j < n → i ≠ j → l[i]? = some o → l[j]? = some o' → o.dst = some d → o'.dst ≠ some d := by
    intro i j o o' d hi hj hne h1 h2 h3 h4
    have := hBh' i hi
    simp only [headB, h1, Bool.and_eq_true] at this
    have := List.all_eq_true.1 this.1.2 j (List.mem_range.2 hj)
    simp only [Bool.or_eq_true, beq_iff_eq, bne_iff_ne, ne_eq, h2, Option.bind_some, h4, h3, not_true_eq_false, or_false] at this
    exact hne this.symm
  have edges : ∀ i o, i < n → l[i]? = some o → ∀ e ∈ o.after, Region.binds .any e = true → e.on < i := by
    intro i o hi h1
    have := hBh' i hi
    simp only [headB, h1, Bool.and_eq_true] at this
    exact all_edges this.1.1.1.2
  have ahead : ∀ (listed : Array Bool), (∀ i j, listed.getD i false = true → edgeB l i j = true → listed.getD j false = true) → (∀ j, edgeB l n j = true → listed.getD j false = true) →
      ∀ i ∈ aheadL l n, listed.getD i false = true := fun listed h1 h2 =>
    clo_sub h1 n _ fun i hi => h2 i (List.mem_filter.1 hi).2
  have agree : ∀ (listed : Array Bool) (a : Act) (w : World), InvX P l n Q W a0 F listed a w → ∀ t, t ≠ dT → (∀ j o, j < n → l[j]? = some o → o.dst = some t → listed.getD j false = true) → a.tmps[t]? = F.tmps[t]? := by
    intro listed a w inv t htd ht
    by_cases hw : ∃ j o', j < n ∧ l[j]? = some o' ∧ o'.dst = some t
    · obtain ⟨j, o', hj, ho, hd⟩ := hw
      exact inv.head j o' t hj ho hd (ht j o' hj ho hd)
    · rw [hF3 t fun j o' _ hj h1 h2 => hw ⟨j, o', by omega, h1, h2⟩]
      refine inv.base t fun j o' hj h1 _ h2 => ?_
      by_cases hjn : j < n
      · exact hw ⟨j, o', hjn, h1, h2⟩
      · have : j = n := by omega
        subst this
        rw [hTn] at h1; cases h1
        rw [hTd'] at h2; cases h2
        exact htd rfl
  have done : ∀ (fuel : Nat) (listed : Array Bool) (a : Act) (w : World), InvX P l n Q W a0 F listed a w → cnt listed.toList = fuel →
      (∀ i, i < n + 1 → listed.getD i false = true) → wpAny P .any l.toArray Q fuel listed a w := by
    intro fuel listed a w inv hc hall
    have hlist : listed.toList = List.replicate (n + 1) true ++ List.replicate (l.length - (n + 1)) false := by
      apply List.ext_getElem?
      intro i
      by_cases h1 : i < n + 1
      · rw [getElem?_of_getD (by rw [inv.lsize]; omega) (hall i h1), List.getElem?_append_left (by simp; omega)]
        simp [h1]
      · by_cases h2 : i < l.length
        · rw [getElem?_of_getD (by rw [inv.lsize]; exact h2) (inv.tail i (by omega) h2), List.getElem?_append_right (by simp; omega), List.length_replicate, List.getElem?_replicate, if_pos (by omega)]
        · rw [List.getElem?_eq_none (by simp [inv.lsize]; omega), List.getElem?_eq_none (by simp; omega)]
    have hlist' : listed = (List.replicate (n + 1) true ++ List.replicate (l.length - (n + 1)) false).toArray := by
      rw [← hlist]
    have hfuel : fuel = (l.drop (n + 1)).length := by
      rw [← hc, hlist, cnt_app, cnt_true, cnt_false]; simp
    subst hfuel
    obtain ⟨u, w1, hb1, hd1, hy1⟩ := inv.post T dT hTn hTd' (hall n (by omega))
    have hframe : a = F.put (some dT) u := by
      have e1 : a.tmps = (F.put (some dT) u).tmps := by
        apply Array.ext_getElem?
        intro t
        by_cases ht : t = dT
        · subst ht
          rw [hd1, put_at, hF3 t fun j o _ hj ho => hne j o (by omega) ho]
        · rw [put_ne _ _ _ _ (Ne.symm ht)]
          exact agree listed a w inv t ht fun j _ hj _ _ => hall j (by omega)
      have e2 : a.defers = (F.put (some dT) u).defers := by rw [put_defs, hF1, inv.defers]
      generalize F.put (some dT) u = G at e1 e2
      cases a; cases G; simp only at e1 e2; rw [e1, e2]
    rw [hframe]
    exact wpAny_of_seq (l.drop (n + 1)) (n + 1) listed _ w (fun j => by simp) (by rw [hlist']; simpa using hseq) (hy1 ⟨w, hb1⟩)
  intro fuel
  induction fuel with
  | zero =>
    intro listed a w inv hc
    have hz := cnt_zero _ hc
    refine done 0 listed a w inv hc fun i hi => ?_
    cases hb : listed.getD i false with
    | true => rfl
    | false => exact (hz i (getElem?_of_getD (by rw [inv.lsize]; omega) hb)).elim
  | succ fuel ih =>
    intro listed a w inv hc
    by_cases hall : ∀ i, i < n + 1 → listed.getD i false = true
    · exact done _ listed a w inv hc hall
    · have hex : ∃ j, j < n + 1 ∧ listed.getD j false = false := Decidable.byContradiction fun hne => hall fun i hi => by
        cases hb : listed.getD i false with
        | true => rfl
        | false => exact (hne ⟨i, hi, hb⟩).elim
      obtain ⟨j0, hj0, hj1, hj2⟩ := least_false _ _ hex
      refine ⟨fun h0 => ?_, fun i hi => ?_⟩
      · obtain ⟨o, ho⟩ : ∃ o, l[j0]? = some o := ⟨l[j0]'(by omega), by simp⟩
        have he : ∀ e ∈ o.after, Region.binds .any e = true → e.on < j0 := by
          by_cases hjn : j0 < n
          · exact edges j0 o hjn ho
          · have : j0 = n := by omega
            subst this
            rw [hTn] at ho; cases ho
            exact hTe'
        have : j0 ∈ Region.ready .any l.toArray listed := mem_ready.2 ⟨getD_ft (by rw [inv.lsize]; omega) hj1, o, by simpa using ho, fun e he' hb => hj2 _ (he e he' hb)⟩
        rw [h0] at this; cases this
      · obtain ⟨hi1, o, ho, hdeps⟩ := mem_ready.1 hi
        obtain ⟨hisz, hi1'⟩ := getD_tf hi1
        have ho' : l[i]? = some o := by simpa using ho
        rw [inv.lsize] at hisz
        have hip : i < n + 1 := by
          rcases Nat.lt_or_ge i (n + 1) with h | h
          · exact h
          · have ht := hBt' i h hisz
            have hm : j0 ∈ clo l (n + 1) (n + 1) ((List.range (n + 1)).filter (edgeB l i)) := by simpa using List.all_eq_true.1 ht j0 (List.mem_range.2 hj0)
            have := clo_sub (p := fun j => listed.getD j false = true) inv.closed (n + 1) _ (fun j hj => by
              have he := (List.mem_filter.1 hj).2
              simp only [edgeB, ho'] at he
              obtain ⟨e', h1, h2, h3⟩ := any_edge he
              rw [← h3]; exact hdeps e' h1 h2) j0 hm
            rw [hj1] at this
            cases this
        have hcnt : cnt (listed.setIfInBounds i true).toList = fuel := by
          have := cnt_set listed.toList i (getElem?_of_getD (by rw [inv.lsize]; exact hisz) hi1')
          simp only [Array.toList_setIfInBounds]
          omega
        have old : ∀ j, j ≠ i → (listed.setIfInBounds i true).getD j false = listed.getD j false := fun j hj => getD_set_ne false (Ne.symm hj)
        have new : (listed.setIfInBounds i true).getD i false = true := getD_set_self (by rw [inv.lsize]; exact hisz)
        have up : ∀ j, listed.getD j false = true → (listed.setIfInBounds i true).getD j false = true := fun j hj => by
          by_cases e : j = i
          · rw [e]; exact new
          · rw [old j e]; exact hj
        have hclosed : ∀ p j, (listed.setIfInBounds i true).getD p false = true → edgeB l p j = true → (listed.setIfInBounds i true).getD j false = true := by
          intro p j hp he
          by_cases e : p = i
          · subst e
            simp only [edgeB, ho'] at he
            obtain ⟨e', h1, h2, h3⟩ := any_edge he
            rw [← h3]; exact up _ (hdeps e' h1 h2)
          · rw [old p e] at hp
            exact up _ (inv.closed p j hp he)
        by_cases hin : i < n
        · have hBi := hBh' i hin
          simp only [headB, ho', Bool.and_eq_true] at hBi
          obtain ⟨⟨⟨⟨hsel, _⟩, hd⟩, _⟩, hlook⟩ := hBi
          obtain ⟨d, hd⟩ := Option.isSome_iff_exists.1 hd
          obtain ⟨v, hy, hFd⟩ := hF4 i o d (Nat.zero_le _) (by omega) ho' hd
          have hya : YE P l.toArray W o v a := hy.congr (notSel hsel) fun t ht => by
            have hlt := List.all_eq_true.1 hlook t ht
            refine agree listed a w inv t (hnl i o hin ho' t ht) fun j o' hj ho'' hd' => ?_
            have := List.all_eq_true.1 hlt j (List.mem_range.2 hj)
            simp only [Bool.or_eq_true, bne_iff_ne, ne_eq, ho'', Option.bind_some, hd', not_true_eq_false, Bool.and_eq_true, decide_eq_true_eq, false_or] at this
            obtain ⟨e, he, hb, hon⟩ := any_edge this.2
            have hl := hdeps e he hb
            rw [hon] at hl
            exact hl
          have next : ∀ w', Below w.heap.size w w' → InvX P l n Q W a0 F (listed.setIfInBounds i true) (a.put o.dst v) w' := by
            intro w' hbw
            refine ⟨by simp [inv.lsize], by rw [put_defs, inv.defers], by rw [put_size, inv.size], ?_, ?_, ?_, hclosed, ?_, ?_⟩
            · intro k h1 h2
              rw [old k (by omega)]
              exact inv.tail k h1 h2
            · intro t ht
              rw [hd, put_ne]
              · refine inv.base t fun k o' hk h1 h2 h3 => ?_
                by_cases hki : k = i
                · subst hki
                  rw [hi1'] at h2; cases h2
                · exact ht k o' hk h1 (by rw [old k hki]; exact h2) h3
              · intro e; subst e
                exact ht i o (by omega) ho' new hd
            · intro k o' d' hk h1 h2 h3
              by_cases hki : k = i
              · subst hki
                rw [ho'] at h1; cases h1
                rw [hd] at h2; cases h2
                have hsame : (a.tmps[d]?).map (fun _ => v) = (a0.tmps[d]?).map (fun _ => v) := by
                  by_cases hz : d < a.tmps.size
                  · have hz' : d < a0.tmps.size := by rw [← inv.size]; exact hz
                    simp [hz, hz']
                  · have hz' : ¬ d < a0.tmps.size := by rw [← inv.size]; exact hz
                    simp [hz, hz']
                rw [hd, put_at, hFd, hsame]
              · rw [hd, put_ne _ _ _ _ (fun e => apart i k o o' d (by omega) (by omega) (Ne.symm hki) ho' h1 hd (by rw [h2, e]))]
                exact inv.head k o' d' hk h1 h2 (by rw [← old k hki]; exact h3)
            · exact inv.below.trans (hbw.mono inv.below.size)
            · intro T' d' h1 h2 h3
              rw [old n (by omega)] at h3
              obtain ⟨u, w1, g1, g2, g3⟩ := inv.post T' d' h1 h2 h3
              refine ⟨u, w1, g1.trans (hbw.mono g1.size), ?_, g3⟩
              rw [hTn] at h1; cases h1
              rw [hTd'] at h2; cases h2
              rw [hd, put_ne _ _ _ _ (fun e => hne i o hin ho' (by rw [hd, e]))]
              exact g2
          exact wpOp_of_YE ho inv.below hya fun w' hbw => ih _ _ _ (next w' hbw) hcnt
        · have hii : i = n := by omega
          subst hii
          rw [hTn] at ho'; cases ho'
          obtain ⟨u, w', hrun, hbw, hrest⟩ := hT ⟨w, inv.below⟩
          have hah := ahead listed inv.closed (fun j he => by
            simp only [edgeB, hTn] at he
            obtain ⟨e', h1, h2, h3⟩ := any_edge he
            rw [← h3]; exact hdeps e' h1 h2)
          have hex : execOp a.eval T = execOp F.eval T := execOp_congr T (fun cs b e => by rw [e] at hTop; cases hTop) fun x hx => by
            cases x with
            | tmp t =>
              have hlt := List.all_eq_true.1 hTl t (List.mem_append_left _ (List.mem_filterMap.2 ⟨.tmp t, by simpa using hx, rfl⟩))
              have htd : t ≠ dT := hTself t (List.mem_append_left _ (List.mem_filterMap.2 ⟨.tmp t, by simpa using hx, rfl⟩))
              have := agree listed a w inv t htd fun j o' hj ho'' hd' => by
                have := List.all_eq_true.1 hlt j (List.mem_range.2 hj)
                simp only [Bool.or_eq_true, bne_iff_ne, ne_eq, ho'', Option.bind_some, hd', not_true_eq_false, false_or] at this
                exact hah j (by simpa using this)
              simp only [Act.eval, Array.getD_eq_getD_getElem?, this]
            | _ => rfl
          unfold wpOp
          simp only [ho, Region.wanted, hTg', if_true]
          left
          unfold Oper.wp
          rw [hex, hrun]
          show wpAny P .any l.toArray Q fuel _ (a.put T.dst u) w'
          refine ih _ _ _ ?_ hcnt
          refine ⟨by simp [inv.lsize], by rw [put_defs, inv.defers], by rw [put_size, inv.size], ?_, ?_, ?_, hclosed, inv.below.trans (hbw.mono inv.below.size), ?_⟩
          · intro k h1 h2
            rw [old k (by omega)]
            exact inv.tail k h1 h2
          · intro t ht
            have htd : dT ≠ t := fun e => ht i T (by omega) hTn new (by rw [hTd', e])
            rw [hTd', put_ne _ _ _ _ htd]
            exact inv.base t fun k o' hk h1 h2 h3 => ht k o' hk h1 (up k h2) h3
          · intro k o' d' hk h1 h2 h3
            rw [hTd', put_ne _ _ _ _ (fun e => hne k o' hk h1 (by rw [h2, e]))]
            exact inv.head k o' d' hk h1 h2 (by rw [← old k (by omega)]; exact h3)
          · intro T' d' h1 h2 _
            rw [hTn] at h1; cases h1
            rw [hTd'] at h2; cases h2
            refine ⟨u, w', Below.refl _ _, ?_, ?_⟩
            · have hsame : (a.tmps[dT]?).map (fun _ => u) = (a0.tmps[dT]?).map (fun _ => u) := by
                by_cases hz : dT < a.tmps.size
                · have hz' : dT < a0.tmps.size := by rw [← inv.size]; exact hz
                  simp [hz, hz']
                · have hz' : ¬ dT < a0.tmps.size := by rw [← inv.size]; exact hz
                  simp [hz, hz']
              rw [hTd', put_at, hsame]
            · rw [hTd'] at hrest; exact hrest

/-- The region, with an allocation at n. -/
theorem wp_region_X {P : Program} {id : Nat} {Q : Exit → Act → World → Prop} {a : Act} {w : World} {l : List Oper} (n : Nat) (T : Oper) (hTn : l[n]? = some T) (hm : P.follows .mixedOrders = true) (hB : regX l n = true)
    (h : wpE P l.toArray w (fun F => ∀ x : Ext w, ∃ u w', (execOp F.eval T).run P x.val = .ok (.value u) w' ∧ Below x.val.heap.size x.val w' ∧ ∀ y : Ext w', wpList P l.toArray Q (l.drop (n + 1)) (F.put T.dst u) y.val) (l.take n) a) : (Code.region id l.toArray true).wp P Q a w := by
  refine wp_region_any hm ?_
  have hB' := hB
  simp only [regX, Bool.and_eq_true, decide_eq_true_eq] at hB'
  obtain ⟨⟨⟨⟨hlen, hBh⟩, _⟩, _⟩, _⟩ := hB'
  have hl : (l.take n).length = n := by simp; omega
  obtain ⟨F, hK, h1, h2, h3, h4⟩ := head_frame l n (l.take n) 0 a
    (fun j hj => by rw [hl] at hj; simp [hj])
    (fun j hj => by rw [hl] at hj; simpa using List.all_eq_true.1 hBh j (List.mem_range.2 hj)) (by omega) h
  rw [hl] at h3 h4
  refine any_of_invX (n := n) (W := w) (a0 := a) (F := F) hTn hB h1 h3 h4 hK _ _ _ _ ?_ ?_
  · have hr : ∀ i, (Array.replicate l.toArray.size false).getD i false = false := fun i => by
      rw [Array.getD_eq_getD_getElem?, Array.getElem?_replicate]; split <;> rfl
    refine ⟨by simp, rfl, rfl, fun i _ _ => hr i, fun t _ => rfl, ?_, ?_, world_drawn w, ?_⟩
    · intro i o d _ _ _ hx; rw [hr] at hx; cases hx
    · intro i j hx; rw [hr] at hx; cases hx
    · intro _ _ _ _ hx; rw [hr] at hx; cases hx
  · simp [cnt_false]
end
end Go.Proofs.YtgphopeclplahaaGreatDoor
