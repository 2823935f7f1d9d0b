/- Made by pure.py: rules for operations that no world hangs on. -/
import Derived.Test.YtfnbfkgknfagmaaAvAny
namespace Go.Proofs.Ytfnbfkgknfagmaa
open Go.RowKit

/-- It yields one value, whatever the world. -/
def PReader (P : Program) (n : Nat) (s : St) (o : Oper) (d : Nat) (v : AV) : Prop :=
  ∀ (G : Gh) (a : Act) (w : World), RelSt P G n s a w → ∃ u, RelS P G w (.slot d) v u ∧ ∀ w', (execOp a.eval o).run P w' = .ok (.value u) w'

section
variable {P : Program} {n : Nat} {s : St} {o : Oper} {d : Nat} {t t' : TypeId} {x y : Operand} {k k' : IntKind} {i j : Int}
theorem PReader.move (ho : o.op = .move x ∨ o.op = .assign x) (hc : ∀ v cs, x = .const v → v = .agg cs → ∀ c ∈ cs, c.oneCell' = true) {v : AV} (hv : (s.eval x).un = v) : PReader P n s o d v := by
  intro G a w hr
  obtain ⟨p, hp⟩ := hr.ev x hc
  subst hv
  refine ⟨_, hp.un, fun w' => ?_⟩
  rcases ho with ho | ho <;> simp [execOp, ho]
end
section
variable {P : Program} {n : Nat} {s : St} {o : Oper} {d : Nat} {t t' : TypeId} {x y : Operand} {k k' : IntKind} {i j : Int}
theorem PReader.int {op : BinOp} (ho : o.op = .binOp op t x y t') (hx : s.eval x = .lit (.int k i)) (hy : s.eval y = .lit (.int k j)) {r : Value} (hr : intBin op k i j = some r) : PReader P n s o d (.lit r) := by
  intro G a w h
  refine ⟨_, lit_toS r, fun w' => ?_⟩
  have h1 := h.evLit hx
  have h2 := h.evLit hy
  simp only [execOp, ho, h1, h2]
  unfold intBin at hr
  split at hr <;> first | (cases hr; done) | (cases hr; simp [eqGuard, binOp, Op.intArith, Op.intCmp, Op.intBits])
end
section
variable {P : Program} {n : Nat} {s : St} {o : Oper} {d : Nat} {t t' : TypeId} {x y : Operand} {k k' : IntKind} {i j : Int}
theorem PReader.sum {op : BinOp} (ho : o.op = .binOp op t x y t') (hx : s.eval x = .lit (.int k i)) (hy : s.eval y = .lit (.int k j)) {m c : Int} (hr : intBin op k i j = some (.int k (k.wrap m))) (hc : k.wrap m = c) : PReader P n s o d (.lit (.int k c)) := by
  subst hc
  exact PReader.int ho hx hy hr
end
section
variable {P : Program} {n : Nat} {s : St} {o : Oper} {d : Nat} {t t' : TypeId} {x y : Operand} {k k' : IntKind} {i j : Int}
theorem PReader.quo (ho : o.op = .binOp .quo t x y t') (hx : s.eval x = .lit (.int k i)) (hy : s.eval y = .lit (.int k j)) (hj : j ≠ 0) {c : Int} (hc : k.wrap (i.tdiv j) = c) : PReader P n s o d (.lit (.int k c)) := by
  intro G a w h
  refine ⟨_, lit_toS _, fun w' => ?_⟩
  simp only [execOp, ho, h.evLit hx, h.evLit hy]
  simp [eqGuard, binOp, Op.intDiv, hj, hc]
end
section
variable {P : Program} {n : Nat} {s : St} {o : Oper} {d : Nat} {t t' : TypeId} {x y : Operand} {k k' : IntKind} {i j : Int}
theorem PReader.rem (ho : o.op = .binOp .rem t x y t') (hx : s.eval x = .lit (.int k i)) (hy : s.eval y = .lit (.int k j)) (hj : j ≠ 0) {c : Int} (hc : i.tmod j = c) : PReader P n s o d (.lit (.int k c)) := by
  intro G a w h
  refine ⟨_, lit_toS _, fun w' => ?_⟩
  simp only [execOp, ho, h.evLit hx, h.evLit hy]
  simp [eqGuard, binOp, Op.intDiv, hj, hc]
end
section
variable {P : Program} {n : Nat} {s : St} {o : Oper} {d : Nat} {t t' : TypeId} {x y : Operand} {k k' : IntKind} {i j : Int}
theorem PReader.bools {op : BinOp} {a b r : Bool} (ho : o.op = .binOp op t x y t') (hu : P.underlying t = some .bool) (hx : s.eval x = .lit (.bool a)) (hy : s.eval y = .lit (.bool b)) (hr : (op = .eql ∧ r = (a == b)) ∨ (op = .neq ∧ r = !(a == b))) : PReader P n s o d (.lit (.bool r)) := by
  intro G ac w h
  refine ⟨_, lit_toS _, fun w' => ?_⟩
  simp only [execOp, ho, h.evLit hx, h.evLit hy]
  rcases hr with ⟨rfl, rfl⟩ | ⟨rfl, rfl⟩
  · have e1 : (eqGuard .eql t x y (.bool a) (.bool b)).run P w' = .ok () w' := by simp [eqGuard]
    have e2 : (binOp .eql t (.bool a) (.bool b)).run P w' = .ok (.bool (a == b)) w' := by
      simp only [binOp, Op.equal, Op.maxDepth]
      simp [run_equalIn_bool 9999 hu]
    simp [e1, e2, Result.andThen]
  · have e1 : (eqGuard .neq t x y (.bool a) (.bool b)).run P w' = .ok () w' := by simp [eqGuard]
    have e2 : (binOp .neq t (.bool a) (.bool b)).run P w' = .ok (.bool (!(a == b))) w' := by
      simp only [binOp, Op.equal, Op.maxDepth]
      simp [run_equalIn_bool 9999 hu]
    simp [e1, e2, Result.andThen]
end
section
variable {P : Program} {n : Nat} {s : St} {o : Oper} {d : Nat} {t t' : TypeId} {x y : Operand} {k k' : IntKind} {i j : Int}
theorem PReader.strs {op : BinOp} {l m : List UInt8} {r : Bool} (ho : o.op = .binOp op t x y t') (hx : s.eval x = .str l) (hy : s.eval y = .str m) (hr : strBin op l m = some r) : PReader P n s o d (.lit (.bool r)) := by
  intro G a w h
  refine ⟨_, lit_toS _, fun w' => ?_⟩
  simp only [execOp, ho, h.evStr hx, h.evStr hy]
  unfold strBin at hr
  split at hr <;> first | (cases hr; done) | (cases hr; simp [eqGuard, binOp, Op.stringOp])
end
section
variable {P : Program} {n : Nat} {s : St} {o : Oper} {d : Nat} {t t' : TypeId} {x y : Operand} {k k' : IntKind} {i j : Int}
theorem PReader.cat {l m c : List UInt8} (ho : o.op = .binOp .add t x y t') (hx : s.eval x = .str l) (hy : s.eval y = .str m) (hb : l.length + m.length ≤ 9223372036854775807) (hc : l ++ m = c) : PReader P n s o d (.str c) := by
  intro G a w h
  subst hc
  refine ⟨_, RelV.str _, fun w' => ?_⟩
  simp only [execOp, ho, h.evStr hx, h.evStr hy]
  simp [eqGuard, binOp, Op.stringOp, bytes_app, IntKind.max, IntKind.signed, IntKind.bits]
  rw [bsize, bsize]
  omega
end
section
variable {P : Program} {n : Nat} {s : St} {o : Oper} {d : Nat} {t t' : TypeId} {x y : Operand} {k k' : IntKind} {i j : Int}
theorem PReader.not {b : Bool} (ho : o.op = .unOp .not t x) (hx : s.eval x = .lit (.bool b)) : PReader P n s o d (.lit (.bool !b)) := by
  intro G a w h
  refine ⟨_, lit_toS _, fun w' => ?_⟩
  simp only [execOp, ho, h.evLit hx]
  simp [Op.unary]
end
section
variable {P : Program} {n : Nat} {s : St} {o : Oper} {d : Nat} {t t' : TypeId} {x y : Operand} {k k' : IntKind} {i j : Int}
theorem PReader.conv {c : Int} {D : TypeDesc} (ho : o.op = .convert t t' x) (h1 : P.underlying t = some D) (h2 : P.underlying t' = some (.int k')) (hD : D ≠ .unsafePointer) (hx : s.eval x = .lit (.int k i)) (hc : k'.wrap i = c) : PReader P n s o d (.lit (.int k' c)) := by
  intro G a w h
  refine ⟨_, lit_toS _, fun w' => ?_⟩
  simp only [execOp, ho, h.evLit hx]
  simp only [convert, Sem.run_bind, run_underlying h1, run_underlying h2, Result.andThen]
  cases D <;> first | exact absurd rfl hD | simp [Conv.intToInt, hc]
end
section
variable {P : Program} {n : Nat} {s : St} {o : Oper} {d : Nat} {t t' : TypeId} {x y : Operand} {k k' : IntKind} {i j : Int}
theorem PReader.pick {c : Operand} {b : Bool} {v : AV} (ho : o.op = .pick c x y) (hb : s.eval c = .lit (.bool b)) (hx : ∀ w cs, x = .const w → w = .agg cs → ∀ c ∈ cs, c.oneCell' = true) (hy : ∀ w cs, y = .const w → w = .agg cs → ∀ c ∈ cs, c.oneCell' = true) (hv : (if b then s.eval x else s.eval y).un = v) : PReader P n s o d v := by
  intro G a w h
  cases b with
  | true =>
    obtain ⟨p, hp⟩ := h.ev x hx
    simp only [if_true] at hv
    subst hv
    refine ⟨_, hp.un, fun w' => ?_⟩
    simp [execOp, ho, h.evLit hb, asBool]
  | false =>
    obtain ⟨p, hp⟩ := h.ev y hy
    simp only [Bool.false_eq_true, if_false] at hv
    subst hv
    refine ⟨_, hp.un, fun w' => ?_⟩
    simp [execOp, ho, h.evLit hb, asBool]
end
section
variable {P : Program} {n : Nat} {s : St} {o : Oper} {d : Nat} {t t' : TypeId} {x y : Operand} {k k' : IntKind} {i j : Int}
theorem PReader.byte {l : List UInt8} {m : Nat} {c : UInt8} (ho : o.op = .index t x y) (hu : P.underlying t = some .string) (hx : s.eval x = .str l) (hy : s.eval y = .lit (.int k i)) (hi : i = m) (hc : l[m]? = some c) :
    PReader P n s o d (.lit (.int .u8 c.toNat)) := by
  intro G a w h
  subst hi
  refine ⟨_, lit_toS _, fun w' => ?_⟩
  obtain ⟨hlt, hcc⟩ := List.getElem?_eq_some_iff.1 hc
  have e : (⟨l.toArray⟩ : ByteArray)[m]? = some c := by
    have hs : m < (⟨l.toArray⟩ : ByteArray).size := by rw [bsize]; exact hlt
    rw [getElem?_pos (⟨l.toArray⟩ : ByteArray) m hs]
    show some ((⟨l.toArray⟩ : ByteArray).data[m]) = _
    simp [hcc]
  simp [execOp, ho, Instr.index, asIntOf, h.evStr hx, h.evLit hy, run_underlying hu, e]
end
section
variable {P : Program} {n : Nat} {s : St} {o : Oper} {d : Nat} {t t' E : TypeId} {x y : Operand} {k : IntKind} {i : Int}
theorem PReader.elemAddr {ow : Bool} {xs : List AV} {m size : Nat} {e : AV} (ho : o.op = .indexAddr t x y) (hu : P.underlying t = some (.slice E)) (hs : SizeOf P E size) (hx : s.eval x = .list ow E xs)
    (hy : s.eval y = .lit (.int k i)) (hi : i = m) (he : xs[m]? = some e) : PReader P n s o d (.eptr e 0) := by
  intro G a w h
  obtain ⟨p, hp⟩ := h.ev x (fun v cs e1 e2 => by subst e1; subst e2; simp [St.eval, ofConst] at hx)
  rw [hx] at hp
  have hv := RelS.un (p' := p) hp
  have hm := (List.getElem?_eq_some_iff.1 he).1
  generalize hav : a.eval x = v at hv
  have hv' : RelV P G w (.list false E xs) v := hv
  cases hv' with
  | nil => simp at he
  | zero => simp at he
  | row _ _ _ b off cap size' us hs' hl hsc hcap hmax htip hc hr =>
    have hsz : size' = size := by unfold SizeOf at hs hs'; rw [hs] at hs'; exact (Option.some.inj hs').symm
    subst hsz
    refine ⟨.pointer (some ⟨b, off + m * size', none⟩), ⟨b, off + m * size', fun j => us (m * size' + j), rfl, ?_, ?_⟩, fun w' => ?_⟩
    · rw [hl e (List.mem_of_getElem? he)]
      exact elem_lt hm _ _ _ (htip (by omega))
    · intro j c hj
      have hjl := (List.getElem?_eq_some_iff.1 hj).1
      rw [hl e (List.mem_of_getElem? he)] at hjl
      refine ⟨?_, hr _ c (flat_get hl he hj)⟩
      have := elem_lt hm size' 0 _ (Nat.le_refl _)
      rw [Nat.add_assoc]
      exact hc (m * size' + j) (by omega)
    · subst hi
      simp [execOp, ho, Instr.indexAt, asIntOf, hav, h.evLit hy, run_underlying hu, run_size hs, hm, add_at]
end
section
variable {P : Program} {n : Nat} {s : St} {o : Oper} {d : Nat} {t t' E : TypeId} {x y : Operand} {k : IntKind} {i : Int}
theorem PReader.fieldE {e : AV} {kk f off size : Nat} {ft : TypeId} (ho : o.op = .fieldAddr t x f) (hf : fieldOf P t f off ft size) (h0 : size ≠ 0) (hx : s.eval x = .eptr e kk) : PReader P n s o d (.eptr e (kk + off)) := by
  intro G a w h
  obtain ⟨fs, F, hu, hF, rfl, rfl, hs⟩ := hf
  obtain ⟨p, hp⟩ := h.ev x (fun v cs e1 e2 => by subst e1; subst e2; simp [St.eval, ofConst] at hx)
  rw [hx] at hp
  obtain ⟨b, oo, us, hv, h1, h2⟩ := hp
  refine ⟨_, ⟨b, oo, us, rfl, h1, h2⟩, fun w' => ?_⟩
  simp [execOp, ho, Instr.fieldAt, Instr.sureAddr, hv, run_underlying hu, hF, fieldPlace, run_size hs, h0, add_at, Nat.add_assoc]
end
section
variable {P : Program} {n : Nat} {s : St} {o : Oper} {d : Nat} {t t' E : TypeId} {x y : Operand} {k : IntKind} {i : Int}
theorem PReader.fieldL {kk k0 f off size : Nat} {ft : TypeId} (ho : o.op = .fieldAddr t x f) (hf : fieldOf P t f off ft size) (h0 : size ≠ 0) (hx : s.eval x = .lptr kk k0) : PReader P n s o d (.lptr kk (k0 + off)) := by
  intro G a w h
  obtain ⟨fs, F, hu, hF, rfl, rfl, hs⟩ := hf
  obtain ⟨p, hp⟩ := h.ev x (fun v cs e1 e2 => by subst e1; subst e2; simp [St.eval, ofConst] at hx)
  rw [hx] at hp
  have hv : a.eval x = .pointer (some ⟨G.lb kk, k0, none⟩) := hp
  refine ⟨_, rfl, fun w' => ?_⟩
  simp [execOp, ho, Instr.fieldAt, Instr.sureAddr, hv, run_underlying hu, hF, fieldPlace, run_size hs, h0, add_at]
end
section
variable {P : Program} {n : Nat} {s : St} {o : Oper} {d : Nat} {t t' E : TypeId} {x y : Operand} {k : IntKind} {i : Int}
theorem PReader.fieldG {kk k0 f off size : Nat} {ft : TypeId} (ho : o.op = .fieldAddr t x f) (hf : fieldOf P t f off ft size) (h0 : size ≠ 0) (hx : s.eval x = .gptr kk k0) : PReader P n s o d (.gptr kk (k0 + off)) := by
  intro G a w h
  obtain ⟨fs, F, hu, hF, rfl, rfl, hs⟩ := hf
  obtain ⟨p, hp⟩ := h.ev x (fun v cs e1 e2 => by subst e1; subst e2; simp [St.eval, ofConst] at hx)
  rw [hx] at hp
  generalize hav : a.eval x = v at hp
  have hp' : RelV P G w (.gptr kk k0) v := hp
  cases hp' with
  | gptr _ _ b hb =>
    refine ⟨_, RelV.gptr kk (k0 + F.offset) b hb, fun w' => ?_⟩
    simp [execOp, ho, Instr.fieldAt, Instr.sureAddr, hav, run_underlying hu, hF, fieldPlace, run_size hs, h0, add_at]
end
section
variable {P : Program} {n : Nat} {s : St} {o : Oper} {d : Nat} {t t' E : TypeId} {x y : Operand} {k : IntKind} {i : Int}
theorem PReader.indexL {kk k0 m size len : Nat} (ho : o.op = .indexAddr t x y) (hu : P.underlying t = some (.array len E)) (hs : SizeOf P E size) (hx : s.eval x = .lptr kk k0) (hy : s.eval y = .lit (.int k i)) (hi : i = m) (hm : m < len) :
    PReader P n s o d (.lptr kk (k0 + m * size)) := by
  intro G a w h
  obtain ⟨p, hp⟩ := h.ev x (fun v cs e1 e2 => by subst e1; subst e2; simp [St.eval, ofConst] at hx)
  rw [hx] at hp
  have hv : a.eval x = .pointer (some ⟨G.lb kk, k0, none⟩) := hp
  refine ⟨_, rfl, fun w' => ?_⟩
  subst hi
  simp [execOp, ho, Instr.indexAt, Instr.sureAddr, asIntOf, hv, h.evLit hy, run_underlying hu, run_size hs, hm, add_at]
end
section
variable {P : Program} {n : Nat} {s : St} {o : Oper} {d : Nat} {t t' E : TypeId} {x y : Operand} {k : IntKind} {i : Int}
theorem PReader.field {cs : List AV} {v : AV} {f off size : Nat} {ft : TypeId} {D : TypeDesc} (ho : o.op = .field t x f) (hf : fieldOf P t f off ft size) (hu : P.underlying ft = some D) (hx : s.eval x = .agg cs) (hxc : ∃ r, x = .tmp r)
    (hv : partOf (TypeDesc.agg D) size cs off = some v) (hfl : v.un.flat = true) : PReader P n s o d v.un := by
  intro G a w h
  obtain ⟨fs, F, hut, hF, rfl, rfl, hs⟩ := hf
  obtain ⟨r, rfl⟩ := hxc
  have hp := h.slot r
  rw [show s.get r = .agg cs from hx] at hp
  generalize hav : a.tmps.getD r undef = va at hp
  have hp' : RelV P G w (.agg cs) va := hp
  cases hp' with
  | agg _ vs hl hr =>
    obtain ⟨u, hu1, hu2⟩ := run_part (t := F.type) hu hs hl hr hv
    refine ⟨u, hu1.un.toS hfl, fun w' => ?_⟩
    have hav' : a.eval (.tmp r) = .agg vs.toArray := hav
    simp [execOp, ho, Instr.field, hav', run_underlying hut, hF, asAgg, hu2 w']
end
section
variable {P : Program} {n : Nat} {s : St} {o : Oper} {d : Nat} {t t' E : TypeId} {x y : Operand} {k : IntKind} {i : Int}
theorem PReader.extract {cs : List AV} {v : AV} {r m : Nat} (ho : o.op = .extract (.tmp r) m) (hx : s.get r = .tuple cs) (hc : cs[m]? = some v) (hf : v.un.flat = true) : PReader P n s o d v.un := by
  intro G a w h
  have hp := h.slot r
  rw [hx] at hp
  obtain ⟨vs, hav, hl, hr⟩ := hp
  have hlt := (List.getElem?_eq_some_iff.1 hc).1
  have e : vs[m]? = some vs[m] := List.getElem?_eq_getElem (by omega)
  have h1 := hr m v _ hc e
  refine ⟨vs[m], ?_, fun w' => ?_⟩
  · rcases h1.toV with h2 | ⟨cs', rfl⟩
    · exact h2.toS hf
    · cases hf
  · have hav' : a.eval (.tmp r) = .tuple vs.toArray := hav
    simp [execOp, ho, Instr.extract, hav', e]
end
section
variable {P : Program} {n : Nat} {s : St} {ops : Array Oper} {o : Oper} {rest : List Oper} {Q : St → Prop} {d : Nat} {t t' tx E : TypeId} {x y : Operand} {G : Gh} {a : Act} {w : World}
theorem PReader.sub {l m : List UInt8} {lo hi : Option Operand} {i j : Nat} (ho : o.op = .slice t x lo hi none) (hu : P.underlying t = some .string) (hx : s.eval x = .str l) (h1 : bnd s lo 0 i) (h2 : bnd s hi l.length j) (hij : i ≤ j) (hj : j ≤ l.length) (hm : (l.take j).drop i = m) : PReader P n s o d (.str m) := by
  intro G a w h
  subst hm
  refine ⟨_, RelV.str _, fun w' => ?_⟩
  have hs := h.evStr hx
  have key : ∀ (b : Option Operand) (df v : Nat), bnd s b df v → (b = none ∧ v = df) ∨ ∃ x k, b = some x ∧ a.eval x = .int k v := by
    intro b df v hb
    cases b with
    | none => exact .inl ⟨rfl, hb⟩
    | some x => obtain ⟨k, i, e1, e2⟩ := hb; subst e2; exact .inr ⟨x, k, rfl, h.evLit e1⟩
  have hsz : (⟨l.toArray⟩ : ByteArray).size = l.length := rfl
  rcases key lo 0 i h1 with ⟨rfl, rfl⟩ | ⟨xl, kl, rfl, hl⟩ <;> rcases key hi l.length j h2 with ⟨rfl, rfl⟩ | ⟨xh, kh, rfl, hh⟩ <;>
    simp [execOp, ho, Instr.sliceAt, Instr.slice, run_underlying hu, hs, Instr.sliceBounds, Instr.sliceBound, asIntOf, *, bytes_extract]
end
section
variable {P : Program} {n : Nat} {s : St} {ops : Array Oper} {o : Oper} {rest : List Oper} {Q : St → Prop} {d : Nat} {t t' tx E : TypeId} {x y : Operand} {G : Gh} {a : Act} {w : World}
theorem PReader.piece {ow : Bool} {xs ys : List AV} {size : Nat} {lo hi : Option Operand} {i j : Nat} (ho : o.op = .slice t x lo hi none) (hu : P.underlying t = some (.slice E)) (hs : SizeOf P E size) (hx : s.eval x = .list ow E xs) (h1 : bnd s lo 0 i) (h2 : bnd s hi xs.length j) (hij : i ≤ j) (hj : j ≤ xs.length)
    (hm : (xs.take j).drop i = ys) : PReader P n s o d (.list false E ys) := by
  intro G a w h
  subst hm
  obtain ⟨p, hp⟩ := h.ev x (fun v cs e1 e2 => by subst e1; subst e2; simp [St.eval, ofConst] at hx)
  rw [hx] at hp
  have key : ∀ (b : Option Operand) (df v : Nat), bnd s b df v → (b = none ∧ v = df) ∨ ∃ x k, b = some x ∧ a.eval x = .int k v := by
    intro b df v hb
    cases b with
    | none => exact .inl ⟨rfl, hb⟩
    | some x => obtain ⟨k, i, e1, e2⟩ := hb; subst e2; exact .inr ⟨x, k, rfl, h.evLit e1⟩
  have hv := RelS.un (p' := p) hp
  generalize hav : a.eval x = v at hv
  have hv' : RelV P G w (.list false E xs) v := hv
  have hlen : ((xs.take j).drop i).length = j - i := by simp; omega
  cases hv' with
  | nil =>
    have hj0 : j = 0 := by simpa using hj
    subst hj0
    have hi0 : i = 0 := by omega
    subst hi0
    refine ⟨.slice none 0 0, RelV.nil _ _, fun w' => ?_⟩
    rcases key lo 0 0 h1 with ⟨rfl, e0⟩ | ⟨xl, kl, rfl, hl⟩
    · rcases key hi _ 0 h2 with ⟨rfl, e1⟩ | ⟨xh, kh, rfl, hh⟩
      · clear e1 e0
        simp [execOp, ho, Instr.sliceAt, Instr.slice, run_underlying hu, hav, Instr.sliceBounds, Instr.sliceBound, asIntOf, run_size hs]
      · clear e0
        simp [execOp, ho, Instr.sliceAt, Instr.slice, run_underlying hu, hav, Instr.sliceBounds, Instr.sliceBound, asIntOf, run_size hs, hh]
    · rcases key hi _ 0 h2 with ⟨rfl, e1⟩ | ⟨xh, kh, rfl, hh⟩
      · clear e1
        simp [execOp, ho, Instr.sliceAt, Instr.slice, run_underlying hu, hav, Instr.sliceBounds, Instr.sliceBound, asIntOf, run_size hs, hl]
      · simp [execOp, ho, Instr.sliceAt, Instr.slice, run_underlying hu, hav, Instr.sliceBounds, Instr.sliceBound, asIntOf, run_size hs, hl, hh]
  | zero _ b =>
    have hj0 : j = 0 := by simpa using hj
    subst hj0
    have hi0 : i = 0 := by omega
    subst hi0
    refine ⟨.slice (some b) 0 0, RelV.zero _ _, fun w' => ?_⟩
    rcases key lo 0 0 h1 with ⟨rfl, e0⟩ | ⟨xl, kl, rfl, hl⟩
    · rcases key hi _ 0 h2 with ⟨rfl, e1⟩ | ⟨xh, kh, rfl, hh⟩
      · clear e1 e0
        simp [execOp, ho, Instr.sliceAt, Instr.slice, run_underlying hu, hav, Instr.sliceBounds, Instr.sliceBound, asIntOf, run_size hs]
      · clear e0
        simp [execOp, ho, Instr.sliceAt, Instr.slice, run_underlying hu, hav, Instr.sliceBounds, Instr.sliceBound, asIntOf, run_size hs, hh]
    · rcases key hi _ 0 h2 with ⟨rfl, e1⟩ | ⟨xh, kh, rfl, hh⟩
      · clear e1
        simp [execOp, ho, Instr.sliceAt, Instr.slice, run_underlying hu, hav, Instr.sliceBounds, Instr.sliceBound, asIntOf, run_size hs, hl]
      · simp [execOp, ho, Instr.sliceAt, Instr.slice, run_underlying hu, hav, Instr.sliceBounds, Instr.sliceBound, asIntOf, run_size hs, hl, hh]
  | row _ _ _ b off cap size' us hs' hl hsc hcap hmax htip hc hr =>
    have hsz : size' = size := by unfold SizeOf at hs hs'; rw [hs] at hs'; exact (Option.some.inj hs').symm
    subst hsz
    have hrun : ∀ w' : World, (execOp a.eval o).run P w' = .ok (.value (.slice (if cap = i then some ⟨b, off, none⟩ else some ⟨b, off + i * size', none⟩) (j - i) (cap - i))) w' := by
      intro w'
      have hic : i ≤ cap := by omega
      have hjc : j ≤ cap := by omega
      rcases key lo 0 i h1 with ⟨rfl, rfl⟩ | ⟨xl, kl, rfl, hl⟩ <;> rcases key hi xs.length j h2 with ⟨rfl, rfl⟩ | ⟨xh, kh, rfl, hh⟩ <;>
        simp [execOp, ho, Instr.sliceAt, Instr.slice, run_underlying hu, hav, Instr.sliceBounds, Instr.sliceBound, asIntOf, run_size hs, add_at, *]
    have hlx : ∀ x ∈ (xs.take j).drop i, x.cells.length = size' := fun x hx => hl x (List.mem_of_mem_take (List.mem_of_mem_drop hx))
    have hscx : ∀ x ∈ (xs.take j).drop i, ∀ c ∈ x.cells, c.scalar = true := fun x hx => hsc x (List.mem_of_mem_take (List.mem_of_mem_drop hx))
    have hrow : ∀ off', (0 < j - i → off' = off + i * size') → RelV P G w (.list false E ((xs.take j).drop i)) (.slice (some ⟨b, off', none⟩) (j - i) (cap - i)) := by
      intro off' hoff
      have := RelV.row (P := P) (G := G) (w := w) false E ((xs.take j).drop i) b off' (cap - i) size' (fun m => us (i * size' + m)) hs hlx hscx (by rw [hlen]; omega) (by omega) (fun h0 => ?_) (fun m hm => ?_) (fun m c hm => ?_)
      · rw [hlen] at this; exact this
      · rw [hlen] at h0 ⊢
        rw [hoff h0]
        have := htip (by omega)
        have h5 : (i + (j - i)) * size' ≤ xs.length * size' := Nat.mul_le_mul_right _ (by omega)
        rw [Nat.add_mul] at h5
        omega
      · rw [hlen] at hm
        have h0 : 0 < j - i := by
          rcases Nat.eq_zero_or_pos (j - i) with h | h
          · rw [h] at hm; omega
          · exact h
        rw [hoff h0, Nat.add_assoc]
        refine hc _ ?_
        have h5 : (i + (j - i)) * size' ≤ xs.length * size' := Nat.mul_le_mul_right _ (by omega)
        rw [Nat.add_mul] at h5
        omega
      · have hml := (List.getElem?_eq_some_iff.1 hm).1
        rw [flat_len hlx, hlen] at hml
        refine hr (i * size' + m) c ?_
        have e : xs.flatMap AV.cells = (xs.take i).flatMap AV.cells ++ ((xs.take j).drop i).flatMap AV.cells ++ (xs.drop j).flatMap AV.cells := by
          rw [← List.flatMap_append, ← List.flatMap_append]
          congr 1
          rw [show (xs.take i) = (xs.take j).take i by rw [List.take_take, Nat.min_eq_left hij], List.take_append_drop, List.take_append_drop]
        have hl1 : ((xs.take i).flatMap AV.cells).length = i * size' := by
          rw [flat_len (fun x hx => hl x (List.mem_of_mem_take hx)), List.length_take, Nat.min_eq_left (by omega)]
        rw [e, List.append_assoc, List.getElem?_append_right (by omega), hl1, show i * size' + m - i * size' = m by omega, List.getElem?_append_left (by rw [flat_len hlx, hlen]; exact hml)]
        exact hm
    by_cases hci : cap = i
    · refine ⟨.slice (some ⟨b, off, none⟩) (j - i) (cap - i), hrow off (fun h => by omega), fun w' => ?_⟩
      rw [hrun w', if_pos hci]
    · refine ⟨.slice (some ⟨b, off + i * size', none⟩) (j - i) (cap - i), hrow _ (fun _ => rfl), fun w' => ?_⟩
      rw [hrun w', if_neg hci]
end
section
variable {P : Program} {n : Nat} {s : St} {ops : Array Oper} {o : Oper} {rest : List Oper} {Q : St → Prop} {d : Nat} {t t' E : TypeId} {x y : Operand} {G : Gh} {a : Act} {w : World}
theorem PReader.build {ps : Array (Nat × Operand)} {xs : List (Nat × AV)} {zs : Array Value} {Es : List TypeId} {cs : List AV} {fs : Array Field} {places : List (Nat × Nat)} (ho : o.op = .build t ps) (hu : P.underlying t = some (.struct fs)) (hp : Parts s ps xs)
    (hz : (P.info? t).map (·.zero) = some (some (.agg zs))) (hz1 : zs.toList.all (fun c => c.oneCell') = true) (hpl : ∀ w : World, (fs.mapM fun f => (do pure (f.offset, ← sizeOf f.type) : Sem (Nat × Nat))).run P w = .ok places.toArray w)
    (hf : fillA (places[·]?) (zcells zs.toList Es) xs = some cs) : PReader P n s o d (.agg cs) := by
  intro G a w hr
  obtain ⟨h1, h2⟩ := hp.rel hr
  obtain ⟨arr, hfill, hrel⟩ := fill_rel (P := P) (G := G) (w := w) (places[·]?) xs _ (zcells zs.toList Es) zs cs h1 h2 (zcells_rel _ _ (List.all_eq_true.1 hz1)) hf
  refine ⟨.agg arr, ?_, fun w' => ?_⟩
  · have := RelV.agg cs arr.toList hrel.1 hrel.2
    simp only [Array.toArray_toList] at this
    exact this
  · cases hi : P.info? t with
    | none => simp [hi] at hz
    | some i =>
      simp only [hi, Option.map_some, Option.some.injEq] at hz
      have hfill' : Instr.fill (fun i : Nat => places[i]?) zs (Array.map (fun x => (x.1, a.eval x.2)) ps).toList = some arr := hfill
      rw [Array.toList_map] at hfill'
      have hpl' : (Array.mapM (fun f : Field => Prod.mk f.offset <$> sizeOf f.type) fs).run P w' = .ok places.toArray w' := by simpa using hpl w'
      simp [execOp, ho, Instr.build, zeroValue, typeInfo, hi, hz, Value.cells, run_underlying hu, hpl', Result.andThen, hfill']
end
end Go.Proofs.Ytfnbfkgknfagmaa
