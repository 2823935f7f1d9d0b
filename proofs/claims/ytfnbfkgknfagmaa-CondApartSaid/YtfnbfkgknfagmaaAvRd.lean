/- Abstract values: the operations that read, one by one. -/
import Derived.Test.YtfnbfkgknfagmaaAvOps
import Derived.Laws.Strings
import Derived.ChangeKeysEq
namespace Go.Proofs.Ytfnbfkgknfagmaa
open Go.RowKit

def intBin (op : BinOp) (k : IntKind) (a b : Int) : Option Value :=
  match op with
  | .add => some (.int k (k.wrap (a + b)))
  | .sub => some (.int k (k.wrap (a - b)))
  | .mul => some (.int k (k.wrap (a * b)))
  | .eql => some (.bool (a == b))
  | .neq => some (.bool (a != b))
  | .lss => some (.bool (a < b))
  | .leq => some (.bool (a ≤ b))
  | .gtr => some (.bool (a > b))
  | .geq => some (.bool (a ≥ b))
  | .and => some (.int k (k.wrap (BitVec.ofInt k.bits a &&& BitVec.ofInt k.bits b).toNat))
  | .or => some (.int k (k.wrap (BitVec.ofInt k.bits a ||| BitVec.ofInt k.bits b).toNat))
  | .xor => some (.int k (k.wrap (BitVec.ofInt k.bits a ^^^ BitVec.ofInt k.bits b).toNat))
  | _ => none

def strBin (op : BinOp) (a b : List UInt8) : Option Bool :=
  match op with
  | .eql => some (a == b)
  | .neq => some !(a == b)
  | .lss => some (Op.bytesLess a b)
  | .leq => some (Op.bytesLess a b || a == b)
  | .gtr => some !(Op.bytesLess a b || a == b)
  | .geq => some !(Op.bytesLess a b)
  | _ => none

theorem sizeOf_some {P : Program} {E : TypeId} {n : Nat} (h : SizeOf P E n) : ∃ i, P.info? E = some i ∧ i.size = n := by
  unfold SizeOf at h
  cases hi : P.info? E with
  | none => simp [hi] at h
  | some i => exact ⟨i, rfl, by simpa [hi] using h⟩
theorem run_size {P : Program} {E : TypeId} {n : Nat} (h : SizeOf P E n) (w : World) : (sizeOf E).run P w = .ok n w := by
  obtain ⟨i, hi, rfl⟩ := sizeOf_some h
  simp [sizeOf, typeInfo, hi]

def TypeDesc.agg : TypeDesc → Bool
  | .struct _ | .array _ _ => true
  | _ => false
theorem run_agg {P : Program} {t : TypeId} {d : TypeDesc} (h : P.underlying t = some d) (w : World) : (isAgg t).run P w = .ok (TypeDesc.agg d) w := by
  simp only [isAgg, Sem.run_bind, run_underlying h, Result.andThen]
  cases d <;> rfl

section
variable {P : Program} {n : Nat} {s : St} {o : Oper} {d : Nat} {t t' : TypeId} {x y : Operand} {k k' : IntKind} {i j : Int}

theorem RelS.un {G : Gh} {w : World} {p p' : Nat → Pos} {x : AV} {v : Value} (h : RelS P G w p x v) : RelS P G w p' x.un v := by
  cases x with
  | pin x u => rw [show (AV.pin x u).un = x.un from rfl, plain_un h.2.1]; exact h.2.2.toS (plain_flat h.2.1)
  | list o E xs =>
    rcases RelO.toV (q := p 0) (x := .list o E xs) h with h | ⟨cs, e⟩
    · exact h
    · cases e
  | tuple cs =>
    obtain ⟨vs, rfl, hl, hr⟩ := h
    refine ⟨vs, rfl, by simpa using hl, fun j c u hc hu => ?_⟩
    rw [List.getElem?_map] at hc
    cases hx : cs[j]? with
    | none => simp [hx] at hc
    | some c' =>
      simp only [hx, Option.map_some, Option.some.injEq] at hc
      have h1 := hr j c' u hx hu
      subst hc
      cases c' with
      | list o E xs =>
        rcases RelO.toV (q := p j) (x := .list o E xs) h1 with h | ⟨cs, e⟩
        · exact h
        · cases e
      | _ => exact h1
  | _ => exact h

theorem Reader.move (ho : o.op = .move x ∨ o.op = .assign x) (hc : ∀ v cs, x = .const v → v = .agg cs → ∀ c ∈ cs, c.oneCell' = true) {v : AV} (hv : (s.eval x).un = v) : Reader P n s o d v := by
  intro G a w hr
  obtain ⟨p, hp⟩ := hr.ev x hc
  subst hv
  refine ⟨_, hp.un, fun w' _ => ?_⟩
  rcases ho with ho | ho <;> simp [execOp, ho]

theorem Reader.int {op : BinOp} (ho : o.op = .binOp op t x y t') (hx : s.eval x = .lit (.int k i)) (hy : s.eval y = .lit (.int k j)) {r : Value} (hr : intBin op k i j = some r) : Reader P n s o d (.lit r) := by
  intro G a w h
  refine ⟨_, lit_toS r, fun w' _ => ?_⟩
  have h1 := h.evLit hx
  have h2 := h.evLit hy
  simp only [execOp, ho, h1, h2]
  unfold intBin at hr
  split at hr <;> first | (cases hr; done) | (cases hr; simp [eqGuard, binOp, Op.intArith, Op.intCmp, Op.intBits])

/-- Sums with their wrap taken off. -/
theorem Reader.sum {op : BinOp} (ho : o.op = .binOp op t x y t') (hx : s.eval x = .lit (.int k i)) (hy : s.eval y = .lit (.int k j)) {m c : Int} (hr : intBin op k i j = some (.int k (k.wrap m))) (hc : k.wrap m = c) : Reader P n s o d (.lit (.int k c)) := by
  subst hc
  exact Reader.int ho hx hy hr

theorem Reader.quo (ho : o.op = .binOp .quo t x y t') (hx : s.eval x = .lit (.int k i)) (hy : s.eval y = .lit (.int k j)) (hj : j ≠ 0) {c : Int} (hc : k.wrap (i.tdiv j) = c) : Reader P n s o d (.lit (.int k c)) := by
  intro G a w h
  refine ⟨_, lit_toS _, fun w' _ => ?_⟩
  simp only [execOp, ho, h.evLit hx, h.evLit hy]
  simp [eqGuard, binOp, Op.intDiv, hj, hc]

theorem Reader.rem (ho : o.op = .binOp .rem t x y t') (hx : s.eval x = .lit (.int k i)) (hy : s.eval y = .lit (.int k j)) (hj : j ≠ 0) {c : Int} (hc : i.tmod j = c) : Reader P n s o d (.lit (.int k c)) := by
  intro G a w h
  refine ⟨_, lit_toS _, fun w' _ => ?_⟩
  simp only [execOp, ho, h.evLit hx, h.evLit hy]
  simp [eqGuard, binOp, Op.intDiv, hj, hc]

theorem Reader.shift {op : BinOp} (ho : o.op = .binOp op t x y t') (hop : op = .shl ∨ op = .shr) (hx : s.eval x = .lit (.int k i)) (hy : s.eval y = .lit (.int k' j)) (hj : 0 ≤ j) {c : Int}
    (hc : (if op = .shl then k.wrap (i * 2 ^ (min j.toNat k.bits)) else i.fdiv (2 ^ (min j.toNat k.bits))) = c) : Reader P n s o d (.lit (.int k c)) := by
  intro G a w h
  refine ⟨_, lit_toS _, fun w' _ => ?_⟩
  simp only [execOp, ho, h.evLit hx, h.evLit hy]
  have hj' : ¬ j < 0 := by omega
  subst hc
  rcases hop with rfl | rfl <;> simp [eqGuard, binOp, Op.shift, hj']

theorem run_equalIn_bool (dd : Nat) {a b : Bool} (hu : P.underlying t = some .bool) (w : World) : (Op.equalIn (dd + 1) t (.bool a) (.bool b)).run P w = .ok (a == b) w := by
  simp [Op.equalIn, run_underlying hu]
theorem bsize (l : List UInt8) : (⟨l.toArray⟩ : ByteArray).size = l.length := rfl

theorem Reader.bools {op : BinOp} {a b r : Bool} (ho : o.op = .binOp op t x y t') (hu : P.underlying t = some .bool) (hx : s.eval x = .lit (.bool a)) (hy : s.eval y = .lit (.bool b)) (hr : (op = .eql ∧ r = (a == b)) ∨ (op = .neq ∧ r = !(a == b))) : Reader P n s o d (.lit (.bool r)) := by
  intro G ac w h
  refine ⟨_, lit_toS _, fun w' _ => ?_⟩
  simp only [execOp, ho, h.evLit hx, h.evLit hy]
  rcases hr with ⟨rfl, rfl⟩ | ⟨rfl, rfl⟩
  · have e1 : (eqGuard .eql t x y (.bool a) (.bool b)).run P w' = .ok () w' := by simp [eqGuard]
    have e2 : (binOp .eql t (.bool a) (.bool b)).run P w' = .ok (.bool (a == b)) w' := by
      simp only [binOp, Op.equal, Op.maxDepth]
      simp [run_equalIn_bool 9999 hu]
    simp [e1, e2, Result.andThen]
  · have e1 : (eqGuard .neq t x y (.bool a) (.bool b)).run P w' = .ok () w' := by simp [eqGuard]
    have e2 : (binOp .neq t (.bool a) (.bool b)).run P w' = .ok (.bool (!(a == b))) w' := by
      simp only [binOp, Op.equal, Op.maxDepth]
      simp [run_equalIn_bool 9999 hu]
    simp [e1, e2, Result.andThen]

theorem Reader.strs {op : BinOp} {l m : List UInt8} {r : Bool} (ho : o.op = .binOp op t x y t') (hx : s.eval x = .str l) (hy : s.eval y = .str m) (hr : strBin op l m = some r) : Reader P n s o d (.lit (.bool r)) := by
  intro G a w h
  refine ⟨_, lit_toS _, fun w' _ => ?_⟩
  simp only [execOp, ho, h.evStr hx, h.evStr hy]
  unfold strBin at hr
  split at hr <;> first | (cases hr; done) | (cases hr; simp [eqGuard, binOp, Op.stringOp])

theorem bytes_app (l m : List UInt8) : (⟨l.toArray⟩ : ByteArray) ++ ⟨m.toArray⟩ = ⟨(l ++ m).toArray⟩ := by
  apply ByteArray.ext
  simp [ByteArray.data_append]

theorem Reader.cat {l m c : List UInt8} (ho : o.op = .binOp .add t x y t') (hx : s.eval x = .str l) (hy : s.eval y = .str m) (hb : l.length + m.length ≤ 9223372036854775807) (hc : l ++ m = c) : Reader P n s o d (.str c) := by
  intro G a w h
  subst hc
  refine ⟨_, RelV.str _, fun w' _ => ?_⟩
  simp only [execOp, ho, h.evStr hx, h.evStr hy]
  simp [eqGuard, binOp, Op.stringOp, bytes_app, IntKind.max, IntKind.signed, IntKind.bits]
  rw [bsize, bsize]
  omega

theorem Reader.not {b : Bool} (ho : o.op = .unOp .not t x) (hx : s.eval x = .lit (.bool b)) : Reader P n s o d (.lit (.bool !b)) := by
  intro G a w h
  refine ⟨_, lit_toS _, fun w' _ => ?_⟩
  simp only [execOp, ho, h.evLit hx]
  simp [Op.unary]

theorem Reader.neg {c : Int} (ho : o.op = .unOp .neg t x) (hx : s.eval x = .lit (.int k i)) (hc : k.wrap (0 - i) = c) : Reader P n s o d (.lit (.int k c)) := by
  intro G a w h
  refine ⟨_, lit_toS _, fun w' _ => ?_⟩
  simp only [execOp, ho, h.evLit hx]
  simp [Op.unary, Op.intArith, ← hc]

theorem Reader.conv {c : Int} {D : TypeDesc} (ho : o.op = .convert t t' x) (h1 : P.underlying t = some D) (h2 : P.underlying t' = some (.int k')) (hD : D ≠ .unsafePointer) (hx : s.eval x = .lit (.int k i)) (hc : k'.wrap i = c) : Reader P n s o d (.lit (.int k' c)) := by
  intro G a w h
  refine ⟨_, lit_toS _, fun w' _ => ?_⟩
  simp only [execOp, ho, h.evLit hx]
  simp only [convert, Sem.run_bind, run_underlying h1, run_underlying h2, Result.andThen]
  cases D <;> first | exact absurd rfl hD | simp [Conv.intToInt, hc]

theorem Reader.pick {c : Operand} {b : Bool} {v : AV} (ho : o.op = .pick c x y) (hb : s.eval c = .lit (.bool b)) (hx : ∀ w cs, x = .const w → w = .agg cs → ∀ c ∈ cs, c.oneCell' = true) (hy : ∀ w cs, y = .const w → w = .agg cs → ∀ c ∈ cs, c.oneCell' = true) (hv : (if b then s.eval x else s.eval y).un = v) : Reader P n s o d v := by
  intro G a w h
  cases b with
  | true =>
    obtain ⟨p, hp⟩ := h.ev x hx
    simp only [if_true] at hv
    subst hv
    refine ⟨_, hp.un, fun w' _ => ?_⟩
    simp [execOp, ho, h.evLit hb, asBool]
  | false =>
    obtain ⟨p, hp⟩ := h.ev y hy
    simp only [Bool.false_eq_true, if_false] at hv
    subst hv
    refine ⟨_, hp.un, fun w' _ => ?_⟩
    simp [execOp, ho, h.evLit hb, asBool]

theorem Reader.len {o' : Bool} {E : TypeId} {xs : List AV} {c : Call} (ho : o.op = .call c) (hc : c.callee = .builtin .len) (ha : c.args = #[x]) (ht : c.argTypes = #[t]) (hu : P.underlying t = some (.slice E)) {E' : TypeId} (hx : s.eval x = .list o' E' xs) :
    Reader P n s o d (.lit (.int .i64 xs.length)) := by
  intro G a w h
  obtain ⟨p, hp⟩ := h.ev x (fun v cs e1 e2 => by subst e1; subst e2; simp [St.eval, ofConst] at hx)
  rw [hx] at hp
  have hv : ∃ b cap, a.eval x = .slice b xs.length cap := by
    have := RelS.un (p' := p) hp
    generalize a.eval x = v at this
    cases this with
    | nil => exact ⟨_, _, rfl⟩
    | zero => exact ⟨_, _, rfl⟩
    | row => exact ⟨_, _, rfl⟩
  obtain ⟨b, cap, hv⟩ := hv
  refine ⟨_, lit_toS _, fun w' _ => ?_⟩
  simp [execOp, ho, resolve, hc, ha, ht, hv, invoke, builtin, Builtin.len_, run_underlying hu, goInt]

theorem Reader.lenStr {l : List UInt8} {c : Call} (ho : o.op = .call c) (hc : c.callee = .builtin .len) (ha : c.args = #[x]) (ht : c.argTypes = #[t]) (hu : P.underlying t = some .string) (hx : s.eval x = .str l) :
    Reader P n s o d (.lit (.int .i64 l.length)) := by
  intro G a w h
  refine ⟨_, lit_toS _, fun w' _ => ?_⟩
  simp [execOp, ho, resolve, hc, ha, ht, h.evStr hx, invoke, builtin, Builtin.len_, run_underlying hu, goInt, bsize]

/-- A byte of a text. -/
theorem Reader.byte {l : List UInt8} {m : Nat} {c : UInt8} (ho : o.op = .index t x y) (hu : P.underlying t = some .string) (hx : s.eval x = .str l) (hy : s.eval y = .lit (.int k i)) (hi : i = m) (hc : l[m]? = some c) :
    Reader P n s o d (.lit (.int .u8 c.toNat)) := by
  intro G a w h
  subst hi
  refine ⟨_, lit_toS _, fun w' _ => ?_⟩
  obtain ⟨hlt, hcc⟩ := List.getElem?_eq_some_iff.1 hc
  have e : (⟨l.toArray⟩ : ByteArray)[m]? = some c := by
    have hs : m < (⟨l.toArray⟩ : ByteArray).size := by rw [bsize]; exact hlt
    rw [getElem?_pos (⟨l.toArray⟩ : ByteArray) m hs]
    show some ((⟨l.toArray⟩ : ByteArray).data[m]) = _
    simp [hcc]
  simp [execOp, ho, Instr.index, asIntOf, h.evStr hx, h.evLit hy, run_underlying hu, e]

theorem bytes_extract (l : List UInt8) (a b : Nat) : (⟨l.toArray⟩ : ByteArray).extract a b = ⟨((l.take b).drop a).toArray⟩ := by
  apply ByteArray.ext
  simp [ByteArray.data_extract, List.extract_eq_take_drop, List.drop_take]

end
end Go.Proofs.Ytfnbfkgknfagmaa
