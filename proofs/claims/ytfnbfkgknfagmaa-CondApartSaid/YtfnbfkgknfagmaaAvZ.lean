/- Abstract values: short names of the steps, so that printed walks stay small. -/
import Derived.Test.YtfnbfkgknfagmaaAvAny2
namespace Go.Proofs.Ytfnbfkgknfagmaa
open Go.RowKit
abbrev zI (x : Int) : AV := .lit (.int .i64 x)
abbrev zB (b : Bool) : AV := .lit (.bool b)
section
variable {P : Program} {n : Nat} {s : St} {ops : Array Oper} {o : Oper} {rest : List Oper} {Q : St → Prop} {QE : Exit → St → Prop} {d : Nat} {t t' E : TypeId} {x y : Operand} {k : IntKind} {i j : Int}
def ArgsL (s : St) : List Operand → List AV → Prop
  | [], [] => True
  | x :: xs, v :: vs => ArgOf s x v ∧ ArgsL s xs vs
  | _, _ => False
theorem al0 : ArgsL s [] [] := trivial
theorem al1 {xs : List Operand} {vs : List AV} {v : AV} (h : ArgsL s xs vs) (h1 : (s.eval x).un = v) (h2 : v.flat = true) : ArgsL s (x :: xs) (v :: vs) := ⟨.inl ⟨h1, h2⟩, h⟩
theorem al2 {xs : List Operand} {vs : List AV} {E : TypeId} (h : ArgsL s xs vs) : ArgsL s (.const (.slice none 0 0) :: xs) (.list false E [] :: vs) := ⟨.inr ⟨rfl, _, rfl⟩, h⟩
theorem al3 {xs : List Operand} {vs : List AV} {u v : AV} (h : ArgsL s xs vs) (h0 : s.eval x = u) (h1 : u.un = v) (h2 : v.flat = true) : ArgsL s (x :: xs) (v :: vs) := ⟨.inl ⟨by rw [h0]; exact h1, h2⟩, h⟩
theorem un_of {a u v : AV} (h : a = u) (h2 : u.un = v) : a.un = v := by rw [h]; exact h2
theorem pk_t {a b u v : AV} (h : a = u) (h2 : u.un = v) : (if true = true then a else b).un = v := by rw [if_pos rfl, h]; exact h2
theorem pk_f {a b u v : AV} (h : b = u) (h2 : u.un = v) : (if false = true then a else b).un = v := by rw [if_neg (by decide), h]; exact h2
theorem ArgsL.len : ∀ {xs : List Operand} {vs : List AV}, ArgsL s xs vs → xs.length = vs.length
  | [], [], _ => rfl
  | _ :: _, _ :: _, h => congrArg (· + 1) (ArgsL.len h.2)
  | [], _ :: _, h => h.elim
  | _ :: _, [], h => h.elim
theorem ArgsL.at : ∀ {xs : List Operand} {vs : List AV}, ArgsL s xs vs → ∀ (j : Nat) x v, xs[j]? = some x → vs[j]? = some v → ArgOf s x v
  | _ :: _, _ :: _, h, 0, x, v, h1, h2 => by cases h1; cases h2; exact h.1
  | _ :: _, _ :: _, h, j + 1, x, v, h1, h2 => ArgsL.at h.2 j x v h1 h2
  | [], [], _, j, x, v, h1, _ => by simp at h1
  | [], _ :: _, h, _, _, _, _, _ => h.elim
  | _ :: _, [], h, _, _, _, _, _ => h.elim
def PartsL (s : St) : List (Nat × Operand) → List (Nat × AV) → Prop
  | [], [] => True
  | p :: ps, x :: xs => (p.1 = x.1 ∧ ArgOf s p.2 x.2 ∧ x.2.part = true ∧ Operand.ok p.2 = true) ∧ PartsL s ps xs
  | _, _ => False
theorem pl0 : PartsL s [] [] := trivial
theorem pl1 {ps : List (Nat × Operand)} {xs : List (Nat × AV)} {p : Nat × Operand} {q : Nat × AV} (h : PartsL s ps xs) (h0 : p.1 = q.1) (h1 : (s.eval p.2).un = q.2) (h2 : q.2.flat = true) (h3 : q.2.part = true) (h4 : Operand.ok p.2 = true) : PartsL s (p :: ps) (q :: xs) := ⟨⟨h0, .inl ⟨h1, h2⟩, h3, h4⟩, h⟩
theorem pl2 {ps : List (Nat × Operand)} {xs : List (Nat × AV)} {m : Nat} {E : TypeId} (h : PartsL s ps xs) : PartsL s ((m, .const (.slice none 0 0)) :: ps) ((m, .list false E []) :: xs) := ⟨⟨rfl, .inr ⟨rfl, _, rfl⟩, rfl, rfl⟩, h⟩
theorem pl3 {ps : List (Nat × Operand)} {xs : List (Nat × AV)} {p : Nat × Operand} {q : Nat × AV} {u : AV} (h : PartsL s ps xs) (h0 : p.1 = q.1) (hu : s.eval p.2 = u) (h1 : u.un = q.2) (h2 : q.2.flat = true) (h3 : q.2.part = true) (h4 : Operand.ok p.2 = true) : PartsL s (p :: ps) (q :: xs) := ⟨⟨h0, .inl ⟨by rw [hu]; exact h1, h2⟩, h3, h4⟩, h⟩
theorem PartsL.len : ∀ {ps : List (Nat × Operand)} {xs : List (Nat × AV)}, PartsL s ps xs → ps.length = xs.length
  | [], [], _ => rfl
  | _ :: _, _ :: _, h => congrArg (· + 1) (PartsL.len h.2)
  | [], _ :: _, h => h.elim
  | _ :: _, [], h => h.elim
theorem PartsL.at : ∀ {ps : List (Nat × Operand)} {xs : List (Nat × AV)}, PartsL s ps xs → ∀ (j : Nat) p x, ps[j]? = some p → xs[j]? = some x → p.1 = x.1 ∧ ArgOf s p.2 x.2 ∧ x.2.part = true ∧ Operand.ok p.2 = true
  | _ :: _, _ :: _, h, 0, x, v, h1, h2 => by cases h1; cases h2; exact h.1
  | _ :: _, _ :: _, h, j + 1, x, v, h1, h2 => PartsL.at h.2 j x v h1 h2
  | [], [], _, j, x, v, h1, _ => by simp at h1
  | [], _ :: _, h, _, _, _, _, _ => h.elim
  | _ :: _, [], h, _, _, _, _, _ => h.elim
theorem PartsL.of {ps : Array (Nat × Operand)} {xs : List (Nat × AV)} (h : PartsL s ps.toList xs) : Parts s ps xs := ⟨by simpa using h.len, fun j p x h1 h2 => h.at j p x (by simpa using h1) h2⟩
def ysOf : Nat → List AV → List (Nat × AV)
  | _, [] => []
  | i, x :: xs => (i, x) :: ysOf (i + 1) xs

theorem zr {v : AV} (h : Reader P n s o d v) (k : AOps P n ops rest (s.put d v) Q) (hg : Wants ops s o := by first | exact trivial | exact ⟨_, rfl, rfl⟩) (hd : o.dst = some d := by rfl) (hn : d < n := by decide) : AOps P n ops (o :: rest) s Q := AOps.read hg hd hn h k
theorem ze {v : AV} (h : Reader P n s o d v) (k : AOpsE P n ops rest (s.put d v) Q) (hg : Wants ops s o := by first | exact trivial | exact ⟨_, rfl, rfl⟩) (hd : o.dst = some d := by rfl) (hn : d < n := by decide) : AOpsE P n ops (o :: rest) s Q := AOpsE.read hg hd hn h k
theorem zm (v : AV) (ho : o.op = .move x ∨ o.op = .assign x := by first | exact .inl rfl | exact .inr rfl) (hc : Operand.ok x = true := by rfl) (hv : (s.eval x).un = v := by first | rfl | exact un_of (by assumption) rfl) : Reader P n s o d v := Reader.move ho (ok_const hc) hv
theorem zM (v : AV) (k : AOps P n ops rest (s.put d v) Q) (ho : o.op = .move x ∨ o.op = .assign x := by first | exact .inl rfl | exact .inr rfl) (hc : Operand.ok x = true := by rfl) (hv : (s.eval x).un = v := by first | rfl | exact un_of (by assumption) rfl) (hg : Wants ops s o := by first | exact trivial | exact ⟨_, rfl, rfl⟩) (hd : o.dst = some d := by rfl) (hn : d < n := by decide) :
    AOps P n ops (o :: rest) s Q := AOps.read hg hd hn (Reader.move ho (ok_const hc) hv) k
theorem zs (k : AOps P n ops rest (s.put d (.lit undef)) Q) (hg : Skips ops s o := by exact ⟨_, _, _, _, rfl, rfl, rfl, by simp [undef]⟩) (hd : o.dst = some d := by rfl) (hn : d < n := by decide) : AOps P n ops (o :: rest) s Q := AOps.skip hg hd hn k
theorem zsE (k : AOpsE P n ops rest (s.put d (.lit undef)) Q) (hg : Skips ops s o := by exact ⟨_, _, _, _, rfl, rfl, rfl, by simp [undef]⟩) (hd : o.dst = some d := by rfl) (hn : d < n := by decide) : AOpsE P n ops (o :: rest) s Q := AOpsE.skip hg hd hn k
theorem zi (r : Bool) {op : BinOp} (ho : o.op = .binOp op t x y t' := by rfl) (hx : s.eval x = .lit (.int k i) := by first | rfl | assumption) (hy : s.eval y = .lit (.int k j) := by first | rfl | assumption) (hr : intBin op k i j = some (.bool r) := by rfl) : Reader P n s o d (.lit (.bool r)) := Reader.int ho hx hy hr
theorem zu (m c : Int) {op : BinOp} (hc : k.wrap m = c) (ho : o.op = .binOp op t x y t' := by rfl) (hx : s.eval x = .lit (.int k i) := by first | rfl | assumption) (hy : s.eval y = .lit (.int k j) := by first | rfl | assumption) (hr : intBin op k i j = some (.int k (k.wrap m)) := by rfl) : Reader P n s o d (.lit (.int k c)) := Reader.sum ho hx hy hr hc
theorem zd (m c : Int) {op : BinOp} (ho : o.op = .binOp op t x y t' := by rfl) (hx : s.eval x = .lit (.int k i) := by first | rfl | assumption) (hy : s.eval y = .lit (.int k j) := by first | rfl | assumption) (hr : intBin op k i j = some (.int k (k.wrap m)) := by rfl) (hc : k.wrap m = c := by decide) : Reader P n s o d (.lit (.int k c)) := Reader.sum ho hx hy hr hc
theorem zw (m c : Int) {op : BinOp} (ho : o.op = .binOp op t x y t' := by rfl) (hx : s.eval x = .lit (.int .i64 i) := by first | rfl | assumption) (hy : s.eval y = .lit (.int .i64 j) := by first | rfl | assumption) (hr : intBin op .i64 i j = some (.int .i64 (IntKind.i64.wrap m)) := by rfl)
    (hc : IntKind.i64.wrap m = c := by first | exact IntWalk.i64_in _ (by omega) | exact IntWalk.i64_in _ (by constructor <;> omega) | (simp only []; omega)) : Reader P n s o d (.lit (.int .i64 c)) := Reader.sum ho hx hy hr hc
theorem zp (b : Bool) (v : AV) {c : Operand} (ho : o.op = .pick c x y := by rfl) (hb : s.eval c = .lit (.bool b) := by first | rfl | assumption) (hx : Operand.ok x = true := by rfl) (hy : Operand.ok y = true := by rfl) (hv : (if b then s.eval x else s.eval y).un = v := by first | rfl | exact pk_t (by assumption) rfl | exact pk_f (by assumption) rfl) : Reader P n s o d v := Reader.pick ho hb (ok_const hx) (ok_const hy) hv
theorem zn (b : Bool) (ho : o.op = .unOp .not t x := by rfl) (hx : s.eval x = .lit (.bool b) := by first | rfl | assumption) : Reader P n s o d (.lit (.bool !b)) := Reader.not ho hx
theorem zt (r : Bool) {op : BinOp} {l m : List UInt8} (ho : o.op = .binOp op t x y t' := by rfl) (hx : s.eval x = .str l := by first | rfl | assumption) (hy : s.eval y = .str m := by first | rfl | assumption) (hr : strBin op l m = some r := by rfl) : Reader P n s o d (.lit (.bool r)) := Reader.strs ho hx hy hr
theorem zx (v : AV) {cs : List AV} {r m : Nat} (ho : o.op = .extract (.tmp r) m := by rfl) (hx : s.get r = .tuple cs := by first | rfl | assumption) (hc : cs[m]? = some v := by rfl) (hf : v.un.flat = true := by rfl) : Reader P n s o d v.un := Reader.extract ho hx hc hf
theorem zlL {cells : List AV} (v : AV) {k0 kk size : Nat} {D : TypeDesc} (hu : P.underlying t = some D) (hs : SizeOf P t size) (ho : o.op = .load t x := by rfl) (hx : s.eval x = .lptr k0 kk := by first | rfl | assumption) (hc : lookL s.loc k0 = some cells := by rfl)
    (hv : loaded (TypeDesc.agg D) size cells kk = some v := by rfl) (hf : v.flat = true := by rfl) : Reader P n s o d v := Reader.loadL ho hu hs hx hc hv hf
theorem zlE {e : AV} (v : AV) {kk size : Nat} {D : TypeDesc} (hu : P.underlying t = some D) (hs : SizeOf P t size) (ho : o.op = .load t x := by rfl) (hx : s.eval x = .eptr e kk := by first | rfl | assumption) (hv : loaded (TypeDesc.agg D) size e.cells kk = some v := by rfl) (hf : v.flat = true := by rfl) : Reader P n s o d v := Reader.loadE ho hu hs hx hv hf
theorem zlG {cells : List AV} (v : AV) {k0 kk size : Nat} {D : TypeDesc} (hu : P.underlying t = some D) (hs : SizeOf P t size) (hc : s.mem k0 = some cells) (ho : o.op = .load t x := by rfl) (hx : s.eval x = .gptr k0 kk := by first | rfl | assumption)
    (hv : loaded (TypeDesc.agg D) size cells kk = some v := by rfl) (hf : v.flat = true := by rfl) (hall : cells.all AV.scalar = true := by first | rfl | (simp only [List.all_cons, List.all_nil, *]; rfl)) : Reader P n s o d v := Reader.loadG ho hu hs hx hc hv hf hall
theorem zfL {kk k0 f off size : Nat} {ft : TypeId} {fs : Array Field} {F : Field} (hu : P.underlying t = some (.struct fs)) (hs : SizeOf P ft size) (ho : o.op = .fieldAddr t x f := by rfl) (hF : fs[f]? = some F := by rfl) (h1 : F.offset = off := by rfl) (h2 : F.type = ft := by rfl) (h0 : size ≠ 0 := by decide) (hx : s.eval x = .lptr kk k0 := by first | rfl | assumption) :
    Reader P n s o d (.lptr kk (k0 + off)) := Reader.fieldL ho ⟨_, _, hu, hF, h1, h2, hs⟩ h0 hx
theorem zfE {e : AV} {kk f off size : Nat} {ft : TypeId} {fs : Array Field} {F : Field} (hu : P.underlying t = some (.struct fs)) (hs : SizeOf P ft size) (ho : o.op = .fieldAddr t x f := by rfl) (hF : fs[f]? = some F := by rfl) (h1 : F.offset = off := by rfl) (h2 : F.type = ft := by rfl) (h0 : size ≠ 0 := by decide) (hx : s.eval x = .eptr e kk := by first | rfl | assumption) :
    Reader P n s o d (.eptr e (kk + off)) := Reader.fieldE ho ⟨_, _, hu, hF, h1, h2, hs⟩ h0 hx
theorem zfG {kk k0 f off size : Nat} {ft : TypeId} {fs : Array Field} {F : Field} (hu : P.underlying t = some (.struct fs)) (hs : SizeOf P ft size) (ho : o.op = .fieldAddr t x f := by rfl) (hF : fs[f]? = some F := by rfl) (h1 : F.offset = off := by rfl) (h2 : F.type = ft := by rfl) (h0 : size ≠ 0 := by decide) (hx : s.eval x = .gptr kk k0 := by first | rfl | assumption) :
    Reader P n s o d (.gptr kk (k0 + off)) := Reader.fieldG ho ⟨_, _, hu, hF, h1, h2, hs⟩ h0 hx
theorem zL {o' : Bool} {E' : TypeId} (xs : List AV) {c : Call} (m : Nat) (hu : P.underlying t = some (.slice E)) (hm : xs.length = m) (ho : o.op = .call c := by rfl) (hc : c.callee = .builtin .len := by rfl) (ha : c.args = #[x] := by rfl) (ht : c.argTypes = #[t] := by rfl) (hx : s.eval x = .list o' E' xs := by first | rfl | assumption) :
    Reader P n s o d (.lit (.int .i64 m)) := Reader.len' ho hc ha ht hu hx hm
theorem zS (l : List UInt8) {c : Call} (m : Nat) (hu : P.underlying t = some .string) (hm : l.length = m := by rfl) (ho : o.op = .call c := by rfl) (hc : c.callee = .builtin .len := by rfl) (ha : c.args = #[x] := by rfl) (ht : c.argTypes = #[t] := by rfl) (hx : s.eval x = .str l := by first | rfl | assumption) :
    Reader P n s o d (.lit (.int .i64 m)) := Reader.lenStr' ho hc ha ht hu hx hm
theorem zT {v : AV} {r : Nat} (hv : s.get r = v) (k : AOps P n ops rest { s with fr := (d, v) :: (r, v.un) :: s.fr } Q) (ho : o.op = .move (.tmp r) ∨ o.op = .assign (.tmp r) := by first | exact .inl rfl | exact .inr rfl) (hg : Wants ops s o := by first | exact trivial | exact ⟨_, rfl, rfl⟩) (hd : o.dst = some d := by rfl) (hn : d < n := by decide) (hrd : r ≠ d := by decide) :
    AOps P n ops (o :: rest) s Q := AOps.steal hg hd hn hrd ho hv k
theorem zst {size : Nat} (hs : SizeOf P t size) (v : AV) {cells : List AV} {k0 off : Nat} (k : AOps P n ops rest { s with loc := (k0, splice cells off v.cells) :: s.loc } Q) (ho : o.op = .store t x y := by rfl) (hx : s.eval x = .lptr k0 off := by first | rfl | assumption) (hc : lookL s.loc k0 = some cells := by rfl) (hy : (s.eval y).un = v := by rfl) (hf : v.flat = true := by rfl) (hok : Operand.ok y = true := by rfl) (hp : v.part = true := by rfl)
    (hfl : v.cells.all AV.flat = true := by rfl) (hsz : v.cells.length = size := by rfl) (hfit : (off + size).ble cells.length = true := by rfl) (hg : Wants ops s o := by first | exact trivial | exact ⟨_, rfl, rfl⟩) (hd : o.dst = none := by rfl) : AOps P n ops (o :: rest) s Q :=
  AOps.storeL hg hd ho hx hc hs (.inl ⟨hy, hf⟩) hok hp (all_flat hfl) hsz (Nat.le_of_ble_eq_true hfit) k
theorem zal (Es : List TypeId) {z : Value} (hz : (P.info? t).map (·.zero) = some (some z)) (cells : List AV) (k : AOps P n ops rest { s with fr := (d, .lptr d 0) :: s.fr, loc := (d, cells) :: s.loc } Q) (ho : o.op = .alloc t := by rfl) (hd : o.dst = some d := by rfl) (hnl : lookL s.loc d = none := by rfl) (hno : s.fr.all (fun p => p.2.notL d) = true := by rfl) (hz1 : z.cells.toList.all (fun c => c.oneCell') = true := by rfl)
    (hc : zcells z.cells.toList Es = cells := by rfl) (hsc : cells.all AV.scalar = true := by rfl) (hfl : cells.all AV.flat = true := by rfl) (hg : Wants ops s o := by first | exact trivial | exact ⟨_, rfl, rfl⟩) (hn : d < n := by decide) : AOps P n ops (o :: rest) s Q :=
  AOps.alloc hg hd hn hnl (noL hno) ho hz hz1 hc (all_scalar hsc) (all_flat hfl) k
theorem zc {f : FuncId} {c : Call} (args : List AV) {R : AV → (Nat → Option (List AV)) → Prop} (henter : ∀ (vs : Array Value) (w : World), (callFunc f vs).run P w = .ok (.enter f vs) w) (h : ACall P f args s.mem R) (k : ∀ r M, R r M → AOps P n ops rest { (s.put d r) with mem := M } Q)
    (ho : o.op = .call c := by rfl) (hc : c.callee = .value (.func f) := by rfl) (hcon : c.args.toList.all Operand.ok = true := by rfl) (hargs : ArgsL s c.args.toList args := by repeat' first | exact al0 | refine al1 ?_ rfl rfl | refine al2 ?_ | refine al3 ?_ (by assumption) rfl rfl)
    (hg : Wants ops s o := by first | exact trivial | exact ⟨_, rfl, rfl⟩) (hd : o.dst = some d := by rfl) (hn : d < n := by decide) : AOps P n ops (o :: rest) s Q :=
  AOps.call hg hd hn ho hc henter (args_ok hcon) (by simpa using hargs.len) (fun j x v h1 h2 => hargs.at j x v (by simpa using h1) h2) h k
theorem zcE {f : FuncId} {c : Call} (args : List AV) (v : AV) {u0 : Value} {M' : (Nat → Option (List AV)) → Prop} (henter : ∀ (vs : Array Value) (w : World), (callFunc f vs).run P w = .ok (.enter f vs) w) (h : ACall P f args noM (fun r M1 => r = v ∧ M' M1)) (k : AOpsE P n ops rest (s.put d v) Q) (hv : conc v = some u0 := by rfl)
    (ho : o.op = .call c := by rfl) (hc : c.callee = .value (.func f) := by rfl) (hcon : c.args.toList.all Operand.ok = true := by rfl) (hargs : ArgsL s c.args.toList args := by repeat' first | exact al0 | refine al1 ?_ rfl rfl | refine al2 ?_ | refine al3 ?_ (by assumption) rfl rfl)
    (hg : Wants ops s o := by first | exact trivial | exact ⟨_, rfl, rfl⟩) (hd : o.dst = some d := by rfl) (hn : d < n := by decide) : AOpsE P n ops (o :: rest) s Q :=
  AOpsE.call hg hd hn ho hc henter (args_ok hcon) (by simpa using hargs.len) (fun j x v h1 h2 => hargs.at j x v (by simpa using h1) h2) h hv k
theorem zb (xs : List (Nat × AV)) (Es : List TypeId) {ps : Array (Nat × Operand)} {zs : Array Value} (cs : List AV) {fs : Array Field} {places : List (Nat × Nat)} (hu : P.underlying t = some (.struct fs)) (hz : (P.info? t).map (·.zero) = some (some (.agg zs))) (hpl : ∀ w : World, (fs.mapM fun f => (do pure (f.offset, ← sizeOf f.type) : Sem (Nat × Nat))).run P w = .ok places.toArray w)
    (ho : o.op = .build t ps := by rfl) (hp : PartsL s ps.toList xs := by repeat' first | exact pl0 | refine pl1 ?_ rfl rfl rfl rfl rfl | refine pl2 ?_ | refine pl3 ?_ rfl (by assumption) rfl rfl rfl rfl) (hz1 : zs.toList.all (fun c => c.oneCell') = true := by rfl) (hf : fillA (places[·]?) (zcells zs.toList Es) xs = some cs := by rfl) : Reader P n s o d (.agg cs) :=
  Reader.build ho hu hp.of hz hz1 hpl hf
theorem zbS {len size : Nat} {ps : Array (Nat × Operand)} {z : Value} (Es : List TypeId) (xs : List AV) {i : TypeInfo} (hu : P.underlying t = some (.slice E)) (hi : P.info? E = some i) (k : AOps P n ops rest (s.put d (.list true E xs)) Q) (ho : o.op = .buildSlice t len ps := by rfl) (hsz : i.size = size := by rfl) (hz : i.zero = some z := by rfl) (hz1 : z.cells.toList.all (fun c => c.oneCell') = true := by rfl)
    (hpos : ¬ len * size > 2 ^ 24 ∧ ¬ len * size = 0 := by decide) (hp : PartsL s ps.toList (ysOf 0 xs) := by repeat' first | exact pl0 | refine pl1 ?_ rfl rfl rfl rfl rfl | refine pl2 ?_ | refine pl3 ?_ rfl (by assumption) rfl rfl rfl rfl) (hf : fillA (fun i => some (i * size, size)) (zcells (List.replicate len z.cells.toList).flatten Es) (ysOf 0 xs) = some (xs.flatMap AV.cells) := by rfl) (hzs : z.cells.size = size := by rfl)
    (hl : (xs.all fun x => x.cells.length == size) = true := by rfl) (hsc : (xs.all fun x => x.cells.all AV.scalar) = true := by rfl) (hlen : xs.length = len := by rfl) (hg : Wants ops s o := by first | exact trivial | exact ⟨_, rfl, rfl⟩) (hd : o.dst = some d := by rfl) (hn : d < n := by decide) : AOps P n ops (o :: rest) s Q :=
  AOps.buildSlice hg hd hn ho hu hi hsz hz hz1 hpos hp.of hf hzs rfl (all_len hl) (all_sc hsc) hlen k
theorem zj {id : Nat} {c : Code} (d : Nat) (fr : List (Nat × AV)) (loc : List (Nat × List AV)) (M : Nat → Option (List AV)) (z : Bool) (h : AOps P n ops ops.toList s (Fin (d :: fr.map Prod.fst) (loc.map Prod.fst) (fun z => ⟨(d, .lit (.bool z)) :: fr, loc, M⟩) z)) (k : AWp P n c ⟨(d, .lit (.bool z)) :: fr, loc, M⟩ QE) :
    AWp P n (.seq (.region id ops false) c) s QE := AWp.regionJ _ _ _ h k
theorem zC {c : Operand} {x y : Code} {b : Bool} (hc : s.eval c = .lit (.bool b)) (hT : b = true → AWp P n x s QE) (hF : b = false → AWp P n y s QE) : AWp P n (.cond c x y) s QE := AWp.cond hc hT hF
theorem zg {id : Nat} {y : Code} (h : AOps P n ops ops.toList s fun s' => AWp P n y s' QE) : AWp P n (.seq (.region id ops false) y) s QE := AWp.seq (AWp.region h)
theorem zN (h : Q s) : AOps P n ops [] s Q := AOps.nil h
theorem zel {ow : Bool} {xs : List AV} {size : Nat} (m : Nat) (e : AV) (hu : P.underlying t = some (.slice E)) (hs : SizeOf P E size) (he : xs[m]? = some e) (ho : o.op = .indexAddr t x y := by rfl) (hx : s.eval x = .list ow E xs := by first | rfl | assumption)
    (hy : s.eval y = .lit (.int k i) := by first | rfl | assumption) (hi : i = m := by rfl) : Reader P n s o d (.eptr e 0) := Reader.elemAddr ho hu hs hx hy hi he
theorem znc (v : AV) (ho : o.op = .nilCheck x := by rfl) (hx : s.eval x = v := by first | rfl | assumption) (hv : (∃ k f, v = .lptr k f) ∨ (∃ k f, v = .gptr k f) ∨ ∃ e k, v = .eptr e k := by first | exact .inl ⟨_, _, rfl⟩ | exact .inr (.inl ⟨_, _, rfl⟩) | exact .inr (.inr ⟨_, _, rfl⟩)) : Reader P n s o d v := Reader.nilCheck ho hx hv
theorem ziL {kk k0 size len : Nat} (m : Nat) (hu : P.underlying t = some (.array len E)) (hs : SizeOf P E size) (ho : o.op = .indexAddr t x y := by rfl) (hx : s.eval x = .lptr kk k0 := by first | rfl | assumption) (hy : s.eval y = .lit (.int k i) := by first | rfl | assumption) (hi : i = m := by rfl) (hm : m < len := by decide) : Reader P n s o d (.lptr kk (k0 + m * size)) := Reader.indexL ho hu hs hx hy hi hm
theorem ziE {e : AV} {k0 size len : Nat} (m : Nat) (hu : P.underlying t = some (.array len E)) (hs : SizeOf P E size) (ho : o.op = .indexAddr t x y := by rfl) (hx : s.eval x = .eptr e k0 := by first | rfl | assumption) (hy : s.eval y = .lit (.int k i) := by first | rfl | assumption) (hi : i = m := by rfl) (hm : m < len := by decide) : Reader P n s o d (.eptr e (k0 + m * size)) := Reader.indexE ho hu hs hx hy hi hm
theorem ziG {kk k0 size len : Nat} (m : Nat) (hu : P.underlying t = some (.array len E)) (hs : SizeOf P E size) (ho : o.op = .indexAddr t x y := by rfl) (hx : s.eval x = .gptr kk k0 := by first | rfl | assumption) (hy : s.eval y = .lit (.int k i) := by first | rfl | assumption) (hi : i = m := by rfl) (hm : m < len := by decide) : Reader P n s o d (.gptr kk (k0 + m * size)) := Reader.indexG ho hu hs hx hy hi hm
theorem zcv {r f : Nat} {c : Call} (ars cap args : List AV) {R : AV → (Nat → Option (List AV)) → Prop} (henter : ∀ (vs : Array Value) (w : World), (callFunc f vs).run P w = .ok (.enter f vs) w) (h : ACall P f args s.mem R) (k : ∀ r M, R r M → AOps P n ops rest { (s.put d r) with mem := M } Q)
    (ho : o.op = .call c := by rfl) (hc : c.callee = .value (.tmp r) := by rfl) (hfn : s.get r = .fn f cap := by first | rfl | assumption) (hcon : c.args.toList.all Operand.ok = true := by rfl) (hargs : ArgsL s c.args.toList ars := by repeat' first | exact al0 | refine al1 ?_ rfl rfl | refine al2 ?_ | refine al3 ?_ (by assumption) rfl rfl)
    (hall : ars ++ cap = args := by rfl) (hg : Wants ops s o := by first | exact trivial | exact ⟨_, rfl, rfl⟩) (hd : o.dst = some d := by rfl) (hn : d < n := by decide) : AOps P n ops (o :: rest) s Q :=
  AOps.callV hg hd hn ho hc hfn henter (args_ok hcon) (by simpa using hargs.len) (fun j x v h1 h2 => hargs.at j x v (by simpa using h1) h2) hall h k
theorem zap {r : Nat} {tx : TypeId} (bytes : Nat) {size : Nat} {ti : TypeInfo} {z : Value} {o2 : Bool} (xs ys zs : List AV) {c : Call} {m1 m2 : Nat} (ht : P.underlying t = some (.slice E)) (htx : P.underlying tx = some (.slice E)) (hi : P.info? E = some ti) (hm1 : xs.length = m1) (hm2 : ys.length = m2) (hzz : xs ++ ys = zs)
    (k : AOps P n ops rest { s with fr := (d, .list true E zs) :: (r, .list false E xs) :: s.fr } Q) (h63 : m1 + m2 ≤ maxLen := by first | omega | (unfold maxLen; omega)) (hb : (m1 + m2) * bytes ≤ 140737488355328 := by omega)
    (ho : o.op = .call c := by rfl) (hc : c.callee = .builtin .append := by rfl) (ha : c.args = #[.tmp r, y] := by rfl) (hat : c.argTypes = #[t, tx] := by rfl) (hz : ti.zero = some z := by rfl) (hsz : ti.size = size := by rfl) (hby : ti.bytes = bytes := by rfl) (hzs : z.cells.size = size := by rfl)
    (hx : s.get r = .list true E xs := by first | rfl | assumption) (hy : s.eval y = .list o2 E ys := by first | rfl | assumption) (hg : Wants ops s o := by first | exact trivial | exact ⟨_, rfl, rfl⟩) (hd : o.dst = some d := by rfl) (hn : d < n := by decide) (hrd : r ≠ d := by decide) : AOps P n ops (o :: rest) s Q :=
  AOps.appL hg hd hn hrd ho hc ha hat ht htx hi hz hsz hby hzs hx hy hm1 hm2 h63 hb hzz k
theorem zk {listed : Array Bool} {kf : Nat} {v : AV} (i : Nat) (ho : ops[i]? = some o) (h : PReader P n s o d v) (hk : SAny P n ops Q kf (listed.setIfInBounds i true) (s.put d v)) (hs : Region.noSelect ops = true := by kernel_rfl) (hf : Region.free .any ops listed i = true := by kernel_rfl) (hr : (Region.ready .any ops listed).contains i = true := by kernel_rfl)
    (hg : Wants ops s o := by first | exact trivial | exact ⟨_, rfl, rfl⟩) (hd : o.dst = some d := by rfl) (hn : d < n := by decide) : SAny P n ops Q (kf + 1) listed s := SAny.take i ho hs hf hr hg hd hn h hk
theorem zkm {listed : Array Bool} {kf : Nat} (i : Nat) (v : AV) (hk : SAny P n ops Q kf (listed.setIfInBounds i true) (s.put d v)) (ho : ops[i]? = some o := by rfl) (hm : o.op = .move x ∨ o.op = .assign x := by first | exact .inl rfl | exact .inr rfl) (hc : Operand.ok x = true := by rfl) (hv : (s.eval x).un = v := by first | rfl | exact un_of (by assumption) rfl) (hs : Region.noSelect ops = true := by kernel_rfl) (hf : Region.free .any ops listed i = true := by kernel_rfl) (hr : (Region.ready .any ops listed).contains i = true := by kernel_rfl)
    (hg : Wants ops s o := by first | exact trivial | exact ⟨_, rfl, rfl⟩) (hd : o.dst = some d := by rfl) (hn : d < n := by decide) : SAny P n ops Q (kf + 1) listed s := SAny.take i ho hs hf hr hg hd hn (PReader.move hm (ok_const hc) hv) hk
def StepL (P : Program) (n : Nat) (ops : Array Oper) (Q : St → Prop) (k : Nat) (listed : Array Bool) (s : St) : List Nat → Prop
  | [] => True
  | i :: r => (∃ o, ops[i]? = some o ∧ AOps P n ops [o] s fun s' => SAny P n ops Q k (listed.setIfInBounds i true) s') ∧ StepL P n ops Q k listed s r
theorem StepL.all {listed : Array Bool} {kf : Nat} : ∀ {rs : List Nat}, StepL P n ops Q kf listed s rs → ∀ i ∈ rs, ∃ o, ops[i]? = some o ∧ AOps P n ops [o] s fun s' => SAny P n ops Q kf (listed.setIfInBounds i true) s'
  | [], _, i, h => by cases h
  | a :: r, h, i, hi => by
    rcases List.mem_cons.1 hi with rfl | hi
    · exact h.1
    · exact StepL.all h.2 i hi
theorem zq {listed : Array Bool} {kf : Nat} (rs : List Nat) (h : StepL P n ops Q kf listed s rs) (hr : Region.ready .any ops listed = rs := by kernel_rfl) (h0 : rs ≠ [] := by decide) : SAny P n ops Q (kf + 1) listed s := SAny.step rs hr h0 h.all
end
end Go.Proofs.Ytfnbfkgknfagmaa
