/- Abstract values: from a body to what a call answers. -/
import Derived.Test.YtfnbfkgknfagmaaAvCall
namespace Go.Proofs.Ytfnbfkgknfagmaa
open Go.RowKit

def entryFr : Nat → List AV → List (Nat × AV)
  | _, [] => []
  | i, x :: r => (i, x) :: entryFr (i + 1) r

theorem look_entry (xs : List AV) : ∀ (i j : Nat), look .any (entryFr i xs) (i + j) = (xs[j]?).getD .any := by
  induction xs with
  | nil => intro i j; rfl
  | cons x r ih =>
    intro i j
    cases j with
    | zero => simp [entryFr, look]
    | succ j =>
      simp only [entryFr, look]
      rw [if_neg (by omega), show i + (j + 1) = (i + 1) + j by omega, ih]
      simp

/-- The ghost behind the body: what the slots owned, the answer owns. -/
def Gh.leave (G : Gh) (lab : Nat → Nat → Option Nat) : Gh :=
  { G with owner := fun b => match G.owner b with
      | some (.slot i c) => (lab i c).map .res
      | some (.mb id) => some (.mb id)
      | some (.mc id j) => some (.mc id j)
      | _ => none }

section
variable {P : Program} {G : Gh} {w : World} {lab : Nat → Nat → Option Nat}

theorem leave_stab : Stab G w (G.leave lab) w := ⟨fun _ => Nat.le_refl _, fun _ _ _ => rfl, fun _ _ h => h⟩
theorem leave_slot {i c m : Nat} {b : Nat} (h : G.owner b = some (.slot i c)) (hl : lab i c = some m) : (G.leave lab).owner b = some (.res m) := by
  have : (match G.owner b with
      | some (.slot i c) => (lab i c).map Pos.res
      | some (.mb id) => some (.mb id)
      | some (.mc id j) => some (.mc id j)
      | _ => none) = some (.res m) := by rw [h]; simp [hl]
  exact this
theorem leave_glob {q : Pos} {b : Nat} (h : G.owner b = some q) (hq : q.glob = true) : (G.leave lab).owner b = some q := by
  have : (match G.owner b with
      | some (.slot i c) => (lab i c).map Pos.res
      | some (.mb id) => some (.mb id)
      | some (.mc id j) => some (.mc id j)
      | _ => none) = some q := by rw [h]; cases q <;> first | rfl | cases hq
  exact this
theorem leave_none {b : Nat} (h : G.owner b = none) : (G.leave lab).owner b = none := by
  have : (match G.owner b with
      | some (.slot i c) => (lab i c).map Pos.res
      | some (.mb id) => some (.mb id)
      | some (.mc id j) => some (.mc id j)
      | _ => none) = none := by rw [h]
  exact this
theorem leave_keep : Keep G w (G.leave lab) w := ⟨rfl, rfl, rfl, Nat.le_refl _, fun _ _ h => ⟨leave_none h, rfl, rfl⟩, leave_stab⟩
theorem RelM.leave {M : Nat → Option (List AV)} (h : RelM P G w M) : RelM P (G.leave lab) w M :=
  h.move leave_stab (Nat.le_refl _) (fun q b hq _ h2 => ⟨leave_glob h2 hq, rfl, rfl⟩) (fun b hb => ⟨(h.far b hb).1, leave_none (h.far b hb).2⟩) rfl

theorem RelS.toO {x : AV} {v : Value} {p : Nat → Pos} (h : RelS P G w p x v) (hx : x.flat = true ∨ ∃ E xs, x = .list true E xs) : RelO P G w (p 0) x v := by
  rcases hx with hx | ⟨E, xs, rfl⟩
  · cases x with
    | lptr | eptr | tuple | pin => cases hx
    | _ => exact h
  · exact h
end

/-- What the answer is, at the end of a body. -/
inductive ResOf (P : Program) (s : St) : Array ResultVar → AV → Prop
  | none : ResOf P s #[] (.tuple [])
  | one (t : Nat) (x : AV) (h : s.get t = x) (hl : x.isL = false) : ResOf P s #[.tmp t] x
  | two (t u : Nat) (x y : AV) (hx : s.get t = x) (hy : s.get u = y) (fx : x.flat = true ∨ ∃ E xs, x = .list true E xs) (fy : y.flat = true ∨ ∃ E xs, y = .list true E xs) (ht : t ≠ u) : ResOf P s #[.tmp t, .tmp u] (.tuple [x, y])
  | three (t u r : Nat) (x y z : AV) (hx : s.get t = x) (hy : s.get u = y) (hz : s.get r = z) (fx : x.flat = true ∨ ∃ E xs, x = .list true E xs) (fy : y.flat = true ∨ ∃ E xs, y = .list true E xs) (fz : z.flat = true ∨ ∃ E xs, z = .list true E xs)
      (ht : t ≠ u ∧ t ≠ r ∧ u ≠ r) : ResOf P s #[.tmp t, .tmp u, .tmp r] (.tuple [x, y, z])
  | cell (t k off size : Nat) (T : TypeId) (D : TypeDesc) (cells : List AV) (x : AV) (hx : s.get t = .lptr k off) (hc : lookL s.loc k = some cells) (hu : P.underlying T = some D) (hs : SizeOf P T size) (hv : loaded (TypeDesc.agg D) size cells off = some x) (hf : x.flat = true) :
      ResOf P s #[.cell t T] x
  | cellTmp (t k off size : Nat) (T : TypeId) (D : TypeDesc) (cells : List AV) (x : AV) (hx : s.get t = .lptr k off) (hc : lookL s.loc k = some cells) (hu : P.underlying T = some D) (hs : SizeOf P T size) (hv : loaded (TypeDesc.agg D) size cells off = some x) (hf : x.flat = true)
      (u : Nat) (y : AV) (hy : s.get u = y) (fy : y.flat = true ∨ ∃ E xs, y = .list true E xs) : ResOf P s #[.cell t T, .tmp u] (.tuple [x, y])
  | tmpCellTmp (r : Nat) (z : AV) (hz : s.get r = z) (fz : z.flat = true ∨ ∃ E xs, z = .list true E xs) (t k off size : Nat) (T : TypeId) (D : TypeDesc) (cells : List AV) (x : AV) (hx : s.get t = .lptr k off) (hc : lookL s.loc k = some cells) (hu : P.underlying T = some D) (hs : SizeOf P T size) (hv : loaded (TypeDesc.agg D) size cells off = some x) (hf : x.flat = true)
      (u : Nat) (y : AV) (hy : s.get u = y) (fy : y.flat = true) (hru : r ≠ u) : ResOf P s #[.tmp r, .cell t T, .tmp u] (.tuple [z, x, y])
  | cellTmpTmp (t k off size : Nat) (T : TypeId) (D : TypeDesc) (cells : List AV) (x : AV) (hx : s.get t = .lptr k off) (hc : lookL s.loc k = some cells) (hu : P.underlying T = some D) (hs : SizeOf P T size) (hv : loaded (TypeDesc.agg D) size cells off = some x) (hf : x.flat = true)
      (u : Nat) (y : AV) (hy : s.get u = y) (fy : y.flat = true) (r : Nat) (z : AV) (hz : s.get r = z) (fz : z.flat = true) (hru : u ≠ r) : ResOf P s #[.cell t T, .tmp u, .tmp r] (.tuple [x, y, z])

theorem flat_isL {x : AV} (h : x.flat = true) : x.isL = false := by cases x <;> first | rfl | cases h

section
variable {P : Program} {f : FuncId} {fn : Func} {c : Code} {args : List AV} {M : Nat → Option (List AV)} {R : AV → (Nat → Option (List AV)) → Prop}

theorem RelSt.cellRes {G : Gh} {n : Nat} {s : St} {a : Act} {w : World} (hr : RelSt P G n s a w) {t k off size : Nat} {T : TypeId} {D : TypeDesc} {cells : List AV} {x : AV} (hx : s.get t = .lptr k off) (hc : lookL s.loc k = some cells) (hu : P.underlying T = some D) (hs : SizeOf P T size) (hv : loaded (TypeDesc.agg D) size cells off = some x) :
    ∃ u ad, a.tmps[t]?.getD undef = .pointer (some ad) ∧ (loadVar T ad).run P w = .ok u w ∧ RelV P G w x u := by
  have hp := hr.slot t
  rw [hx] at hp
  have hav : a.tmps[t]?.getD undef = .pointer (some ⟨G.lb k, off, none⟩) := by rw [← Array.getD_eq_getD_getElem?]; exact hp
  obtain ⟨arr, T', hh, hsz, _, _, hsc, hrr⟩ := hr.loc k cells hc
  obtain ⟨u, hu1, hu2⟩ := run_loadVar_cells (w := w) (w' := w) (b := G.lb k) (o := 0) (us := fun j => arr.getD j undef) (G := G) (Below.refl _ _) hu hs hv (fun j c hj => by
    have hjl := (List.getElem?_eq_some_iff.1 hj).1
    have e : arr[j]? = some (arr.getD j undef) := by rw [Array.getD_eq_getD_getElem?, Array.getElem?_eq_getElem (by omega)]; rfl
    refine ⟨by simp only [World.cell?, hh, Option.isSome_none, Bool.false_eq_true, if_false, Nat.zero_add]; exact e, (hrr j c _ hj e).un (hsc c (List.mem_of_getElem? hj))⟩)
  have hrun := hu2 w (Below.refl _ _)
  rw [Nat.zero_add] at hrun
  exact ⟨u, _, hav, hrun, hu1⟩
theorem RelSt.results {G : Gh} {n : Nat} {s : St} {a : Act} {w : World} (hr : RelSt P G n s a w) {r : AV} (h : ResOf P s fn.results r) :
    ∃ u lab, (results fn a.tmps).run P w = .ok u w ∧ RelS P (G.leave lab) w .res r u ∧ r.isL = false := by
  generalize hrs : fn.results = rs at h
  cases h with
  | none => exact ⟨_, fun _ _ => none, by simp [Go.results, hrs], ⟨[], rfl, rfl, fun j c u h => by simp at h⟩, rfl⟩
  | one t _ hx hl =>
    subst hx
    refine ⟨a.tmps.getD t undef, fun i c => if i = t then some c else none, by simp [Go.results, hrs], ?_, hl⟩
    exact (hr.slot t).move leave_stab (Nat.le_refl _) (fun _ _ _ => rfl) (fun c b _ h2 => ⟨leave_slot h2 (by simp), rfl, rfl⟩)
  | two t u x y hx hy fx fy ht =>
    subst hx
    subst hy
    refine ⟨.tuple #[a.tmps.getD t undef, a.tmps.getD u undef], fun i c => if i = t then some 0 else if i = u then some 1 else none, by simp [Go.results, hrs], ⟨[_, _], rfl, rfl, fun j c v hc hv => ?_⟩, rfl⟩
    match j with
    | 0 =>
      simp only [List.getElem?_cons_zero, List.getElem?_cons_succ, Option.some.injEq] at hc hv; subst hc; subst hv
      exact ((hr.slot t).toO fx).move leave_stab (Nat.le_refl _) (fun b _ h2 => ⟨leave_slot h2 (by simp), rfl, rfl⟩)
    | 1 =>
      simp only [List.getElem?_cons_zero, List.getElem?_cons_succ, Option.some.injEq] at hc hv; subst hc; subst hv
      exact ((hr.slot u).toO fy).move leave_stab (Nat.le_refl _) (fun b _ h2 => ⟨leave_slot h2 (by simp [Ne.symm ht]), rfl, rfl⟩)
    | j + 2 => simp only [List.getElem?_cons_succ, List.getElem?_nil] at hc; cases hc
  | three t u r x y z hx hy hz fx fy fz ht =>
    subst hx
    subst hy
    subst hz
    obtain ⟨h1, h2, h3⟩ := ht
    refine ⟨.tuple #[a.tmps.getD t undef, a.tmps.getD u undef, a.tmps.getD r undef], fun i c => if i = t then some 0 else if i = u then some 1 else if i = r then some 2 else none, by simp [Go.results, hrs], ⟨[_, _, _], rfl, rfl, fun j c v hc hv => ?_⟩, rfl⟩
    match j with
    | 0 =>
      simp only [List.getElem?_cons_zero, List.getElem?_cons_succ, Option.some.injEq] at hc hv; subst hc; subst hv
      exact ((hr.slot t).toO fx).move leave_stab (Nat.le_refl _) (fun b _ h2 => ⟨leave_slot h2 (by simp), rfl, rfl⟩)
    | 1 =>
      simp only [List.getElem?_cons_zero, List.getElem?_cons_succ, Option.some.injEq] at hc hv; subst hc; subst hv
      exact ((hr.slot u).toO fy).move leave_stab (Nat.le_refl _) (fun b _ h2 => ⟨leave_slot h2 (by simp [Ne.symm h1]), rfl, rfl⟩)
    | 2 =>
      simp only [List.getElem?_cons_zero, List.getElem?_cons_succ, Option.some.injEq] at hc hv; subst hc; subst hv
      exact ((hr.slot r).toO fz).move leave_stab (Nat.le_refl _) (fun b _ h4 => ⟨leave_slot h4 (by simp [Ne.symm h2, Ne.symm h3]), rfl, rfl⟩)
    | j + 3 => simp only [List.getElem?_cons_succ, List.getElem?_nil] at hc; cases hc
  | cell t k off size T D cells _ hx hc hu hs hv hf =>
    obtain ⟨u, ad, h1, h2, h3⟩ := hr.cellRes hx hc hu hs hv
    exact ⟨u, fun _ _ => none, by simp [Go.results, hrs, h1, asAddr, h2], (h3.stab leave_stab).toS hf, flat_isL hf⟩
  | cellTmp t k off size T D cells x hx hc hu hs hv hf u y hy fy =>
    obtain ⟨v, ad, h1, h2, h3⟩ := hr.cellRes hx hc hu hs hv
    subst hy
    refine ⟨.tuple #[v, a.tmps.getD u undef], fun i c => if i = u then some 1 else none, by simp [Go.results, hrs, h1, asAddr, h2], ⟨[_, _], rfl, rfl, fun j c v' hc hv => ?_⟩, rfl⟩
    match j with
    | 0 =>
      simp only [List.getElem?_cons_zero, Option.some.injEq] at hc hv; subst hc; subst hv
      exact RelS.toO (p := fun _ => .res _) ((h3.stab leave_stab).toS hf) (.inl hf)
    | 1 =>
      simp only [List.getElem?_cons_zero, List.getElem?_cons_succ, Option.some.injEq] at hc hv; subst hc; subst hv
      exact ((hr.slot u).toO fy).move leave_stab (Nat.le_refl _) (fun b _ h2 => ⟨leave_slot h2 (by simp), rfl, rfl⟩)
    | j + 2 => simp only [List.getElem?_cons_succ, List.getElem?_nil] at hc; cases hc
  | tmpCellTmp r z hz fz t k off size T D cells x hx hc hu hs hv hf u y hy fy hru =>
    obtain ⟨v, ad, h1, h2, h3⟩ := hr.cellRes hx hc hu hs hv
    subst hy
    subst hz
    refine ⟨.tuple #[a.tmps.getD r undef, v, a.tmps.getD u undef], fun i c => if i = r then some 0 else if i = u then some 2 else none, by simp [Go.results, hrs, h1, asAddr, h2], ⟨[_, _, _], rfl, rfl, fun j c v' hc hv => ?_⟩, rfl⟩
    match j with
    | 0 =>
      simp only [List.getElem?_cons_zero, Option.some.injEq] at hc hv; subst hc; subst hv
      exact ((hr.slot r).toO fz).move leave_stab (Nat.le_refl _) (fun b _ h2 => ⟨leave_slot h2 (by simp), rfl, rfl⟩)
    | 1 =>
      simp only [List.getElem?_cons_zero, List.getElem?_cons_succ, Option.some.injEq] at hc hv; subst hc; subst hv
      exact RelS.toO (p := fun _ => .res _) ((h3.stab leave_stab).toS hf) (.inl hf)
    | 2 =>
      simp only [List.getElem?_cons_zero, List.getElem?_cons_succ, Option.some.injEq] at hc hv; subst hc; subst hv
      exact ((hr.slot u).toO (.inl fy)).move leave_stab (Nat.le_refl _) (fun b _ h2 => ⟨leave_slot h2 (by simp [Ne.symm hru]), rfl, rfl⟩)
    | j + 3 => simp only [List.getElem?_cons_succ, List.getElem?_nil] at hc; cases hc
  | cellTmpTmp t k off size T D cells x hx hc hu hs hv hf u y hy fy r z hz fz hru =>
    obtain ⟨v, ad, h1, h2, h3⟩ := hr.cellRes hx hc hu hs hv
    subst hy
    subst hz
    refine ⟨.tuple #[v, a.tmps.getD u undef, a.tmps.getD r undef], fun i c => if i = u then some 1 else if i = r then some 2 else none, by simp [Go.results, hrs, h1, asAddr, h2], ⟨[_, _, _], rfl, rfl, fun j c v' hc hv => ?_⟩, rfl⟩
    match j with
    | 0 =>
      simp only [List.getElem?_cons_zero, Option.some.injEq] at hc hv; subst hc; subst hv
      exact RelS.toO (p := fun _ => .res _) ((h3.stab leave_stab).toS hf) (.inl hf)
    | 1 =>
      simp only [List.getElem?_cons_zero, List.getElem?_cons_succ, Option.some.injEq] at hc hv; subst hc; subst hv
      exact ((hr.slot u).toO (.inl fy)).move leave_stab (Nat.le_refl _) (fun b _ h2 => ⟨leave_slot h2 (by simp), rfl, rfl⟩)
    | 2 =>
      simp only [List.getElem?_cons_zero, List.getElem?_cons_succ, Option.some.injEq] at hc hv; subst hc; subst hv
      exact ((hr.slot r).toO (.inl fz)).move leave_stab (Nat.le_refl _) (fun b _ h2 => ⟨leave_slot h2 (by simp [Ne.symm hru]), rfl, rfl⟩)
    | j + 3 => simp only [List.getElem?_cons_succ, List.getElem?_nil] at hc; cases hc

/-- A function, by its body. -/
theorem ACall.of (hf : P.funcs[f]? = some fn) (hb : fn.body = some c) {n : Nat} (hn : fn.ntmps = n) (hp' : args.length.ble n = true) (hfl' : args.all AV.flat = true)
    (h : AWp P n c ⟨entryFr 0 args, [], M⟩ fun e s' => (e = .ret ∨ e = .normal) ∧ ∃ r, ResOf P s' fn.results r ∧ R r s'.mem) : ACall P f args M R := by
  have hp : args.length ≤ n := Nat.le_of_ble_eq_true hp'
  have hfl : ∀ x ∈ args, x.flat = true := List.all_eq_true.1 hfl'
  intro G w vs hm hfx hlen hrel
  subst hn
  refine calls_of_wp hf hb ?_
  have hsz : vs.toArray.size = args.length := by simpa using hlen
  refine h G _ w _ ⟨?_, rfl, fun i => ?_, fun k cells hk => by simp [lookL] at hk, hm⟩ hfx ?_
  · simp [hsz]; omega
  · show RelS P G w (.slot i) (look .any (entryFr 0 args) i) _
    have hlk := look_entry args 0 i
    rw [Nat.zero_add] at hlk
    rw [hlk]
    rcases Nat.lt_or_ge i args.length with hi | hi
    · have e1 : args[i]? = some args[i] := List.getElem?_eq_getElem hi
      have e2 : vs[i]? = some (vs[i]'(by omega)) := List.getElem?_eq_getElem (by omega)
      have e3 : (vs.toArray ++ Array.replicate (fn.ntmps - vs.toArray.size) undef).getD i undef = vs[i]'(by omega) := by
        rw [Array.getD_eq_getD_getElem?, Array.getElem?_append_left (by simp; omega)]
        simp [e2]
      rw [e1, e3]
      exact (hrel i _ _ e1 e2).toS (hfl _ (List.mem_of_getElem? e1))
    · rw [List.getElem?_eq_none hi]
      exact RelS.weak _
  · rintro e s' G' a' w' ⟨he, r, hres, hR⟩ hr' hk
    obtain ⟨u, lab, hrun, hu, hl⟩ := hr'.results hres
    have key : Ending.returned u = Ending.returned u ∧ True := ⟨rfl, trivial⟩
    rcases he with rfl | rfl
    · exact ⟨hr'.defers, u, hrun, r, s'.mem, G'.leave lab, u, rfl, hR, hl, hu, hr'.mem.leave, hk.trans leave_keep⟩
    · exact ⟨hr'.defers, u, hrun, r, s'.mem, G'.leave lab, u, rfl, hR, hl, hu, hr'.mem.leave, hk.trans leave_keep⟩

theorem ACall.mono {R' : AV → (Nat → Option (List AV)) → Prop} (h : ACall P f args M R) (hR : ∀ r M, R r M → R' r M) : ACall P f args M R' := by
  intro G w vs hm hfx hlen hrel
  refine (h G w vs hm hfx hlen hrel).mono ?_
  rintro e w' ⟨r, M', G', u, h1, h2, h3⟩
  exact ⟨r, M', G', u, h1, hR _ _ h2, h3⟩
end
end Go.Proofs.Ytfnbfkgknfagmaa
