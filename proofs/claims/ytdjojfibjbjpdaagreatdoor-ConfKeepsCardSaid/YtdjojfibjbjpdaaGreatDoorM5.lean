/- EvG, EvH, EvD, EvL, LgP, OpenS, OpenP, AvMg, AvMl, Facts. -/
import Derived.Test.YtdjojfibjbjpdaaGreatDoorM4
import Derived.KernelRfl
import Derived.Test.YtdjojfibjbjpdaaGreatDoorM3
import Derived.MapKept
import Derived.Test.YtdjojfibjbjpdaaGreatDoorM2
import Derived.Test.YtdjojfibjbjpdaaGreatDoorPShelf
import Derived.Lib.SmallJoins
import Derived.Lib.AtoiAll
import Derived.Lib.AtoiAllCases
import Derived.Shelf.Vars
import Derived.Shelf.Strings.SlTrimAscii
import Derived.Lib.AppendIntMem
import Derived.Lib.Join
import Derived.Test.YtdjojfibjbjpdaaGreatDoorM1
import Derived.Test.YtdjojfibjbjpdaaGreatDoorProg
namespace Go.Proofs.YtdjojfibjbjpdaaGreatDoor
section
open Go.RowKit

def entE : Nat → List AV → Fr
  | _, [] => []
  | i, x :: r => (i, [], x) :: entE (i + 1) r
theorem entE_st : ∀ (i : Nat) (args : List AV), (entE i args).map (fun p => (p.1, valE [] p.2)) = entryFr i args
  | _, [] => rfl
  | i, x :: r => by
    show (i, valE [] ([], x)) :: (entE (i + 1) r).map _ = _
    rw [entE_st (i + 1) r]; rfl

/-- What a body answers. -/
def cellE (T : Tab) (e : Es) (t ty : Nat) : Option AV :=
  match getV e.fr [] t with
  | .lptr k off => match lookL e.loc k with
    | some cs => match vLoad T ty cs off with
      | some v => bif v.flat then some v else none
      | none => none
    | none => none
  | _ => none
def okR : AV → Bool
  | .list true _ _ => true
  | v => v.flat
def tmpE (e : Es) (t : Nat) : Option AV := (getV e.fr [] t).force fun v => bif okR v then some v else none
def resE (T : Tab) (e : Es) (rs : List ResultVar) : Option AV :=
  match rs with
  | [] => some (.tuple [])
  | [.tmp t] => (getV e.fr [] t).force fun v => bif v.isL then none else some v
  | [.cell t ty] => cellE T e t ty
  | [.tmp t, .tmp u] => bif Nat.beq t u then none else match tmpE e t with
    | some x => match tmpE e u with
      | some y => some (.tuple [x, y])
      | none => none
    | none => none
  | [.cell t ty, .tmp u] => match cellE T e t ty with
    | some x => match tmpE e u with
      | some y => some (.tuple [x, y])
      | none => none
    | none => none
  | [.tmp t, .tmp u, .tmp r] => bif Nat.beq t u || Nat.beq t r || Nat.beq u r then none else match tmpE e t with
    | some x => match tmpE e u with
      | some y => match tmpE e r with
        | some z => some (.tuple [x, y, z])
        | none => none
      | none => none
    | none => none
  | [.cell t ty, .tmp u, .tmp r] => bif Nat.beq u r then none else match cellE T e t ty with
    | some x => match tmpE e u with
      | some y => match tmpE e r with
        | some z => some (.tuple [x, y, z])
        | none => none
      | none => none
    | none => none
  | [.tmp r, .cell t ty, .tmp u] => bif Nat.beq r u then none else match tmpE e r with
    | some z => match cellE T e t ty with
      | some x => match tmpE e u with
        | some y => some (.tuple [z, x, y])
        | none => none
      | none => none
    | none => none
  | [.tmp r, .cell t ty] => match tmpE e r with
    | some z => match cellE T e t ty with
      | some x => bif z.flat then some (.tuple [z, x]) else none
      | none => none
    | none => none
  | [.tmp r, .tmp q, .cell t ty, .tmp u] => match tmpE e r with
    | some z => match tmpE e q with
      | some y' => match cellE T e t ty with
        | some x => match tmpE e u with
          | some y => bif z.flat && y'.flat && y.flat then some (.tuple [z, y', x, y]) else none
          | none => none
        | none => none
      | none => none
    | none => none
  | _ => none

section
variable {P : Program} {n : Nat} {e e' : Es} {ops : Array Oper} {l rest : List Oper} {o : Oper} {Q : Es → Prop} {QE : Exit → Es → Prop} {d : Nat} {T : Tab} {Z : Zt} {v : AV} {C : Cnd} {t E : Nat} {x y : Operand} {k : IntKind} {i : Int}
theorem okR_ok {v : AV} (h : okR v = true) : v.flat = true ∨ ∃ E xs, v = .list true E xs := by
  unfold okR at h
  split at h
  · exact .inr ⟨_, _, rfl⟩
  · exact .inl h
theorem tmpE_ok {t : Nat} {v : AV} (h : tmpE e t = some v) : (e.st []).get t = v ∧ (v.flat = true ∨ ∃ E xs, v = .list true E xs) := by
  unfold tmpE at h
  rw [AV.force_eq] at h
  cases hb : okR (getV e.fr [] t) with
  | false => rw [hb] at h; cases h
  | true => rw [hb] at h; cases h; exact ⟨st_get e [] t, okR_ok hb⟩
theorem cellE_ok (hT : TabOK P T) {t ty : Nat} {v : AV} (h : cellE T e t ty = some v) : ∃ k off size D cells, (e.st []).get t = .lptr k off ∧ lookL (e.st []).loc k = some cells ∧ P.underlying ty = some D ∧ SizeOf P ty size ∧ loaded (TypeDesc.agg D) size cells off = some v ∧ v.flat = true := by
  unfold cellE at h
  split at h
  · rename_i k off hg
    split at h
    · rename_i cs hc
      split at h
      · rename_i v' hv
        obtain ⟨D, size, h1, h2, h3⟩ := vLoad_ok hT hv
        cases hb : v'.flat with
        | false => rw [hb] at h; cases h
        | true => rw [hb] at h; cases h; exact ⟨k, off, size, D, cs, (st_get e [] t).trans hg, hc, h1, h2, h3, hb⟩
      · cases h
    · cases h
  · cases h
theorem beq_ne {a b : Nat} (h : Nat.beq a b = false) : a ≠ b := fun e => by subst e; rw [Nat.beq_refl] at h; cases h
theorem resE_ok (hT : TabOK P T) {rs : List ResultVar} {r : AV} (h : resE T e rs = some r) : ResOf P (e.st []) rs.toArray r := by
  unfold resE at h
  split at h
  · cases h; exact .none
  · rename_i t
    rw [AV.force_eq] at h
    cases hb : (getV e.fr [] t).isL with
    | true => rw [hb] at h; cases h
    | false => rw [hb] at h; cases h; exact .one t _ (st_get e [] t) hb
  · obtain ⟨k, off, size, D, cells, h1, h2, h3, h4, h5, h6⟩ := cellE_ok hT h
    exact .cell _ k off size _ D cells r h1 h2 h3 h4 h5 h6
  · rename_i t u
    cases hb : Nat.beq t u with
    | true => rw [hb] at h; cases h
    | false =>
      rw [hb] at h
      simp only [cond_false] at h
      split at h
      · rename_i x hx
        split at h
        · rename_i y hy
          cases h
          exact .two t u x y (tmpE_ok hx).1 (tmpE_ok hy).1 (tmpE_ok hx).2 (tmpE_ok hy).2 (beq_ne hb)
        · cases h
      · cases h
  · split at h
    · rename_i x hx
      split at h
      · rename_i y hy
        cases h
        obtain ⟨k, off, size, D, cells, h1, h2, h3, h4, h5, h6⟩ := cellE_ok hT hx
        exact .cellTmp _ k off size _ D cells x h1 h2 h3 h4 h5 h6 _ y (tmpE_ok hy).1 (tmpE_ok hy).2
      · cases h
    · cases h
  · rename_i t u r'
    cases hb : (Nat.beq t u || Nat.beq t r' || Nat.beq u r') with
    | true => rw [hb] at h; cases h
    | false =>
      rw [hb] at h
      simp only [Bool.or_eq_false_iff] at hb
      simp only [cond_false] at h
      split at h
      · rename_i x hx
        split at h
        · rename_i y hy
          split at h
          · rename_i z hz
            cases h
            exact .three t u r' x y z (tmpE_ok hx).1 (tmpE_ok hy).1 (tmpE_ok hz).1 (tmpE_ok hx).2 (tmpE_ok hy).2 (tmpE_ok hz).2 ⟨beq_ne hb.1.1, beq_ne hb.1.2, beq_ne hb.2⟩
          · cases h
        · cases h
      · cases h
  · rename_i t ty u r'
    cases hb : Nat.beq u r' with
    | true => rw [hb] at h; cases h
    | false =>
      rw [hb] at h
      simp only [cond_false] at h
      split at h
      · rename_i x hx
        split at h
        · rename_i y hy
          split at h
          · rename_i z hz
            cases h
            obtain ⟨k, off, size, D, cells, h1, h2, h3, h4, h5, h6⟩ := cellE_ok hT hx
            exact .cellTmpTmp _ k off size _ D cells x h1 h2 h3 h4 h5 h6 _ y (tmpE_ok hy).1 (tmpE_ok hy).2 _ z (tmpE_ok hz).1 (tmpE_ok hz).2 (beq_ne hb)
          · cases h
        · cases h
      · cases h
  · rename_i r' t ty u
    cases hb : Nat.beq r' u with
    | true => rw [hb] at h; cases h
    | false =>
      rw [hb] at h
      simp only [cond_false] at h
      split at h
      · rename_i z hz
        split at h
        · rename_i x hx
          split at h
          · rename_i y hy
            cases h
            obtain ⟨k, off, size, D, cells, h1, h2, h3, h4, h5, h6⟩ := cellE_ok hT hx
            exact .tmpCellTmp _ z (tmpE_ok hz).1 (tmpE_ok hz).2 _ k off size _ D cells x h1 h2 h3 h4 h5 h6 _ y (tmpE_ok hy).1 (tmpE_ok hy).2 (beq_ne hb)
          · cases h
        · cases h
      · cases h
  · rename_i r' t ty
    split at h
    · rename_i z hz
      split at h
      · rename_i x hx
        cases hf : z.flat with
        | false => rw [hf] at h; cases h
        | true =>
          rw [hf] at h
          cases h
          obtain ⟨k, off, size, D, cells, h1, h2, h3, h4, h5, h6⟩ := cellE_ok hT hx
          exact .tmpCell _ z (tmpE_ok hz).1 hf _ k off size _ D cells x h1 h2 h3 h4 h5 h6
      · cases h
    · cases h
  · rename_i r' q t ty u
    split at h
    · rename_i z hz
      split at h
      · rename_i y' hq
        split at h
        · rename_i x hx
          split at h
          · rename_i y hy
            cases hf : (z.flat && y'.flat && y.flat) with
            | false => rw [hf] at h; cases h
            | true =>
              rw [hf] at h
              simp only [Bool.and_eq_true] at hf
              cases h
              obtain ⟨k, off, size, D, cells, h1, h2, h3, h4, h5, h6⟩ := cellE_ok hT hx
              exact .tmpTmpCellTmp _ z (tmpE_ok hz).1 hf.1.1 _ y' (tmpE_ok hq).1 hf.1.2 _ k off size _ D cells x h1 h2 h3 h4 h5 h6 _ y (tmpE_ok hy).1 hf.2
          · cases h
        · cases h
      · cases h
    · cases h
  · cases h

/-- Some objects are told of; the others are forgotten. -/
theorem lay_drop {A B : Ob} {base : Nat → Option (List AV)} (h : ndO (A ++ B) base) : ∀ id c, lay A base id = some c → lay (A ++ B) base id = some c := by
  intro id c hc
  rw [lay_app]
  by_cases hA : id ∈ A.map (·.1)
  · have key : ∀ (X Y : Nat → Option (List AV)) (A : Ob), id ∈ A.map (·.1) → lay A X id = lay A Y id := by
      intro X Y A
      induction A with
      | nil => intro h; cases h
      | cons p r ih =>
        intro h
        show setM (lay r X) p.1 p.2 id = setM (lay r Y) p.1 p.2 id
        by_cases e : id = p.1
        · subst e; rw [setM_get, setM_get]
        · rw [setM_ne e, setM_ne e]
          simp only [List.map_cons, List.mem_cons] at h
          exact ih (h.resolve_left e)
    rw [key (lay B base) base A hA]; exact hc
  · rw [lay_none hA] at hc ⊢
    by_cases hB : id ∈ B.map (·.1)
    · have := h.2 id (by rw [List.map_append]; exact List.mem_append_right _ hB)
      rw [this] at hc; cases hc
    · rw [lay_none hB]; exact hc

/-- A function, by its body: 'sel' are the objects that are told of behind it. -/
theorem FCall.of [I : HasTab P] {f : FuncId} {fn : Func} {c : Code} {args : List AV} {ins : Ob} {R : AV → Ob → Prop} (hf : P.funcs[f]? = some fn) (hb : fn.body = some c) (hn : fn.ntmps = n) (hp : args.length.ble n = true) (hfl : args.all AV.flat = true)
    (h : ∀ base, CWp P n c ⟨entE 0 args, [], [], ins, base⟩ fun x e' => (x = .ret ∨ x = .normal) ∧ ∃ r sel A B, resE (HasTab.T P) e' fn.results.toList = some r ∧ pickO sel e'.objs = some (A, B) ∧ e'.base = base ∧ R r A) : FCall P f args ins R := by
  intro base hnd
  refine ACall.subM (ACall.of (n := n) hf hb hn hp hfl ?_)
  intro G a w K hr hfx hK
  have hst : (⟨entE 0 args, [], [], ins, base⟩ : Es).st [] = ⟨entryFr 0 args, [], lay ins base⟩ := by
    unfold Es.st; rw [entE_st]
  refine h base G a w K ⟨by rw [hst]; exact hr, hnd⟩ hfx ?_
  rintro x e' G' a' w' ⟨hx, r, sel, A, B, h1, h2, rfl, hR⟩ hr' hk
  refine hK x (e'.st []) G' a' w' ⟨hx, r, by simpa using resE_ok I.tok h1, lay A e'.base, ⟨A, hR, rfl, ?_⟩, ?_⟩ hr'.1 hk
  · have := ndO_perm (pickO_perm h2).symm hr'.2
    obtain ⟨a1, a2⟩ := this
    rw [List.map_append] at a1 a2
    exact ⟨(List.nodup_append.1 a1).1, fun i hi => a2 i (List.mem_append_left _ hi)⟩
  · intro id cs hc
    have hAB := ndO_perm (pickO_perm h2).symm hr'.2
    show lay e'.objs e'.base id = some cs
    rw [← lay_perm (pickO_perm h2) hAB.1]
    exact lay_drop hAB id cs hc
theorem PCall.body [I : HasTab P] {f : FuncId} {fn : Func} {c : Code} {args : List AV} (hf : P.funcs[f]? = some fn) (hb : fn.body = some c) (hn : fn.ntmps = n) (hp : args.length.ble n = true) (hfl : args.all AV.flat = true)
    (h : ∀ base, CWp P n c ⟨entE 0 args, [], [], [], base⟩ fun x e' => (x = .ret ∨ x = .normal) ∧ resE (HasTab.T P) e' fn.results.toList = some v ∧ e'.base = base) : PCall P f args v := by
  refine FCall.of hf hb hn hp hfl fun base G a w K hr hfx hK => h base G a w K hr hfx ?_
  rintro x e' G' a' w' ⟨h1, h2, h3⟩ hr' hk
  exact hK x e' G' a' w' ⟨h1, v, [], [], e'.objs, h2, rfl, h3, rfl, rfl⟩ hr' hk
end
/-- So far a loop is gone along. -/
def FUEL : Nat := 18446744073709551616
section
variable {P : Program} {n : Nat} {e e' : Es} {ops : Array Oper} {l l' : List Oper} {Q : Es → Prop} {q : List (Nat × Nat)}
theorem rn [I : HasTab P] (m : Nat) (h : runE (HasTab.T P) (HasTab.Z P) n ops [] m [] l e [] = some (l', e', [])) (k : COps P n ops l' e' Q) : COps P n ops l e Q := COps.run I.tok I.zok m [] [] h trivial k
theorem rh [I : HasTab P] (m : Nat) (H L : List Nat) (h : runE (HasTab.T P) (HasTab.Z P) n ops L m H l e [] = some (l', e', q)) (hq : allEq q) (k : COps P n ops l' e' Q) : COps P n ops l e Q := COps.run I.tok I.zok m H L h hq k
theorem srd [I : HasTab P] {QE : Exit → Es → Prop} {id : Nat} {y : Code} {e1 e2 : Es} (m : Nat) (h : runE (HasTab.T P) (HasTab.Z P) n ops [] m [] ops.toList e [] = some ([], e1, [])) (A B : List Nat) (h2 : keepE e1 A B = some e2) (k : CWp P n y e2 QE) (hf : flatB e.fr = true := by rfl) : CWp P n (.seq (.region id ops false) y) e QE :=
  CWp.seq (CWp.region (rn m h (COps.done A B h2 k)) hf)
end
structure V3 (α : Type) where
  a : α
  b : α
  c : α
  deriving Inhabited
end
section
open Go.RowKit

section
variable {P : Program} {n : Nat} {s : St} {a : Act} {w : World} {G : Gh} {E : TypeId}
end
section
variable {P : Program} {n : Nat} {e e' : Es} {ops : Array Oper} {l rest : List Oper} {o : Oper} {Q : Es → Prop} {QE : Exit → Es → Prop} {d : Nat} {T : Tab} {Z : Zt} {v : AV} {C : Cnd} {t t' E : Nat} {x y : Operand} {k : IntKind} {i j : Int}

/-- A new object: whatever its name. -/
theorem COps.newO {fr : Fr} {loc : List (Nat × List AV)} {objs : Ob} {base : Nat → Option (List AV)} {cells : List AV}
    (h : ∀ Q', (∀ id, lay objs base id = none → id % 10000 = t → AOps P n ops rest ⟨(d, .gptr id 0) :: ((⟨fr, [], loc, objs, base⟩ : Es).st []).fr, loc, setM (lay objs base) id cells⟩ Q') → AOps P n ops (o :: rest) ((⟨fr, [], loc, objs, base⟩ : Es).st []) Q')
    (g : ∀ id, id % 10000 = t → COps P n ops rest ⟨(d, [], .gptr id 0) :: fr, [], loc, (id, cells) :: objs, base⟩ Q) : COps P n ops (o :: rest) ⟨fr, [], loc, objs, base⟩ Q := by
  intro G a w K hr hfx hK
  have hfl : ∀ i, (getE fr i).1 = [] := by
    intro i
    cases hx : (getE fr i).1 with
    | nil => rfl
    | cons p r =>
      have := hr.gs i p (by show p ∈ (getE fr i).1; rw [hx]; exact List.mem_cons_self ..)
      cases this
  have hnd : ndO objs base := hr.nd
  refine h (fun s'' => ∃ e'', e''.st [] = s'' ∧ e''.nd ∧ Q e'') (fun id hid ht => ?_) G a w K (hr.st condOK_nil) hfx ?_
  · intro G1 a1 w1 K1 hr1 hfx1 hK1
    have hni : id ∉ objs.map (·.1) := fun hm => lay_some hm hid
    have hb : base id = none := by rwa [lay_none hni] at hid
    have hnd' : ndO ((id, cells) :: objs) base := ⟨List.nodup_cons.2 ⟨hni, hnd.1⟩, fun i hi => by
      rcases List.mem_cons.1 hi with e | e
      · subst e; exact hb
      · exact hnd.2 i e⟩
    have hf' := addF_get hfl [(d, .gptr id 0)]
    refine g id ht G1 a1 w1 K1 ⟨hr1.size, hr1.defers, fun i _ => ?_, fun i hne => ?_, fun i p hp => ?_, hr1.loc, hr1.mem, hnd'⟩ hfx1 (fun e2 G2 a2 w2 hq hr2 hk2 => hK1 _ G2 a2 w2 ⟨e2, rfl, hr2.2, hq⟩ hr2.1 hk2)
    · have h3 := hr1.slot i
      have e1 : St.get ⟨(d, .gptr id 0) :: ((⟨fr, [], loc, objs, base⟩ : Es).st []).fr, loc, setM (lay objs base) id cells⟩ i = valE [] (getE ((d, [], .gptr id 0) :: fr) i) := look_st [] ((d, [], .gptr id 0) :: fr) i
      rw [e1] at h3
      unfold valE at h3
      rw [show (getE ((d, [], .gptr id 0) :: fr) i).1 = [] from hf' i] at h3
      exact h3
    · rw [show (getE ((d, [], .gptr id 0) :: fr) i).1 = [] from hf' i] at hne
      exact absurd condOK_nil hne
    · rw [show (getE ((d, [], .gptr id 0) :: fr) i).1 = [] from hf' i] at hp; cases hp
  · rintro s'' G' a' w' ⟨e'', rfl, hn2, hq⟩ hr' hk
    exact hK e'' G' a' w' hq ⟨hr', hn2⟩ hk

theorem cBox [I : HasTab P] {fr : Fr} {loc : List (Nat × List AV)} {objs : Ob} {base : Nat → Option (List AV)} {cells : List AV} (g : ∀ id, id % 10000 = t → COps P n ops rest ⟨(d, [], .gptr id 0) :: fr, [], loc, (id, cells) :: objs, base⟩ Q)
    (hC : cndOf ops fr o = some [] := by rfl) (hd : o.dst = some d := by rfl) (hn : Nat.blt d n = true := by rfl) (ho : o.op = .box t x := by rfl) (hc : vBox (HasTab.T P) (evE fr []) t x = some cells := by rfl) (ht : Nat.blt t 10000 = true := by rfl) (hf : cells.all AV.flat = true := by rfl) : COps P n ops (o :: rest) ⟨fr, [], loc, objs, base⟩ Q := by
  refine COps.newO (fun Q' hk => ?_) g
  rw [evE_fun ⟨fr, [], loc, objs, base⟩ []] at hc
  unfold vBox at hc
  split at hc
  · rename_i v hv
    obtain ⟨h1, h2⟩ := vArg_ok hv
    cases hp : v.part with
    | false => rw [hp] at hc; cases hc
    | true =>
      rw [hp] at hc; cases hc
      exact AOps.boxG (v := v) (wants0 (e := ⟨fr, [], loc, objs, base⟩) _ hC) hd (Nat.le_of_ble_eq_true hn) (Nat.le_of_ble_eq_true ht) ho h1 h2 hp rfl (List.all_eq_true.1 hf) hk
  · cases hc
theorem cNewO [I : HasTab P] {fr : Fr} {loc : List (Nat × List AV)} {objs : Ob} {base : Nat → Option (List AV)} {cells : List AV} (g : ∀ id, id % 10000 = t → COps P n ops rest ⟨(d, [], .gptr id 0) :: fr, [], loc, (id, cells) :: objs, base⟩ Q)
    (hC : cndOf ops fr o = some [] := by rfl) (hd : o.dst = some d := by rfl) (hn : Nat.blt d n = true := by rfl) (ho : o.op = .alloc t := by rfl) (hc : (HasTab.Z P).lookO t = some cells := by rfl) (ht : Nat.blt t 10000 = true := by rfl) (hf : cells.all (fun c => c.scalar && c.flat) = true := by rfl) : COps P n ops (o :: rest) ⟨fr, [], loc, objs, base⟩ Q := by
  refine COps.newO (fun Q' hk => ?_) g
  obtain ⟨z, Es, h1, h2, h3, _⟩ := Zt.okO I.zok hc
  have hall : ∀ c ∈ cells, c.scalar = true ∧ c.flat = true := fun c hm => by simpa using List.all_eq_true.1 hf c hm
  exact AOps.allocG (wants0 (e := ⟨fr, [], loc, objs, base⟩) _ hC) hd (Nat.le_of_ble_eq_true hn) ho (Nat.le_of_ble_eq_true ht) h1 h2 h3 (fun c hm => (hall c hm).1) (fun c hm => (hall c hm).2) hk

/-- A type's values are held against each other cell by cell. -/
structure EqT (P : Program) (t : Nat) {α : Type} (enc : α → List AV) (us : α → List Value) (eq : α → α → Bool) : Prop where
  und : ∃ D, P.underlying t = some D ∧ TypeDesc.agg D = true
  grd : P.eqGuardType P.depth t = false
  conc : ∀ a, concL (enc a) = some (us a)
  eqv : ∀ a b, eqV P 9 t (us a) (us b) = some (eq a b)
theorem rEq {α : Type} {enc : α → List AV} {us : α → List Value} {eq : α → α → Bool} {a b : α} {op : BinOp} {r s : Nat} (F : EqT P t enc us eq) (ho : o.op = .binOp op t (.tmp r) (.tmp s) t' := by rfl) (hx : getV e.fr C r = .agg (enc a) := by rfl) (hy : getV e.fr C s = .agg (enc b) := by rfl) (hop : op = .eql := by rfl) : Reader P n (e.st C) o d (.lit (.bool (eq a b))) := by
  obtain ⟨D, hD, hA⟩ := F.und
  exact Reader.eqAgg 9 ho ((st_get e C r).trans hx) ((st_get e C s).trans hy) ⟨_, rfl⟩ ⟨_, rfl⟩ hD hA F.grd (by decide) (F.conc a) (F.conc b) (F.eqv a b) (.inl ⟨hop, rfl⟩)
theorem rNe {α : Type} {enc : α → List AV} {us : α → List Value} {eq : α → α → Bool} {a b : α} {op : BinOp} {r s : Nat} (F : EqT P t enc us eq) (ho : o.op = .binOp op t (.tmp r) (.tmp s) t' := by rfl) (hx : getV e.fr C r = .agg (enc a) := by rfl) (hy : getV e.fr C s = .agg (enc b) := by rfl) (hop : op = .neq := by rfl) : Reader P n (e.st C) o d (.lit (.bool (!(eq a b)))) := by
  obtain ⟨D, hD, hA⟩ := F.und
  exact Reader.eqAgg 9 ho ((st_get e C r).trans hx) ((st_get e C s).trans hy) ⟨_, rfl⟩ ⟨_, rfl⟩ hD hA F.grd (by decide) (F.conc a) (F.conc b) (F.eqv a b) (.inr ⟨hop, rfl⟩)

/-- A number as a byte. -/
def u8 (x : Int) : UInt8 := UInt8.ofNat (x.emod 256).toNat
theorem u8_eq (x : Int) : ((u8 x).toNat : Int) = IntKind.u8.wrap x := by
  have h1 : 0 ≤ x.emod 256 := Int.emod_nonneg _ (by decide)
  have h2 : x.emod 256 < 256 := Int.emod_lt_of_pos _ (by decide)
  have h3 : (u8 x).toNat = (x.emod 256).toNat := by
    unfold u8
    rw [UInt8.toNat_ofNat']
    exact Nat.mod_eq_of_lt (by omega)
  rw [h3]
  have h4 : IntKind.u8.wrap x = x.emod 256 := by
    simp [IntKind.wrap, IntKind.signed, IntKind.bits]
    rfl
  omega
/-- A slot's number, as a byte. -/
theorem cU8 {fr : Fr} {gs : List Nat} {loc : List (Nat × List AV)} {objs : Ob} {base : Nat → Option (List AV)} {z : Int} (t : Nat) (g : COps P n ops l ⟨(t, [], zU8 (u8 z)) :: fr, gs, loc, objs, base⟩ Q) (hx : getE fr t = ([], .lit (.int .u8 (IntKind.u8.wrap z))) := by rfl) : COps P n ops l ⟨fr, gs, loc, objs, base⟩ Q := by
  intro G a w K hr hfx hK
  refine g G a w K ⟨hr.size, hr.defers, fun i hc => ?_, fun i hc => ?_, fun i p hp => ?_, hr.loc, hr.mem, hr.nd⟩ hfx hK
  all_goals
    have key : getE ((t, [], zU8 (u8 z)) :: fr) i = getE fr i := by
      simp only [getE]
      cases h : Nat.beq t i with
      | true => rw [← Nat.eq_of_beq_eq_true h, hx]; simp only [zU8, u8_eq]; rfl
      | false => rfl
  · have := hr.slot i
    simp only [key] at hc ⊢
    exact this hc
  · simp only [key] at hc
    exact hr.off i hc
  · simp only [key] at hp
    exact hr.gs i p hp

/-- Bytes that are bytes. -/
theorem cConv [I : HasTab P] {fr : Fr} {loc : List (Nat × List AV)} {objs : Ob} {base : Nat → Option (List AV)} {xs : List AV} {r z1 z2 : Nat} (g : COps P n ops rest ⟨(d, [], .list false E xs) :: (r, [], .list false E xs) :: fr, [], loc, objs, base⟩ Q)
    (hC : cndOf ops fr o = some [] := by rfl) (hd : o.dst = some d := by rfl) (hn : Nat.blt d n = true := by rfl) (ho : o.op = .convert t t (.tmp r) := by rfl) (h1 : (HasTab.T P).look t = some (.slice E, z1) := by rfl) (h3 : (HasTab.T P).look E = some (.int .u8, z2) := by rfl) (hx : getV fr [] r = .list true E xs := by rfl) (hne : xs.isEmpty = false := by rfl) : COps P n ops (o :: rest) ⟨fr, [], loc, objs, base⟩ Q := by
  obtain ⟨⟨D, hD, hk⟩, _⟩ := Tab.ok I.tok h1
  have := kOf_slice hk; subst this
  obtain ⟨⟨D3, hD3, hk3⟩, _⟩ := Tab.ok I.tok h3
  have := kOf_int hk3; subst this
  exact COps.eff0 (e := ⟨fr, [], loc, objs, base⟩) (add := [(d, .list false E xs), (r, .list false E xs)]) rfl (fun Q' hk => AOps.convBytes (wants0 (e := ⟨fr, [], loc, objs, base⟩) _ hC) hd (Nat.le_of_ble_eq_true hn) ho hD hD3 ((st_get _ [] r).trans hx) hne hk) id g

theorem CWp.condT {c : Operand} {x y : Code} {b : Bool} (hc : evE e.fr [] c = .lit (.bool b)) (hb : b = true) (h : CWp P n x e QE) : CWp P n (.cond c x y) e QE := by
  intro G a w K hr hfx hK
  subst hb
  exact wp_cond_true (hr.1.evLit (ev_st hc)) (h G a w K hr hfx hK)
theorem CWp.condF {c : Operand} {x y : Code} {b : Bool} (hc : evE e.fr [] c = .lit (.bool b)) (hb : b = false) (h : CWp P n y e QE) : CWp P n (.cond c x y) e QE := by
  intro G a w K hr hfx hK
  subst hb
  exact wp_cond_false (hr.1.evLit (ev_st hc)) (h G a w K hr hfx hK)
/-- A loop, some times round. -/
def CRounds (P : Program) (n : Nat) (c : Code) (QE : Exit → Es → Prop) : Nat → Es → Prop
  | 0, _ => False
  | k + 1, e => CWp P n c e fun z e' => match z with | .normal => CRounds P n c QE k e' | z => QE z e'
theorem crd {c : Code} {k : Nat} (h : CWp P n c e fun z e' => match z with | .normal => CRounds P n c QE k e' | z => QE z e') : CRounds P n c QE (k + 1) e := h
theorem CWp.unroll (k : Nat) {c : Code} (h : CRounds P n c QE k e) : CWp P n (.loop c) e QE := by
  intro G a w K hr hfx hK
  refine wp_loop_rounds k ?_
  induction k generalizing e G a w K with
  | zero => exact h.elim
  | succ k ih =>
    refine h G a w _ hr hfx ?_
    intro z e' G' a' w' hq hr' hk
    cases z with
    | normal => exact ih hq G' a' w' K hr' (hfx.keep hk) fun z s2 G2 a2 w2 hq2 hr2 hk2 => hK z s2 G2 a2 w2 hq2 hr2 (hk.trans hk2)
    | _ => exact hK _ e' G' a' w' hq hr' hk
/-- Fewer objects are spoken of. -/
theorem COps.objs {fr : Fr} {gs : List Nat} {loc : List (Nat × List AV)} {objs : Ob} {base : Nat → Option (List AV)} {A B : Ob} (sel : List Nat) (h : pickO sel objs = some (A, B)) (k : COps P n ops l ⟨fr, gs, loc, A, base⟩ Q) : COps P n ops l ⟨fr, gs, loc, objs, base⟩ Q := by
  intro G a w K hr hfx hK
  have hAB := ndO_perm (pickO_perm h).symm hr.nd
  refine k G a w K ⟨hr.size, hr.defers, hr.slot, hr.off, hr.gs, hr.loc, ?_, ?_⟩ hfx hK
  · refine hr.mem.sub fun id c hc => ?_
    show lay objs base id = some c
    rw [← lay_perm (pickO_perm h) hAB.1]
    exact lay_drop hAB id c hc
  · obtain ⟨a1, a2⟩ := hAB
    rw [List.map_append] at a1 a2
    exact ⟨(List.nodup_append.1 a1).1, fun i hi => a2 i (List.mem_append_left _ hi)⟩
theorem CWp.label {l : Nat} (h : QE .normal e) : CWp P n (.label l) e QE := by
  intro G a w K hr hfx hK
  exact wp_label (hK _ _ _ _ _ h hr (Keep.refl _ _))
theorem CWp.scope {c : Code} (h : CWp P n c e fun z e' => match z with | .goto _ => False | z => QE z e') : CWp P n (.scope c) e QE := by
  intro G a w K hr hfx hK
  refine wp_scope_straight (h G a w _ hr hfx ?_)
  intro z e' G' a' w' hq hr' hk
  cases z with
  | goto l => exact hq.elim
  | _ => exact hK _ _ _ _ _ hq hr' hk
end
end
section
open Go.RowKit

def COpsE (P : Program) (n : Nat) (ops : Array Oper) (l : List Oper) (e : Es) (Q : Es → Prop) : Prop :=
  ∀ (G : Gh) (a : Act) (W : World) (K : Act → Prop), RelE P G n e a W → Fix G W → (∀ e' a', Q e' → RelE P G n e' a' W → K a') → wpE P ops W K l a

/-- An operation that yields, now and later. -/
def Yields (P : Program) (n : Nat) (ops : Array Oper) (e : Es) (o : Oper) (e' : Es) : Prop :=
  ∃ C d v, cndOf ops e.fr o = some C ∧ o.dst = some d ∧ d < n ∧ memN d (gsOf C e.gs) = false ∧ e' = e.put d C v ∧
    ∀ (G : Gh) (a : Act) (W : World), RelE P G n e a W → condOK C a → ∃ u, RelS P G W (.slot d) v u ∧ ∀ w' : World, Below W.heap.size W w' → (execOp a.eval o).run P w' = .ok (.value u) w'

section
variable {P : Program} {n : Nat} {e e' : Es} {ops : Array Oper} {l rest : List Oper} {o : Oper} {Q : Es → Prop} {QE : Exit → Es → Prop} {d : Nat} {T : Tab} {Z : Zt} {v : AV} {C : Cnd} {t t' E : Nat} {x y : Operand} {H H' : List Nat} {q : List (Nat × Nat)}

theorem COpsE.nil (h : Q e) : COpsE P n ops [] e Q := fun _G a _W _K hr _ hK => hK e a h hr
theorem COpsE.of (h : e.nd → Yields P n ops e o e') (k : COpsE P n ops rest e' Q) : COpsE P n ops (o :: rest) e Q := by
  intro G a W K hr hfx hK
  obtain ⟨C, d, v, hC, hd, hn, hg, rfl, hy⟩ := h hr.nd
  have hw := wanted_iff hr hC
  unfold wpE
  cases hx : Region.wanted o (yielded ops a.tmps) with
  | true =>
    rw [if_pos rfl]
    obtain ⟨u, hu, hrun⟩ := hy G a W hr (hw.1 hx)
    refine ⟨u, fun x => ?_, ?_⟩
    · rw [hrun x.val x.below]; exact ⟨rfl, rfl⟩
    · rw [hd]
      exact k G _ W K (hr.put hC hn (mem_of_not hg) (fun _ => hu) (fun hc => absurd (hw.1 hx) hc)) hfx hK
  | false =>
    rw [if_neg (by simp), hd]
    refine k G _ W K (hr.put hC hn (mem_of_not hg) (fun hc => ?_) (fun _ => rfl)) hfx hK
    obtain ⟨t, want, r, rfl, hne⟩ := hw.2 hx
    exact absurd (hc _ (List.mem_cons_self ..)) hne

theorem yields_read (hC : cndOf ops e.fr o = some C) (hd : o.dst = some d) (hn : d < n) (hg : memN d (gsOf C e.gs) = false) (h : truthsP e.fr C C → Reader P n (e.st C) o d v) : Yields P n ops e o (e.put d C v) := by
  refine ⟨C, d, v, hC, hd, hn, hg, rfl, fun G a W hr hc => ?_⟩
  obtain ⟨u, hu, hrun⟩ := h (truthsP_of (hr.st hc) hc) G a W (hr.st hc)
  exact ⟨u, hu, hrun⟩
theorem Reader.nilL {s : St} (hx : o.op = .assign (.const (.slice none 0 0))) : Reader P n s o d (.list true E []) := by
  intro G a w hr
  refine ⟨.slice none 0 0, (Or.inr ⟨rfl, Or.inl rfl⟩ : RelO P G w (.slot d 0) (.list true E []) (.slice none 0 0)), fun w' _ => ?_⟩
  simp [execOp, hx, Act.eval]
theorem yields_pick {c x y : Operand} (ho : o.op = .pick c x y) (hv : vPick e.fr C c x y = some v) (hC : cndOf ops e.fr o = some C) (hd : o.dst = some d) (hn : d < n) (hg : memN d (gsOf C e.gs) = false) : Yields P n ops e o (e.put d C v) := by
  refine ⟨C, d, v, hC, hd, hn, hg, rfl, fun G a w hr hc => ?_⟩
  unfold vPick at hv
  split at hv
  · rename_i t
    split at hv
    · rename_i b hb
      have hs := (hr.st hc).slot t
      rw [st_get, hb] at hs
      have htb := RelS.lit hs
      split at hv
      · rename_i p hp
        split at hv
        · rename_i q hq
          have hval : (if b then a.eval x else a.eval y) = .bool (bif b then p else q) := by
            cases b with
            | true =>
              rw [evE_eq] at hp
              exact (hr.st (condOK_cons hc htb)).evLit hp
            | false =>
              rw [evE_eq] at hq
              exact (hr.st (condOK_cons hc htb)).evLit hq
          have hlit : v = .lit (.bool (bif b then p else q)) := by
            cases h1 : isC x with
            | true =>
              rw [h1] at hv
              simp only [cond_true] at hv
              cases p <;> cases hv <;> cases b <;> rfl
            | false =>
              rw [h1] at hv
              simp only [cond_false] at hv
              cases h2 : isC y with
              | true =>
                rw [h2] at hv
                simp only [cond_true] at hv
                cases q <;> cases hv <;> cases b <;> simp
              | false =>
                rw [h2] at hv
                simp only [cond_false] at hv
                cases hv; rfl
          refine ⟨.bool (bif b then p else q), by rw [hlit]; exact lit_toS _, fun w' _ => ?_⟩
          rw [← hval]
          have : a.eval (.tmp t) = .bool b := htb
          simp [execOp, ho, this, asBool]
        · cases hv
      · cases hv
    · cases hv
  · cases hv

def stepP (T : Tab) (Z : Zt) (n : Nat) (ops : Array Oper) (H : List Nat) (e : Es) (o : Oper) : Out :=
  match cndOf ops e.fr o with
  | none => none
  | some C => forceC C fun C => match o.dst with
    | some d => match o.op with
      | .assign x => bif isNil x then ok0 (putE n e d C (match elemOf T o.type with | some E => some (.list true E []) | none => none)) H else ok0 (putE n e d C (stepV T (evE e.fr C) e.loc (.assign x))) H
      | .pick c x y => ok0 (putE n e d C (vPick e.fr C c x y)) H
      | .build t ps => ok0 (putE n e d C (vBuild T Z false (evE e.fr C) t ps.toList)) H
      | .load t x => match evE e.fr C x with
        | .gptr id k => match H with
          | j :: H => match e.objs[j]? with
            | some (id', cs) => match vLoad T t cs k with
              | some v => bif scl cs && v.flat then (match putE n e d C (some v) with
                | some e' => some (e', [(id, id')], H)
                | none => none) else none
              | none => none
            | none => none
          | [] => none
        | _ => ok0 (putE n e d C (stepV T (evE e.fr C) e.loc (.load t x))) H
      | .call c => match c.callee with
        | .builtin .len => match c.args.toList with
          | [x] => match evE e.fr C x with
            | .list _ _ xs => match c.argTypes.toList with
              | [t] => match elemOf T t with
                | some _ => match H with
                  | m :: H => match putE n e d C (some (.lit (.int .i64 (m : Int)))) with
                    | some e' => some (e', [(xs.length, m)], H)
                    | none => none
                  | [] => none
                | none => none
              | _ => none
            | _ => ok0 (putE n e d C (stepV T (evE e.fr C) e.loc (.call c))) H
          | _ => none
        | _ => ok0 (putE n e d C (stepV T (evE e.fr C) e.loc (.call c))) H
      | op => ok0 (putE n e d C (stepV T (evE e.fr C) e.loc op)) H
    | none => none

theorem put_yields {v : Option AV} (hC : cndOf ops e.fr o = some C) (hd : o.dst = some d) (h : putE n e d C v = some e') (hv : ∀ v', v = some v' → Reader P n (e.st C) o d v') : Yields P n ops e o e' := by
  obtain ⟨v', rfl, rfl, h1, h2⟩ := putE_ok h
  exact yields_read hC hd h1 h2 (fun _ => hv v' rfl)
theorem putV_yields (hT : TabOK P T) {op : Op} (hC : cndOf ops e.fr o = some C) (hd : o.dst = some d) (ho : o.op = op) (h : putE n e d C (stepV T (evE e.fr C) e.loc op) = some e') : Yields P n ops e o e' := by
  refine put_yields hC hd h (fun v' hv => ?_)
  rw [evE_fun] at hv
  exact stepV_ok (s := e.st C) hT ho hv

theorem stepP_ok (hT : TabOK P T) (hZ : ZtOK P Z) (hnd : e.nd) (h : stepP T Z n ops H e o = some (e', q, H')) (hq : allEq q) : Yields P n ops e o e' := by
  unfold stepP at h
  split at h
  · cases h
  rename_i C hC
  rw [forceC_eq] at h
  split at h
  · rename_i d hd
    split at h
    · rename_i x ho
      cases hb : isNil x with
      | true =>
        rw [hb] at h
        have := isNil_eq hb
        subst this
        refine put_yields hC hd (ok0_ok h).1 (fun v' hv => ?_)
        split at hv
        · cases hv; exact Reader.nilL ho
        · cases hv
      | false => rw [hb] at h; exact putV_yields hT hC hd ho (ok0_ok h).1
    · rename_i c x y ho
      obtain ⟨v', hv, rfl, h1, h2⟩ := putE_ok (ok0_ok h).1
      exact yields_pick ho hv hC hd h1 h2
    · rename_i t ps ho
      refine put_yields hC hd (ok0_ok h).1 (fun v' hv => ?_)
      rw [evE_fun] at hv
      exact vBuild_ok hT hZ ho hv
    · rename_i t x ho
      split at h
      · rename_i id kk hx
        rw [evE_eq] at hx
        split at h
        · rename_i H0 j H1
          split at h
          · rename_i id' cs hj
            split at h
            · rename_i v hv
              cases hc : (scl cs && v.flat) with
              | false => rw [hc] at h; cases h
              | true =>
                rw [hc] at h
                simp only [Bool.and_eq_true] at hc
                simp only [cond_true] at h
                split at h
                · rename_i e2 hs
                  cases h
                  have : id = id' := hq.1
                  subst this
                  refine put_yields hC hd hs (fun v' hv' => ?_)
                  cases hv'
                  obtain ⟨D, size, h1, h2, h3⟩ := vLoad_ok hT hv
                  exact Reader.loadG ho h1 h2 hx (lay_nth hnd.1 hj) h3 hc.2 (scl_ok hc.1).1 (scl_ok hc.1).2
                · cases h
            · cases h
          · cases h
        · cases h
      · exact putV_yields hT hC hd ho (ok0_ok h).1
    · rename_i c ho
      split at h
      · rename_i hc
        split at h
        · rename_i x ha
          split at h
          · rename_i o2 E2 xs hx
            rw [evE_eq] at hx
            split at h
            · rename_i t hat
              split at h
              · rename_i E hel
                unfold elemOf at hel
                split at hel
                · rename_i E3 z hl
                  obtain ⟨⟨D, hD, hk⟩, _⟩ := Tab.ok hT hl
                  have := kOf_slice hk; subst this
                  split at h
                  · rename_i H0 m H1
                    split at h
                    · rename_i e2 hs
                      cases h
                      have : xs.length = m := hq.1
                      refine put_yields hC hd hs (fun v' hv' => ?_)
                      cases hv'
                      exact Reader.len' ho hc (Array.toList_inj.1 ha) (Array.toList_inj.1 hat) hD hx this
                    · cases h
                  · cases h
                · cases hel
              · cases h
            · cases h
          · exact putV_yields hT hC hd ho (ok0_ok h).1
        · cases h
      · exact putV_yields hT hC hd ho (ok0_ok h).1
    · exact putV_yields hT hC hd rfl (ok0_ok h).1
  · cases h

def runP (T : Tab) (Z : Zt) (n : Nat) (ops : Array Oper) : Nat → List Nat → List Oper → Es → List (Nat × Nat) → Option (List Oper × Es × List (Nat × Nat))
  | 0, [], l, e, q => some (l, e, q)
  | k + 1, H, o :: l, e, q => match stepP T Z n ops H e o with
    | some (e', q', H') => runP T Z n ops k H' l e' (q' ++ q)
    | none => none
  | _, _, _, _, _ => none
theorem runP_ok (hT : TabOK P T) (hZ : ZtOK P Z) : ∀ (m : Nat) (H : List Nat) (l : List Oper) (e : Es) (q0 : List (Nat × Nat)) {l' : List Oper} {e' : Es} {q : List (Nat × Nat)}, runP T Z n ops m H l e q0 = some (l', e', q) → (allEq q → allEq q0) ∧ (allEq q → COpsE P n ops l' e' Q → COpsE P n ops l e Q)
  | 0, [], l, e, q0, l', e', q, h => by cases h; exact ⟨id, fun _ k => k⟩
  | m + 1, H, o :: l, e, q0, l', e', q, h => by
    unfold runP at h
    split at h
    · rename_i e1 q1 H1 hs
      obtain ⟨h1, h2⟩ := runP_ok hT hZ m H1 l e1 (q1 ++ q0) h
      exact ⟨fun hq => (allEq_app (h1 hq)).2, fun hq k => COpsE.of (fun hnd => stepP_ok hT hZ hnd hs (allEq_app (h1 hq)).1) (h2 hq k)⟩
    · cases h
  | 0, _ :: _, l, e, q0, l', e', q, h => by cases h
  | m + 1, H, [], e, q0, l', e', q, h => by cases h
theorem pn [I : HasTab P] {l' : List Oper} (m : Nat) (h : runP (HasTab.T P) (HasTab.Z P) n ops m [] l e [] = some (l', e', [])) (k : COpsE P n ops l' e' Q) : COpsE P n ops l e Q := (runP_ok I.tok I.zok m [] l e [] h).2 trivial k
theorem pd {fr : Fr} {gs : List Nat} {loc : List (Nat × List AV)} {objs : Ob} {base : Nat → Option (List AV)} (h : Reader P n ((⟨fr, gs, loc, objs, base⟩ : Es).st []) o d v) (g : COpsE P n ops rest ⟨(d, [], v) :: fr, gs, loc, objs, base⟩ Q)
    (hC : cndOf ops fr o = some [] := by rfl) (hd : o.dst = some d := by rfl) (hn : Nat.blt d n = true := by rfl) (hg : memN d gs = false := by rfl) : COpsE P n ops (o :: rest) ⟨fr, gs, loc, objs, base⟩ Q :=
  COpsE.of (e' := ⟨(d, [], v) :: fr, gs, loc, objs, base⟩) (fun _ => yields_read (e := ⟨fr, gs, loc, objs, base⟩) hC hd (Nat.le_of_ble_eq_true hn) hg (fun _ => h)) g
/-- A call that answers what holds no memory. -/
theorem COpsE.call [I : HasTab P] {f : FuncId} {c : Call} {args : List AV} {u0 : Value} (C : Cnd) (he : Enters P f) (h : truthsP e.fr C C → PCall P f args v) (hv : conc v = some u0) (ha : vArgs (HasTab.T P) (evE e.fr C) c.args.toList c.argTypes.toList = some args)
    (g : COpsE P n ops rest (e.put d C v) Q)
    (hC : cndOf ops e.fr o = some C) (hg : memN d (gsOf C e.gs) = false) (hd : o.dst = some d) (hn : Nat.blt d n = true) (ho : o.op = .call c) (hc : c.callee = .value (.func f)) : COpsE P n ops (o :: rest) e Q := by
  rw [evE_fun] at ha
  obtain ⟨h1, h2⟩ := vArgs_ok ha
  have hn' : d < n := Nat.le_of_ble_eq_true hn
  intro G a W K hr hfx hK
  have hw := wanted_iff hr hC
  unfold wpE
  cases hx : Region.wanted o (yielded ops a.tmps) with
  | true =>
    rw [if_pos rfl]
    have hcc := hw.1 hx
    have key := AOpsE.call (P := P) (n := n) (s := e.st C) (ops := ops) (o := { o with guard := none }) (rest := []) (Q := fun s' => s' = (e.st C).put d v) (M' := fun M1 => noM = M1) trivial hd hn' ho hc he (args_ok h2) (by simpa using h1.len) (fun j x v hj hv => h1.at j x v (by simpa using hj) hv) ((h (truthsP_of (hr.st hcc) hcc)).all noM) hv (AOpsE.nil rfl)
      G a W (fun a' => RelSt P G n ((e.st C).put d v) a' W) (hr.st hcc) hfx (fun s' a' hs' hr' => by subst hs'; exact hr')
    unfold wpE at key
    rw [if_pos (by rfl)] at key
    obtain ⟨u, hat, hrel⟩ := key
    have hrel' : RelSt P G n ((e.st C).put d v) (a.put o.dst u) W := hrel
    refine ⟨u, hat, ?_⟩
    rw [hd] at hrel' ⊢
    have hu := hrel'.slot d
    rw [getD_put _ _ _ _ (by rw [hr.size]; exact hn'), if_pos rfl] at hu
    have e1 : St.get ((e.st C).put d v) d = v := by
      show look .any ((d, v) :: (e.st C).fr) d = v
      simp [look]
    rw [e1] at hu
    exact g G _ W K (hr.put hC hn' (mem_of_not hg) (fun _ => hu) (fun hcx => absurd hcc hcx)) hfx hK
  | false =>
    rw [if_neg (by simp), hd]
    refine g G _ W K (hr.put hC hn' (mem_of_not hg) (fun hc => ?_) (fun _ => rfl)) hfx hK
    obtain ⟨t, want, r, rfl, hne⟩ := hw.2 hx
    exact absurd (hc _ (List.mem_cons_self ..)) hne
theorem qCall [I : HasTab P] {fr : Fr} {gs : List Nat} {loc : List (Nat × List AV)} {objs : Ob} {base : Nat → Option (List AV)} {f : FuncId} {c : Call} {args : List AV} {u0 : Value} (he : Enters P f) (h : PCall P f args v) (ha : vArgs (HasTab.T P) (evE fr []) c.args.toList c.argTypes.toList = some args)
    (g : COpsE P n ops rest ⟨(d, [], v) :: fr, gs, loc, objs, base⟩ Q) (hv : conc v = some u0 := by rfl)
    (hC : cndOf ops fr o = some [] := by rfl) (hd : o.dst = some d := by rfl) (hg : memN d gs = false := by rfl) (hn : Nat.blt d n = true := by rfl) (ho : o.op = .call c := by rfl) (hc : c.callee = .value (.func f) := by rfl) : COpsE P n ops (o :: rest) ⟨fr, gs, loc, objs, base⟩ Q :=
  COpsE.call (e := ⟨fr, gs, loc, objs, base⟩) [] he (fun _ => h) hv ha g hC hg hd hn ho hc
/-- A region that draws its order: m operations that read; then a tail that waits for them. -/
theorem CWp.drawn {id : Nat} (m : Nat) (hB : regB l m 0 = true) (h : COpsE P n l.toArray (l.take m) e fun e1 => COps P n l.toArray (l.drop m) e1 (QE .normal)) (hm : P.follows .mixedOrders = true := by rfl) (hf : flatB e.fr = true := by rfl) : CWp P n (.region id l.toArray true) e QE := by
  intro G a w K hr hfx hK
  refine wp_region_E0 m hm hB (h G a w _ (RelE.of hr.1 hf hr.2) hfx ?_)
  intro e1 a1 hq hr1 x
  have hr2 : RelE P G n e1 a1 x.val := by
    have hst : ∀ C, condOK C a1 → RelSt P G n (e1.st C) a1 x.val := fun C hC => ((hr1.st hC).later x.below).1
    refine ⟨hr1.size, hr1.defers, fun i hc => ?_, hr1.off, hr1.gs, (hst [] condOK_nil).loc, (hst [] condOK_nil).mem, hr1.nd⟩
    have h3 := (hst _ hc).slot i
    rw [st_get] at h3
    unfold getV valE at h3
    rw [show subC (getE e1.fr i).1 (getE e1.fr i).1 = true from subC_refl _] at h3
    exact h3
  exact hq G a1 x.val K hr2 (hfx.keep ((hr1.st condOK_nil).later x.below).2) fun e' G' a' w' hq' hr' hk' => hK _ _ _ _ _ hq' hr' (((hr1.st condOK_nil).later x.below).2.trans hk')
end

section
variable {P : Program} {n : Nat} {e e' : Es} {ops : Array Oper} {l rest : List Oper} {o : Oper} {Q : Es → Prop} {QE : Exit → Es → Prop} {d : Nat} {v : AV} {C : Cnd} {t t' E : Nat} {x y : Operand}
theorem RelE.bool {e : Es} {G : Gh} {a : Act} {w : World} {t : Nat} {b : Bool} (hr : RelE P G n e a w) (hv : getV e.fr [] t = .lit (.bool b)) : a.tmps[t]? = some (.bool b) := by
  have h0 := (hr.st condOK_nil).slot t
  rw [st_get, hv] at h0
  have h1 : a.tmps.getD t undef = .bool b := by
    have h2 : RelV P G w (.lit (.bool b)) (a.tmps.getD t undef) := h0
    generalize a.tmps.getD t undef = u at h2
    cases h2; rfl
  rw [Array.getD_eq_getD_getElem?] at h1
  cases hx : a.tmps[t]? with
  | none => rw [hx] at h1; cases h1
  | some u => rw [hx] at h1; exact congrArg some h1
/-- By cases on a truth that a slot holds. -/
theorem COps.caseB {α : Type _} {b : Bool} {X Y : Option α} {r : α} {fr : Fr} {gs : List Nat} {loc : List (Nat × List AV)} {objs : Ob} {base : Nat → Option (List AV)} (t : Nat) (h : (bif b then X else Y) = some r) (hx : getV fr [] t = .lit (.bool b))
    (k1 : X = some r → COps P n ops l ⟨(t, [], .lit (.bool true)) :: fr, gs, loc, objs, base⟩ Q) (k2 : Y = some r → COps P n ops l ⟨(t, [], .lit (.bool false)) :: fr, gs, loc, objs, base⟩ Q) : COps P n ops l ⟨fr, gs, loc, objs, base⟩ Q := by
  have key : ∀ G a w, RelE P G n ⟨fr, gs, loc, objs, base⟩ a w → RelE P G n ⟨(t, [], .lit (.bool b)) :: fr, gs, loc, objs, base⟩ a w := by
    intro G a w hr
    have h0 := (hr.st condOK_nil).slot t
    rw [st_get] at h0
    have hx' : getV (⟨fr, gs, loc, objs, base⟩ : Es).fr [] t = .lit (.bool b) := hx
    rw [hx'] at h0
    refine ⟨hr.size, hr.defers, fun i hc => ?_, fun i hc => ?_, fun i p hp => ?_, hr.loc, hr.mem, hr.nd⟩
    · simp only [getE] at hc ⊢
      cases e : Nat.beq t i with
      | true => rw [Nat.eq_of_beq_eq_true e] at h0; exact h0
      | false => rw [e] at hc; exact hr.slot i hc
    · simp only [getE] at hc
      cases e : Nat.beq t i with
      | true => rw [e] at hc; exact absurd condOK_nil hc
      | false => rw [e] at hc; exact hr.off i hc
    · simp only [getE] at hp
      cases e : Nat.beq t i with
      | true => rw [e] at hp; cases hp
      | false => rw [e] at hp; exact hr.gs i p hp
  intro G a w K hr hfx hK
  cases b with
  | true => exact k1 h G a w K (key G a w hr) hfx hK
  | false => exact k2 h G a w K (key G a w hr) hfx hK
/-- A condition that holds. -/
theorem COps.want {t g : Nat} {b : Bool} (k : COps P n ops ({ o with guard := none } :: rest) e Q) (hg : o.guard = some (g, b) := by rfl) (ht : (ops[g]?).bind (·.dst) = some t := by rfl) (hv : getV e.fr [] t = .lit (.bool b) := by rfl) : COps P n ops (o :: rest) e Q := by
  intro G a w K hr hfx hK
  have := k G a w K hr hfx hK
  have hb := hr.bool hv
  have hw : Region.wanted o (yielded ops a.tmps) = true := by
    unfold Region.wanted
    rw [hg]
    simp only [yielded, ht, Option.bind_some, hb, beq_self_eq_true]
  simp only [wpList] at this ⊢
  rw [if_pos hw]
  rw [if_pos (show Region.wanted { o with guard := none } (yielded ops a.tmps) = true from rfl)] at this
  exact this
/-- A condition that doesn't. -/
theorem COps.unwant {t g : Nat} {b : Bool} {fr : Fr} {gs : List Nat} {loc : List (Nat × List AV)} {objs : Ob} {base : Nat → Option (List AV)} (k : COps P n ops rest ⟨(d, [], .any) :: fr, gs, loc, objs, base⟩ Q) (hg : o.guard = some (g, b) := by rfl) (ht : (ops[g]?).bind (·.dst) = some t := by rfl) (hv : getV fr [] t = .lit (.bool (!b)) := by rfl)
    (hd : o.dst = some d := by rfl) (hn : Nat.blt d n = true := by rfl) (hgs : memN d gs = false := by rfl) : COps P n ops (o :: rest) ⟨fr, gs, loc, objs, base⟩ Q := by
  intro G a w K hr hfx hK
  have hb := hr.bool hv
  have hw : Region.wanted o (yielded ops a.tmps) = false := by
    unfold Region.wanted
    rw [hg]
    simp only [yielded, ht, Option.bind_some, hb]
    cases b <;> rfl
  simp only [wpList]
  rw [if_neg (by rw [hw]; simp), hd]
  have hp := RelE.put (o := { o with guard := none }) (ops := ops) (C := []) (v := .any) (u := undef) (d := d) hr rfl (Nat.le_of_ble_eq_true hn) (mem_of_not hgs) (fun _ => RelV.any _) (fun _ => rfl)
  exact k G _ w K hp hfx hK
/-- A choice by a truth that is known. -/
theorem rPickK {c : Operand} {b p : Bool} (ho : o.op = .pick c x y := by rfl) (hc : evE e.fr C c = .lit (.bool b) := by rfl) (hx : evE e.fr C (bif b then x else y) = .lit (.bool p) := by rfl) : Reader P n (e.st C) o d (.lit (.bool p)) := by
  intro G a w h
  refine ⟨.bool p, lit_toS _, fun w' _ => ?_⟩
  have h1 := h.evLit (ev_st hc)
  have h2 := h.evLit (ev_st hx)
  simp only [execOp, ho, h1]
  cases b <;> (simp only [cond_true, cond_false] at h2; simp [h2, asBool])
/-- A local block that is written no more. -/
def frzF (k : Nat) (cells : List AV) (fr : Fr) : Fr := fr.map fun p => (p.1, p.2.1, frzV k cells p.2.2)
theorem st_frz (k : Nat) (cells : List AV) (fr : Fr) : (frzF k cells fr).map (fun p => (p.1, valE [] p.2)) = (fr.map fun p => (p.1, valE [] p.2)).map fun p => (p.1, frzV k cells p.2) := by
  unfold frzF
  rw [List.map_map, List.map_map]
  apply List.map_congr_left
  intro p _
  simp only [Function.comp, valE]
  cases subC p.2.1 [] <;> rfl
theorem cFreeze {fr fr' : Fr} {gs : List Nat} {loc loc' : List (Nat × List AV)} {objs : Ob} {base : Nat → Option (List AV)} {cells : List AV} (k : Nat) (g : COps P n ops l ⟨fr', [], loc', objs, base⟩ Q) (hc : lookL loc k = some cells := by rfl) (hfl : cells.all AV.flat = true := by rfl) (hs : frzF k cells fr = fr' := by rfl) (hl : frzL k loc = loc' := by rfl) (hf : flatB fr' = true := by rfl) : COps P n ops l ⟨fr, gs, loc, objs, base⟩ Q := by
  subst hs; subst hl
  intro G a w K hr hfx hK
  obtain ⟨G', r1, r2⟩ := (hr.st condOK_nil).freeze (k := k) hc hfl
  have e : (⟨frzF k cells fr, [], frzL k loc, objs, base⟩ : Es).st [] = ⟨((⟨fr, gs, loc, objs, base⟩ : Es).st []).fr.map fun p => (p.1, frzV k cells p.2), frzL k loc, lay objs base⟩ := by
    unfold Es.st
    simp only [st_frz]
  exact g G' a w K (RelE.of (by rw [e]; exact r1) hf hr.nd) (hfx.keep r2) fun s2 G2 a2 w2 hq hr2 hk2 => hK s2 G2 a2 w2 hq hr2 (r2.trans hk2)
/-- All of an array, as a list. -/
theorem rArr [I : HasTab P] {α : Type} (l : List α) (f : α → AV) {v : AV} {kk m z : Nat} {k2 : TK} (ho : o.op = .slice t x none none none := by rfl) (h1 : (HasTab.T P).look t = some (.arr m E, z) := by rfl) (h2 : (HasTab.T P).look E = some (k2, 1) := by rfl) (hx : evE e.fr C x = .eptr v kk := by rfl)
    (hm : Nat.ble m maxLen = true := by rfl) (hxs : (v.cells.drop kk).take m = l.map f := by rfl) (hl : (l.map f).length = m := by rfl) (hone : (l.map f).all (fun c => c.scalar && c.flat) = true := by rfl) (hcc : ((l.map f).all fun c => match c with | .agg _ => false | _ => true) = true := by rfl) : Reader P n (e.st C) o d (.list false E (l.map f)) := by
  obtain ⟨⟨D, hD, hk⟩, _⟩ := Tab.ok I.tok h1
  have hD2 : D = .array m E := by
    cases D <;> simp only [kOf] at hk <;> first | (cases hk; rfl) | (cases hk) | (split at hk <;> cases hk)
  subst hD2
  exact Reader.sliceE ho hD (Tab.ok I.tok h2).2 (ev_st hx) (Nat.le_of_ble_eq_true hm) hxs hl hone (one_cells hcc)
/-- What a closure holds. -/
def vCaps (ev : Operand → AV) : List Operand → Option (List AV)
  | [] => some []
  | x :: r => (ev x).un.force fun v => bif v.flat && Operand.ok x then (match vCaps ev r with | some q => some (v :: q) | none => none) else none
theorem rMk {f : FuncId} {caps : Array Operand} {cs : List AV} (ho : o.op = .makeFunc (.func f) #[] caps := by rfl) (hc : vCaps (evE e.fr C) caps.toList = some cs := by rfl) : Reader P n (e.st C) o d (.fn f cs) := by
  rw [evE_fun] at hc
  intro G a w h
  have key : ∀ (l : List Operand) (cs : List AV), vCaps (e.st C).eval l = some cs → (l.map a.eval).length = cs.length ∧ ∀ (j : Nat) (c : AV) (v : Value), cs[j]? = some c → (l.map a.eval)[j]? = some v → RelV P G w c v := by
    intro l
    induction l with
    | nil => intro cs h; cases h; exact ⟨rfl, fun j c v h _ => by simp at h⟩
    | cons x r ih =>
      intro cs h'
      unfold vCaps at h'
      rw [AV.force_eq] at h'
      cases hb : (((e.st C).eval x).un.flat && Operand.ok x) with
      | false => rw [hb] at h'; cases h'
      | true =>
        rw [hb] at h'
        simp only [Bool.and_eq_true] at hb
        simp only [cond_true] at h'
        split at h'
        · rename_i q hq
          cases h'
          obtain ⟨h1, h2⟩ := ih q hq
          refine ⟨by simp at h1 ⊢; exact h1, fun j c v hc hv => ?_⟩
          cases j with
          | zero =>
            simp at hc hv
            subst hc; subst hv
            obtain ⟨p, hp⟩ := h.ev x (ok_const hb.2)
            exact hp.toV hb.1
          | succ j => exact h2 j c v (by simpa using hc) (by simpa using hv)
        · cases h'
  obtain ⟨h1, h2⟩ := key caps.toList cs hc
  refine ⟨.func (.func f) #[] (caps.map a.eval), ?_, fun w' _ => ?_⟩
  · have := RelV.fn (P := P) (G := G) (w := w) f cs (caps.toList.map a.eval) h1 h2
    simp only [← Array.toList_map, Array.toArray_toList] at this
    exact this
  · simp [execOp, ho, Instr.makeFunc]

/-- A call of a function value: all objects are handed on. -/
theorem cCallV [I : HasTab P] {fr : Fr} {loc : List (Nat × List AV)} {objs : Ob} {base : Nat → Option (List AV)} {f : FuncId} {c : Call} {r : Nat} {ars cap args : List AV} {R : AV → Ob → Prop} (he : Enters P f) (h : FCall P f args objs R) (g : ∀ v outs, R v outs → COps P n ops rest ⟨(d, [], v) :: fr, [], loc, outs, base⟩ Q)
    (hC : cndOf ops fr o = some [] := by rfl) (hd : o.dst = some d := by rfl) (hn : Nat.blt d n = true := by rfl) (ho : o.op = .call c := by rfl) (hc : c.callee = .value (.tmp r) := by rfl) (hfn : getV fr [] r = .fn f cap := by rfl) (ha : vArgs (HasTab.T P) (evE fr []) c.args.toList c.argTypes.toList = some ars := by rfl) (hall : ars ++ cap = args := by rfl) : COps P n ops (o :: rest) ⟨fr, [], loc, objs, base⟩ Q := by
  subst hall
  intro G a w K hr hfx hK
  have hfl : ∀ i, (getE fr i).1 = [] := by
    intro i
    cases hx : (getE fr i).1 with
    | nil => rfl
    | cons p r =>
      have := hr.gs i p (by show p ∈ (getE fr i).1; rw [hx]; exact List.mem_cons_self ..)
      cases this
  rw [show evE fr [] = ((⟨fr, [], loc, objs, base⟩ : Es).st []).eval from evE_fun ⟨fr, [], loc, objs, base⟩ []] at ha
  obtain ⟨h1, h2⟩ := vArgs_ok ha
  have key := AOps.callV (P := P) (n := n) (ops := ops) (o := o) (rest := rest) (s := (⟨fr, [], loc, objs, base⟩ : Es).st []) (Q := fun s'' => ∃ e'', e''.st [] = s'' ∧ e''.nd ∧ Q e'') (wants0 (e := ⟨fr, [], loc, objs, base⟩) _ hC) hd (Nat.le_of_ble_eq_true hn) ho hc ((st_get _ [] r).trans hfn) he (args_ok h2) (by simpa using h1.len) (fun j x v hj hv => h1.at j x v (by simpa using hj) hv) rfl
    (R := fun r M' => ∃ outs, R r outs ∧ M' = lay outs base ∧ ndO outs base) (h base hr.nd) ?_
  · refine key G a w K (hr.st condOK_nil) hfx ?_
    rintro s'' G' a' w' ⟨e'', rfl, hn2, hq⟩ hr' hk
    exact hK e'' G' a' w' hq ⟨hr', hn2⟩ hk
  · rintro r M' ⟨outs, hR, rfl, hno⟩ G1 a1 w1 K1 hr1 hfx1 hK1
    refine g r outs hR G1 a1 w1 K1 ⟨hr1.size, hr1.defers, fun i _ => ?_, fun i hne => ?_, fun i p hp => ?_, hr1.loc, hr1.mem, hno⟩ hfx1 (fun e2 G2 a2 w2 hq hr2 hk2 => hK1 _ G2 a2 w2 ⟨e2, rfl, hr2.2, hq⟩ hr2.1 hk2)
    · have h3 := hr1.slot i
      have e1 : St.get { ((⟨fr, [], loc, objs, base⟩ : Es).st []).put d r with mem := lay outs base } i = valE [] (getE ((d, [], r) :: fr) i) := look_st [] ((d, [], r) :: fr) i
      rw [e1] at h3
      unfold valE at h3
      rw [show (getE ((d, [], r) :: fr) i).1 = [] from addF_get hfl [(d, r)] i] at h3
      exact h3
    · rw [show (getE ((d, [], r) :: fr) i).1 = [] from addF_get hfl [(d, r)] i] at hne
      exact absurd condOK_nil hne
    · rw [show (getE ((d, [], r) :: fr) i).1 = [] from addF_get hfl [(d, r)] i] at hp; cases hp
/-- A function, by its body, whose objects all stay in sight. -/
theorem FCall.ofAll [I : HasTab P] {f : FuncId} {fn : Func} {c : Code} {args : List AV} {ins : Ob} {R : AV → Ob → Prop} (hf : P.funcs[f]? = some fn) (hb : fn.body = some c) (hn : fn.ntmps = n) (hp : args.length.ble n = true) (hfl : args.all AV.flat = true)
    (h : ∀ base, CWp P n c ⟨entE 0 args, [], [], ins, base⟩ fun x e' => (x = .ret ∨ x = .normal) ∧ ∃ r, resE (HasTab.T P) e' fn.results.toList = some r ∧ e'.base = base ∧ R r e'.objs) : FCall P f args ins R := by
  intro base hnd
  refine ACall.of (n := n) hf hb hn hp hfl ?_
  intro G a w K hr hfx hK
  have hst : (⟨entE 0 args, [], [], ins, base⟩ : Es).st [] = ⟨entryFr 0 args, [], lay ins base⟩ := by
    unfold Es.st; rw [entE_st]
  refine h base G a w K ⟨by rw [hst]; exact hr, hnd⟩ hfx ?_
  rintro x e' G' a' w' ⟨hx, r, h1, rfl, hR⟩ hr' hk
  exact hK x (e'.st []) G' a' w' ⟨hx, r, by simpa using resE_ok I.tok h1, e'.objs, hR, rfl, hr'.2⟩ hr'.1 hk
/-- A function that is handed in: what it comes to. -/
def Fn1 (P : Program) (f : FuncId) (cap : List AV) (ins : Ob) {α : Type} (enc : α → AV) {β : Type} (dec : β → AV) (p : α → Option β) : Prop := Enters P f ∧ ∀ u b, p u = some b → FCall P f (enc u :: cap) ins fun v outs => v = dec b ∧ outs = ins
end
end
section
open Go.RowKit

theorem Fix.shaped {G : Gh} {w : World} (h : Fix G w) : w.ShapedOpen Tryz.prog := by
  obtain ⟨F, h1, h2⟩ := h
  exact (h2 w (fun b o e => (h1 b o e).2.1)).1
theorem Fix.tab {G : Gh} {w : World} (h : Fix G w) : Lib.TabIs Tryz.prog w "internal/strconv.uint64pow10" .u64 Lib.pow10Tab := by
  obtain ⟨F, h1, h2⟩ := h
  have h3 := (h2 w (fun b o e => (h1 b o e).2.1)).2
  first | exact h3 | exact h3.1
theorem Fix.errs {G : Gh} {w : World} (h : Fix G w) : (∃ v, w.cell? ⟨4, 0, none⟩ = some v ∧ (v = .nilIface ∨ ∃ te pe, v = .iface te pe)) ∧ (∃ v, w.cell? ⟨5, 0, none⟩ = some v ∧ (v = .nilIface ∨ ∃ te pe, v = .iface te pe)) := by
  obtain ⟨F, h1, h2⟩ := h
  exact (h2 w (fun b o e => (h1 b o e).2.1)).2.2

/-- Cut at each such byte. -/
def splitC (p : UInt8) (l : List UInt8) : List (List UInt8) := Lib.split l [p]

theorem splitB_c (p : UInt8) (l : List UInt8) : (Lib.splitB ⟨#[p]⟩ 0 (Lib.countB ⟨l.toArray⟩ ⟨#[p]⟩) ⟨l.toArray⟩).map Value.string = (splitC p l).map fun s => Value.string ⟨s.toArray⟩ := by
  have h := Lib.splitB_data ⟨#[p]⟩ 0 (Lib.countB ⟨l.toArray⟩ ⟨#[p]⟩) ⟨l.toArray⟩
  have e : splitC p l = (Lib.splitB ⟨#[p]⟩ 0 (Lib.countB ⟨l.toArray⟩ ⟨#[p]⟩) ⟨l.toArray⟩).map (·.data.toList) := by
    rw [h]
    unfold splitC Lib.split
    simp only [Lib.countB]
  rw [e, List.map_map]
  apply List.map_congr_left
  intro s _
  simp

theorem splitC_len (p : UInt8) (l : List UInt8) : (splitC p l).length = l.count p + 1 := by
  have h := Lib.splitB_all ⟨#[p]⟩ (by show 0 < (1 : Nat); decide) 0 _ ⟨l.toArray⟩ rfl
  have e : (splitC p l).length = (Lib.splitB ⟨#[p]⟩ 0 (Lib.countB ⟨l.toArray⟩ ⟨#[p]⟩) ⟨l.toArray⟩).length := by
    have := congrArg List.length (splitB_c p l)
    simpa using this.symm
  rw [e, h, Lib.countB, ← Lib.count_one]
theorem splitC_le (p : UInt8) (l : List UInt8) : (splitC p l).length ≤ l.length + 1 := by
  rw [splitC_len]; have := List.count_le_length (a := p) (l := l); omega

theorem splitC_nil (p : UInt8) : splitC p [] = [[]] := rfl
theorem index_consp (p : UInt8) (r : List UInt8) : Lib.index (p :: r) [p] = 0 := by unfold Lib.index; simp
theorem index_consp_ne {p c : UInt8} (h : c ≠ p) (r : List UInt8) : Lib.index (c :: r) [p] = if Lib.index r [p] == -1 then -1 else Lib.index r [p] + 1 := by
  rw [Lib.index, if_neg]
  simp [List.isPrefixOf, Ne.symm h]
theorem splitC_hit (p : UInt8) (r : List UInt8) : splitC p (p :: r) = [] :: splitC p r := by
  unfold splitC Lib.split
  rw [Lib.count_cons_eq, Nat.add_comm, Lib.splitK, index_consp]
  simp
theorem splitC_ne {p c : UInt8} (h : c ≠ p) (r : List UInt8) : ∃ hd tl, splitC p r = hd :: tl ∧ splitC p (c :: r) = (c :: hd) :: tl := by
  unfold splitC Lib.split
  rw [Lib.count_cons_ne c p r h]
  cases hk : Lib.count r [p] with
  | zero => exact ⟨r, [], rfl, rfl⟩
  | succ k =>
    have hi : ¬ (Lib.index r [p] == -1) = true := by
      intro e
      have := Lib.count_miss (beq_iff_eq.1 e)
      omega
    have hge := Lib.index_ge r [p]
    have hne : Lib.index r [p] ≠ -1 := fun e => hi (beq_iff_eq.2 e)
    obtain ⟨i, hi'⟩ : ∃ i : Nat, Lib.index r [p] = i := ⟨(Lib.index r [p]).toNat, by omega⟩
    refine ⟨r.take i, Lib.splitK [p] 0 k (r.drop (i + 1)), ?_, ?_⟩
    · rw [Lib.splitK, if_neg hi, hi']; simp
    · have hi2 : ¬ (Lib.index (c :: r) [p] == -1) = true := by rw [index_consp_ne h, if_neg hi, hi']; simp; omega
      have e2 : (Lib.index (c :: r) [p]).toNat = i + 1 := by rw [index_consp_ne h, if_neg hi, hi']; omega
      rw [Lib.splitK, if_neg hi2, e2]; simp

theorem splitC_mem (p : UInt8) : ∀ (l : List UInt8) (k : Nat) (s : List UInt8), (splitC p l)[k]? = some s → s.length ≤ l.length
  | [], k, s, h => by
    rw [splitC_nil] at h
    cases k with
    | zero => simp at h; subst h; simp
    | succ k => simp at h
  | c :: r, k, s, h => by
    by_cases hc : c = p
    · subst hc
      rw [splitC_hit] at h
      cases k with
      | zero => simp at h; subst h; simp
      | succ k => have := splitC_mem c r k s (by simpa using h); simp; omega
    · obtain ⟨hd, tl, e1, e2⟩ := splitC_ne hc r
      rw [e2] at h
      cases k with
      | zero =>
        simp at h; subst h
        have := splitC_mem p r 0 hd (by rw [e1]; rfl)
        simp; omega
      | succ k => have := splitC_mem p r (k + 1) s (by rw [e1]; simpa using h); simp; omega


def splitO (l p : List UInt8) : Option (List (List UInt8)) := match p with
  | [c] => if l.length ≤ 4294967280 then some (splitC c l) else none
  | _ => none
theorem splitO_w {l p : List UInt8} {r : List (List UInt8)} (h : splitO l p = some r) : PCall Tryz.prog 34 [.str l, .str p] (.list true 9 (r.map AV.str)) := by
  unfold splitO at h
  split at h
  · rename_i p
    split at h
    · rename_i hl
      cases h
      refine PCall.of fun M => ?_
      have hlen1 : (splitC p l).length = Lib.countB ⟨l.toArray⟩ ⟨#[p]⟩ + 1 := by
        rw [splitC_len, Lib.countB, ← Lib.count_one]
      have hcnt : (splitC p l).length ≤ l.length + 1 := splitC_le p l
      refine ACall.ofRow (size := 1) (by unfold SizeOf; kernel_rfl) (fun x hx => ?_) (fun x hx c hc => ?_) ?_ ?_
      · obtain ⟨s, _, rfl⟩ := List.mem_map.1 hx; rfl
      · obtain ⟨s, _, rfl⟩ := List.mem_map.1 hx; simp [AV.cells] at hc; subst hc; rfl
      · rw [List.length_map]; unfold maxLen; omega
      · intro G w vs hm hfx hlen hrel
        obtain ⟨v, u, rfl, h1, h2⟩ := arg2 hlen hrel
        have e1 := relV_str h1
        have e2 := relV_str h2
        subst e1; subst e2
        refine ⟨_, strs_rel (splitC p l), (Tryz.strings_Split_shaped ⟨l.toArray⟩ ⟨#[p]⟩ w hfx.shaped (by rw [bsize]; omega) (by show 0 < (1 : Nat); decide)).mono ?_⟩
        rintro e w' ⟨rfl, rfl⟩
        rw [splitB_c]
        refine ⟨w.heap.size, _, _, by rw [List.length_map, hlen1], Nat.le_refl _, by simp, heap_new _ _, by rw [List.length_map, hlen1]; exact Nat.le_refl _, ?_, by simp [hlen1], ?_, (Below.refl _ _).alloc (Nat.le_refl _) _⟩
        · rw [← hlen1]; unfold maxLen; omega
        · rw [List.length_map, Nat.mul_one, List.take_of_length_le (by simp)]
    · cases h
  · cases h

def trimO (s cut : List UInt8) : Option (List UInt8) := if cut = [48, 49, 50, 51, 52, 53, 54, 55, 56, 57] then some (Lib.trimLeftS s cut) else none
theorem trimO_w {s cut r : List UInt8} (h : trimO s cut = some r) : PCall Tryz.prog 60 [.str s, .str cut] (.str r) := by
  unfold trimO at h
  split at h
  · rename_i e
    subst e
    cases h
    refine PCall.of fun M => ACall.ofBelow rfl ?_
    intro G w vs hm hfx hlen hrel
    obtain ⟨v, u, rfl, h1, h2⟩ := arg2 hlen hrel
    have e1 := relV_str h1
    have e2 := relV_str h2
    subst e1; subst e2
    refine (Any.strings_TrimLeft_laid Tryz.lays161 (by kernel_rfl) ⟨s.toArray⟩ ⟨[48, 49, 50, 51, 52, 53, 54, 55, 56, 57].toArray⟩ w (by decide) (Go.Proofs.ascii_of_all (by decide))).mono ?_
    rintro e w' ⟨rfl, hb⟩
    exact ⟨_, rfl, .str _, hb⟩
  · cases h

def itoaO (n : Int) : Option (List UInt8) := if -9223372036854775808 ≤ n ∧ n ≤ 9223372036854775807 then some (Lib.itoa n) else none
theorem itoaO_w {n : Int} {r : List UInt8} (h : itoaO n = some r) : PCall Tryz.prog 39 [zI n] (.str r) := by
  unfold itoaO at h
  split at h
  · rename_i hn
    cases h
    refine PCall.of fun M => ACall.ofBelow rfl ?_
    intro G w vs hm hfx hlen hrel
    obtain ⟨v, rfl, h1⟩ := arg1 hlen hrel
    have e1 := relV_lit h1
    subst e1
    refine (Tryz.strconv_Itoa n hn.1 hn.2 w hfx.tab).mono ?_
    rintro e w' ⟨rfl, k, os, rfl⟩
    exact ⟨_, rfl, .str _, Lib.below_grow _ _ (Nat.le_refl _) _ _⟩
  · cases h

section
variable {P : Program} {n : Nat} {s : St} {o : Oper} {d f : Nat} {t t' : TypeId} {x : Operand} {op : BinOp} {args : List AV} {M : Nat → Option (List AV)}
theorem run_if_nn {ms : Array (String × TypeId)} (k : Nat) (hu : P.underlying t = some (.interface ms)) (w : World) : (Op.equalIn (k + 1) t .nilIface .nilIface).run P w = .ok true w := by
  simp [Op.equalIn, run_underlying hu]
theorem run_if_sn {ms : Array (String × TypeId)} (k : Nat) (te : TypeId) (pv : Value) (hu : P.underlying t = some (.interface ms)) (w : World) : (Op.equalIn (k + 1) t (.iface te pv) .nilIface).run P w = .ok false w := by
  simp [Op.equalIn, run_underlying hu]
/-- An interface, held against nil. -/
theorem Reader.ifNil {ms : Array (String × TypeId)} {v : Value} {b c : Bool} (ho : o.op = .binOp op t x (.const .nilIface) t') (hu : P.underlying t = some (.interface ms)) (hx : s.eval x = .lit v) (hb : (v = .nilIface ∧ b = true) ∨ ((∃ te pv, v = .iface te pv) ∧ b = false))
    (hr : (op = .eql ∧ c = b) ∨ (op = .neq ∧ c = !b)) : Reader P n s o d (.lit (.bool c)) := by
  intro G a w h
  refine ⟨.bool c, lit_toS _, fun w' _ => ?_⟩
  have hv := h.evLit hx
  have hn : a.eval (.const .nilIface) = .nilIface := rfl
  rcases hb with ⟨rfl, rfl⟩ | ⟨⟨te, pv, rfl⟩, rfl⟩
  · have hrun := run_if_nn (P := P) 9999 hu w'
    rcases hr with ⟨rfl, rfl⟩ | ⟨rfl, rfl⟩
    · simp [execOp, ho, hv, hn, binOp, eqGuard, Op.equal, Op.maxDepth, hrun, Result.andThen]
    · simp [execOp, ho, hv, hn, binOp, eqGuard, Op.equal, Op.maxDepth, hrun, Result.andThen]
  · have hrun := run_if_sn (P := P) 9999 te pv hu w'
    rcases hr with ⟨rfl, rfl⟩ | ⟨rfl, rfl⟩
    · simp [execOp, ho, hv, hn, binOp, eqGuard, Op.equal, Op.maxDepth, hrun, Result.andThen]
    · simp [execOp, ho, hv, hn, binOp, eqGuard, Op.equal, Op.maxDepth, hrun, Result.andThen]

/-- It answers some values that hold no memory, and leaves all that was there. -/
theorem ACall.ofBelowT {C : List AV → Prop}
    (h : ∀ (G : Gh) (w : World) (vs : List Value), RelM P G w M → Fix G w → vs.length = args.length → (∀ (j : Nat) x v, args[j]? = some x → vs[j]? = some v → RelV P G w x v) →
      Calls P f vs.toArray w fun e w' => ∃ cs us, C cs ∧ (∀ c ∈ cs, c.flat = true) ∧ e = .returned (.tuple (List.toArray us)) ∧ us.length = cs.length ∧ (∀ (j : Nat) c u, cs[j]? = some c → us[j]? = some u → RelV P G w c u) ∧ Below w.heap.size w w') :
    ACall P f args M (fun r' M' => (∃ cs, C cs ∧ r' = .tuple cs) ∧ M = M') := by
  intro G w vs hm hfx hlen hrel
  refine (h G w vs hm hfx hlen hrel).mono ?_
  rintro e w' ⟨cs, us, hC, hfl, rfl, hl, hr, hb⟩
  obtain ⟨kp, st⟩ := below_keep (G := G) hb hm.far
  refine ⟨.tuple cs, M, G, .tuple us.toArray, rfl, ⟨⟨cs, hC, rfl⟩, rfl⟩, rfl, ⟨us, rfl, hl, fun j c u h1 h2 => ?_⟩, ?_, kp⟩
  · have hc := hfl c (List.mem_of_getElem? h1)
    exact RelS.toO (p := fun _ => .res j) (((hr j c u h1 h2).stab st).toS hc) (.inl hc)
  · exact hm.move st hb.size (fun q b hq h1 h2 => ⟨h2, hb.block b h1, rfl⟩) (fun b hb' => hm.far b (Nat.le_trans hb.size hb')) rfl
end

/-- What strconv.Atoi answers: the number, and whether it is one. -/
def atoiO (s : List UInt8) : Option (Int × Bool) := if s.length ≤ 4294967280 then some (match Lib.atoiAll s with
  | .ok z => (z, true)
  | .range => (Lib.atoiSat s, false)
  | _ => (0, false)) else none
theorem atoiO_w {s : List UInt8} {r : Int × Bool} (h : atoiO s = some r) : FCall Tryz.prog 58 [.str s] [] (fun v outs => ∃ te pe, v = .tuple [zI r.1, .lit (bif r.2 then .nilIface else .iface te pe)] ∧ outs = []) := by
  unfold atoiO at h
  split at h
  · rename_i hl
    cases h
    intro base hnd
    refine ACall.mono (ACall.ofBelowT (C := fun cs => ∃ te pe, cs = [zI (match Lib.atoiAll s with | .ok z => (z, true) | .range => (Lib.atoiSat s, false) | _ => (0, false)).1, .lit (bif (match Lib.atoiAll s with | .ok z => (z, true) | .range => (Lib.atoiSat s, false) | _ => (0, false)).2 then .nilIface else .iface te pe)]) ?_) ?_
    · intro G w vs hm hfx hlen hrel
      obtain ⟨v, rfl, h1⟩ := arg1 hlen hrel
      have e1 := relV_str h1
      subst e1
      have fin : ∀ (z : Int) (u : Value) (w' : World), Below w.heap.size w w' → (∃ te pe, [AV.lit (.int .i64 z), AV.lit u] = [zI (match Lib.atoiAll s with | .ok z => (z, true) | .range => (Lib.atoiSat s, false) | _ => (0, false)).1, .lit (bif (match Lib.atoiAll s with | .ok z => (z, true) | .range => (Lib.atoiSat s, false) | _ => (0, false)).2 then .nilIface else .iface te pe)]) →
          ∃ cs us, (∃ te pe, cs = [zI (match Lib.atoiAll s with | .ok z => (z, true) | .range => (Lib.atoiSat s, false) | _ => (0, false)).1, .lit (bif (match Lib.atoiAll s with | .ok z => (z, true) | .range => (Lib.atoiSat s, false) | _ => (0, false)).2 then .nilIface else .iface te pe)]) ∧ (∀ c ∈ cs, c.flat = true) ∧ Ending.returned (.tuple #[.int .i64 z, u]) = .returned (.tuple (List.toArray us)) ∧ us.length = cs.length ∧ (∀ (j : Nat) c u, cs[j]? = some c → us[j]? = some u → RelV Tryz.prog G w c u) ∧ Below w.heap.size w w' := by
        intro z u w' hb he
        refine ⟨[.lit (.int .i64 z), .lit u], [_, _], he, by simp [AV.flat], rfl, rfl, fun j x u hx hu => ?_, hb⟩
        match j, hx, hu with
        | 0, hx, hu => cases hx; cases hu; exact .lit _
        | 1, hx, hu => cases hx; cases hu; exact .lit _
        | _ + 2, hx, hu => cases hx
      cases ha : Lib.atoiAll s with
      | ok z =>
        refine (Tryz.strconv_Atoi_ok ⟨s.toArray⟩ (by rw [bsize]; omega) z ha w).mono ?_
        rintro e w' ⟨rfl, hw⟩
        rw [ha] at fin
        refine fin _ _ _ ?_ ⟨0, .nilIface, rfl⟩
        rcases hw with rfl | ⟨t, rfl⟩
        · exact Below.refl _ _
        · exact Lib.bytesWorld_below _ _ _
      | range =>
        obtain ⟨ev, hv, hev⟩ := hfx.errs.2
        refine (Tryz.strconv_Atoi_range ⟨s.toArray⟩ (by rw [bsize]; omega) ha ev w hv hev).mono ?_
        rintro e w' ⟨N, rfl, _, _, hb⟩
        rw [ha] at fin
        exact fin _ _ _ hb ⟨_, _, rfl⟩
      | _ =>
        obtain ⟨ev, hv, hev⟩ := hfx.errs.1
        refine (Tryz.strconv_Atoi_syntax ⟨s.toArray⟩ (by rw [bsize]; omega) ha ev w hv hev).mono ?_
        rintro e w' ⟨N, rfl, _, _, hb⟩
        rw [ha] at fin
        exact fin _ _ _ hb ⟨_, _, rfl⟩
    · rintro r M' ⟨⟨cs, ⟨te, pe, rfl⟩, rfl⟩, rfl⟩
      exact ⟨[], ⟨te, pe, rfl, rfl⟩, rfl, hnd⟩
  · cases h
/-- An error held against nil. -/
theorem rErr {P : Program} {n : Nat} {e : Es} {o : Oper} {d : Nat} {C : Cnd} {t t' : Nat} {x : Operand} {op : BinOp} {b : Bool} {te : TypeId} {pe : Value} {ms : Array (String × TypeId)} (hu : P.underlying t = some (.interface ms)) (ho : o.op = .binOp op t x (.const .nilIface) t' := by rfl) (hx : evE e.fr C x = .lit (bif b then .nilIface else .iface te pe) := by rfl) (hop : op = .neq := by rfl) : Reader P n (e.st C) o d (zB (!b)) := by
  cases b with
  | true => exact Reader.ifNil ho hu (ev_st hx) (.inl ⟨rfl, rfl⟩) (.inr ⟨hop, rfl⟩)
  | false => exact Reader.ifNil ho hu (ev_st hx) (.inr ⟨⟨_, _, rfl⟩, rfl⟩) (.inr ⟨hop, rfl⟩)
end
section
open Go.RowKit

structure Ev where
  kind : Int
  id : List UInt8
  sig : Int
  n : Int
  deriving DecidableEq
def e0 : Ev := ⟨0, [], 0, 0⟩
/-- The kinds' words. -/
def kwL : List (List UInt8) := [[], [97, 100, 109, 105, 116], [112, 114, 101, 101, 109, 112, 116], [114, 101, 106, 101, 99, 116], [100, 101, 108, 101, 116, 101], [101, 118, 105, 99, 116], [111, 110], [111, 102, 102], [98, 101, 103, 105, 110], [112, 117, 108, 108], [117, 112], [102, 97, 105, 108], [103, 111, 110, 101], [100, 101, 97, 100], [105, 109, 97, 103, 101], [115, 116, 111, 112], [114, 101, 99, 111, 118, 101, 114]]
def kwOf (k : Int) : List UInt8 := kwL.getD k.toNat []
def roomL : List UInt8 := [114, 111, 111, 109]
def presL : List UInt8 := [112, 114, 101, 115, 115, 117, 114, 101]
def visB (c : UInt8) : Bool := decide (33 ≤ c.toNat) && decide (c.toNat ≤ 126)
def wordB (s : List UInt8) : Bool := s.all visB && (decide (1 ≤ s.length) && (decide (s.length ≤ 60) && decide ((s.getD 0 0).toNat ≠ 35)))
def inS (n : Int) : Bool := decide (0 ≤ n) && decide (n ≤ 2)
def sgw (n : Int) : List UInt8 := if inS n then wordOf n else []
def Named (k : Int) : Prop := k ≠ 6 ∧ k ≠ 7 ∧ k ≠ 16
instance (k : Int) : Decidable (Named k) := by unfold Named; infer_instance
/-- The fields behind the kind's word. -/
def flE (e : Ev) : List (List UInt8) :=
  if e.kind = 3 then (if e.n = 3 then [e.id, presL, sgw e.sig] else [e.id, roomL])
  else if e.kind = 5 then [e.id, sgw e.sig]
  else if e.kind = 6 ∨ e.kind = 7 then [sgw e.sig]
  else if e.kind = 9 ∨ e.kind = 14 then [e.id, Lib.itoa e.n]
  else if e.kind = 16 then [Lib.itoa e.n]
  else [e.id]
/-- What is left of the event then. -/
def restE (e : Ev) : Ev := ⟨e.kind, if Named e.kind then [] else e.id, if (e.kind = 3 ∧ e.n = 3) ∨ e.kind = 5 ∨ e.kind = 6 ∨ e.kind = 7 then 0 else e.sig, if e.kind = 3 ∨ e.kind = 9 ∨ e.kind = 14 ∨ e.kind = 16 then 0 else e.n⟩
def ok1E (e : Ev) : Bool := if e.kind = 3 then (if e.n = 3 then inS e.sig else decide (e.n = 4)) else if e.kind = 5 ∨ e.kind = 6 ∨ e.kind = 7 then inS e.sig else if e.kind = 9 ∨ e.kind = 14 ∨ e.kind = 16 then decide (0 ≤ e.n) else true
def okE (e : Ev) : Bool := if Named e.kind then ok1E e && wordB e.id else ok1E e
def RightE (e : Ev) : Prop := 1 ≤ e.kind ∧ e.kind ≤ 16 ∧ okE e = true ∧ restE e = ⟨e.kind, [], 0, 0⟩
instance (e : Ev) : Decidable (RightE e) := by unfold RightE; infer_instance
/-- A line. -/
def lineE (r : Int) (e : Ev) : List UInt8 := (digs r.toNat ++ [32]) ++ Lib.join (kwOf e.kind :: flE e) [32]
def HasLine (r : Int) (e : Ev) : Prop := RightE e ∧ 0 ≤ r ∧ r ≤ 1099511627776
instance (r : Int) (e : Ev) : Decidable (HasLine r e) := by unfold HasLine; infer_instance
/-- What a line tells: a guess. -/
def numL (s : List UInt8) : Int := match Lib.atoiAll s with | .ok n => n | _ => -1
/-- A word's place; below 0: it is none. -/
def idxL (l : List (List UInt8)) (s : List UInt8) : Int := match l.findIdx? (· == s) with | some i => (i : Int) | none => -1
def kwIdx (s : List UInt8) : Int := idxL kwL s
def lastL (l : List (List UInt8)) : List UInt8 := if 0 < l.length then l.getD (l.length - 1) [] else []
def mx0 (x : Int) : Int := if 0 ≤ x then x else 0
def guessE (k : Int) (l : List (List UInt8)) : Ev :=
  ⟨k, if Named k ∧ 0 < l.length then l.getD 0 [] else [],
   if k = 3 then (if 1 < l.length ∧ l.getD 1 [] = presL then mx0 (sigOf (lastL l)) else 0) else if k = 5 ∨ k = 6 ∨ k = 7 then mx0 (sigOf (lastL l)) else 0,
   if k = 3 then (if 1 < l.length ∧ l.getD 1 [] = presL then 3 else 4) else if k = 9 ∨ k = 14 ∨ k = 16 then numL (lastL l) else 0⟩
def spL (s : List UInt8) : List (List UInt8) := splitC 32 s
def gN (s : List UInt8) : Int := numL ((spL s).getD 0 [])
def gE (s : List UInt8) : Ev := guessE (kwIdx ((spL s).getD 1 [])) ((spL s).drop 2)
/-- A text is a line's: then the guess's own. -/
def OkL (s : List UInt8) : Prop := 2 ≤ (spL s).length ∧ HasLine (gN s) (gE s) ∧ lineE (gN s) (gE s) = s
instance (s : List UInt8) : Decidable (OkL s) := by unfold OkL; infer_instance
end
section
open Go.RowKit

section
variable {H : Type} {enc : TypeId × Value → H} {P : Program} {w : World} {r : Reach} {b0 : Nat} {t : TypeId} {v : Value} {d : DataW H} {ps : List MemPlace}
theorem i64_le {n : Int} (h : (Lit.int .i64 n).wf = true) : -9223372036854775808 ≤ n ∧ n ≤ 9223372036854775807 := by
  simp only [Lit.wf, Bool.and_eq_true, decide_eq_true_eq] at h; exact h

end
end
section
open Go.RowKit

/-- What one cell of a type holds. -/
inductive LK where
  | b | i (k : IntKind) | s | l (t : TypeId)
  deriving DecidableEq

def leavesF (P : Program) (g : TypeId → Option (List LK)) : List Field → Nat → Option (List LK)
  | [], _ => some []
  | f :: r, o => (g f.type).bind fun ks => if f.offset = o ∧ P.cellsOf f.type = ks.length then (leavesF P g r (o + ks.length)).map fun q => ks ++ q else none
def leaves (P : Program) : Nat → TypeId → Option (List LK)
  | 0, _ => none
  | n + 1, t =>
    match P.underlying t with
    | some .bool => some [.b]
    | some (.int k) => some [.i k]
    | some .string => some [.s]
    | some (.slice _) => some [.l t]
    | some (.struct fs) => (leavesF P (leaves P n) fs.toList 0).bind fun ks => if P.cellsOf t = ks.length then some ks else none
    | some (.array m e) => (leaves P n e).bind fun ks => if P.cellsOf e = ks.length ∧ P.cellsOf t = m * ks.length then some (List.replicate m ks).flatten else none
    | _ => none

section
variable {H : Type} {enc : TypeId × Value → H} {P : Program} {w : World}
def Trd (enc : TypeId × Value → H) (P : Program) (w : World) (t : TypeId) (cs : List Value) : Prop := ∃ m x, DataW.trod enc P w 0 (fun _ => true) true m t cs = some x
def LeafOK (enc : TypeId × Value → H) (P : Program) (w : World) : LK → Value → Prop
  | .b, v => ∃ q, v = .bool q
  | .i k, v => ∃ z, v = .int k z ∧ (Lit.int k z).wf = true
  | .s, v => ∃ l : List UInt8, v = .string ⟨l.toArray⟩ ∧ l.length ≤ maxLen
  | .l t, v => Trd enc P w t [v]
def LeavesOK (enc : TypeId × Value → H) (P : Program) (w : World) (ks : List LK) (cs : List Value) : Prop := cs.length = ks.length ∧ ∀ (j : Nat) k, ks[j]? = some k → ∃ v, cs[j]? = some v ∧ LeafOK enc P w k v
theorem LeavesOK.cons {k : LK} {ks : List LK} {cs : List Value} (h : LeavesOK enc P w (k :: ks) cs) : ∃ v r, cs = v :: r ∧ LeafOK enc P w k v ∧ LeavesOK enc P w ks r := by
  obtain ⟨h1, h2⟩ := h
  cases cs with
  | nil => cases h1
  | cons v r =>
    obtain ⟨u, e, hu⟩ := h2 0 k rfl
    cases e
    exact ⟨v, r, rfl, hu, by simpa using h1, fun j k' hk => h2 (j + 1) k' hk⟩
theorem LeavesOK.nil {cs : List Value} (h : LeavesOK enc P w [] cs) : cs = [] := List.length_eq_zero_iff.1 h.1

theorem leavesF_ok {g : TypeId → Option (List LK)} (hg : ∀ t ks cs, g t = some ks → Trd enc P w t cs → LeavesOK enc P w ks cs) {cs : List Value} :
    ∀ (fs : List Field) (o : Nat) (ks : List LK), leavesF P g fs o = some ks → (∀ f ∈ fs, Trd enc P w f.type ((cs.drop f.offset).take (P.cellsOf f.type))) →
      ∀ (j : Nat) k, ks[j]? = some k → ∃ v, cs[o + j]? = some v ∧ LeafOK enc P w k v
  | [], o, ks, h, _, j, k, hj => by
    simp [leavesF] at h
    subst h
    simp at hj
  | f :: r, o, ks, h, hf, j, k, hj => by
    simp only [leavesF, Option.bind_eq_some_iff] at h
    obtain ⟨k1, h1, h2⟩ := h
    split at h2
    · rename_i hc
      obtain ⟨k2, h3, rfl⟩ := Option.map_eq_some_iff.1 h2
      obtain ⟨ho, hcc⟩ := hc
      obtain ⟨a1, a2⟩ := hg f.type k1 _ h1 (hf f (List.mem_cons_self ..))
      by_cases hlt : j < k1.length
      · rw [List.getElem?_append_left hlt] at hj
        obtain ⟨v, hv, hl⟩ := a2 j k hj
        rw [hcc, List.getElem?_take_of_lt hlt, List.getElem?_drop, ho] at hv
        exact ⟨v, hv, hl⟩
      · rw [List.getElem?_append_right (by omega)] at hj
        obtain ⟨v, hv, hl⟩ := leavesF_ok hg r (o + k1.length) k2 h3 (fun f' h' => hf f' (List.mem_cons_of_mem _ h')) (j - k1.length) k hj
        rw [show o + k1.length + (j - k1.length) = o + j by omega] at hv
        exact ⟨v, hv, hl⟩
    · cases h2
theorem rep_get {α : Type} (ks : List α) : ∀ (m j : Nat) (k : α), ((List.replicate m ks).flatten)[j]? = some k → ∃ i r, i < m ∧ r < ks.length ∧ j = i * ks.length + r ∧ ks[r]? = some k
  | 0, j, k, h => by simp at h
  | m + 1, j, k, h => by
    rw [List.replicate_succ, List.flatten_cons] at h
    by_cases hlt : j < ks.length
    · rw [List.getElem?_append_left hlt] at h
      exact ⟨0, j, by omega, hlt, by omega, h⟩
    · rw [List.getElem?_append_right (by omega)] at h
      obtain ⟨i, r, h1, h2, h3, h4⟩ := rep_get ks m (j - ks.length) k h
      refine ⟨i + 1, r, by omega, h2, ?_, h4⟩
      rw [Nat.add_mul]; omega
theorem leaves_ok : ∀ (n : Nat) (t : TypeId) (ks : List LK) (cs : List Value), leaves P n t = some ks → Trd enc P w t cs → LeavesOK enc P w ks cs
  | 0, t, ks, cs, h, _ => by cases h
  | n + 1, t, ks, cs, h, ⟨m, x, hx⟩ => by
    unfold leaves at h
    split at h
    · rename_i hu
      cases h
      obtain ⟨q, rfl, _⟩ := DataW.trod_bool hu hx
      exact ⟨rfl, fun j k hj => by match j, hj with | 0, hj => cases hj; exact ⟨_, rfl, q, rfl⟩⟩
    · rename_i k hu
      cases h
      obtain ⟨z, rfl, _, hw⟩ := DataW.trod_int hu hx
      exact ⟨rfl, fun j k hj => by match j, hj with | 0, hj => cases hj; exact ⟨_, rfl, z, rfl, hw⟩⟩
    · rename_i hu
      cases h
      obtain ⟨q, rfl, _, hw⟩ := DataW.trod_string hu hx
      exact ⟨rfl, fun j k hj => by match j, hj with | 0, hj => cases hj; exact ⟨_, rfl, q.data.toList, by simp, by simpa using hw⟩⟩
    · rename_i e hu
      cases h
      have hl : ∃ v, cs = [v] := by
        rcases DataW.trod_slice hu hx with ⟨rfl, _⟩ | ⟨a, len, cap, _, _, _, _, rfl, _⟩ <;> exact ⟨_, rfl⟩
      obtain ⟨v, rfl⟩ := hl
      exact ⟨rfl, fun j k hj => by match j, hj with | 0, hj => cases hj; exact ⟨_, rfl, m, x, hx⟩⟩
    · rename_i fs hu
      obtain ⟨k1, h1, h2⟩ := Option.bind_eq_some_iff.1 h
      split at h2
      · rename_i hc
        cases h2
        obtain ⟨xs, m', _, _, hlen, hl, hf⟩ := DataW.trod_struct hu hx
        refine ⟨hlen.trans hc, fun j k hj => ?_⟩
        have := leavesF_ok (cs := cs) (fun t ks cs h1 h2 => leaves_ok n t ks cs h1 h2) fs.toList 0 ks h1 (fun f hm => by
          obtain ⟨i, hi, rfl⟩ := List.getElem_of_mem hm
          have h3 := hf i fs.toList[i] (by simp)
          have hi' : i < xs.length := by rw [hl]; simpa using hi
          rw [List.getElem?_eq_getElem hi'] at h3
          exact ⟨m', _, h3⟩) j k hj
        rwa [Nat.zero_add] at this
      · cases h2
    · rename_i q e hu
      obtain ⟨k1, h1, h2⟩ := Option.bind_eq_some_iff.1 h
      split at h2
      · rename_i hc
        cases h2
        obtain ⟨xs, m', _, _, hlen, hl, hf⟩ := DataW.trod_array hu hx
        refine ⟨by rw [hlen, hc.2]; simp, fun j k hj => ?_⟩
        obtain ⟨i, r, hi, hr, rfl, hk⟩ := rep_get k1 q j k hj
        have h3 := hf i hi
        rw [List.getElem?_eq_getElem (by rw [hl]; exact hi)] at h3
        obtain ⟨a1, a2⟩ := leaves_ok n e k1 _ h1 ⟨m', _, h3⟩
        obtain ⟨v, hv, hlf⟩ := a2 r k hk
        rw [hc.1, List.getElem?_take_of_lt hr, List.getElem?_drop] at hv
        exact ⟨v, hv, hlf⟩
      · cases h2
    · cases h

theorem flat_inv {xs : List AV} {n : Nat} (hn : 0 < n) (h : ∀ x ∈ xs, x.cells.length = n) {j : Nat} {c : AV} (hj : (xs.flatMap AV.cells)[j]? = some c) : ∃ x, xs[j / n]? = some x ∧ x.cells[j % n]? = some c := by
  induction xs generalizing j with
  | nil => simp at hj
  | cons a r ih =>
    rw [List.flatMap_cons] at hj
    have ha := h a (List.mem_cons_self ..)
    by_cases hlt : j < n
    · rw [List.getElem?_append_left (by omega)] at hj
      rw [Nat.div_eq_of_lt hlt, Nat.mod_eq_of_lt hlt]
      exact ⟨a, rfl, hj⟩
    · rw [List.getElem?_append_right (by omega), ha] at hj
      obtain ⟨x, h1, h2⟩ := ih (fun x hx => h x (List.mem_cons_of_mem _ hx)) hj
      have e1 : j / n = (j - n) / n + 1 := by
        conv => lhs; rw [show j = (j - n) + n by omega]
        exact Nat.add_div_right _ hn
      have e2 : j % n = (j - n) % n := by
        conv => lhs; rw [show j = (j - n) + n by omega]
        exact Nat.add_mod_right _ _
      rw [e1, e2]
      exact ⟨x, h1, h2⟩

/-- A row of values, opened at once. -/
theorem open_row {α : Type} (d : α) {A : α → AV} {φ : α → Prop} {n : Nat} {t e : TypeId} {v : Value} (ht : P.underlying t = some (.slice e)) (hce : P.cellsOf e = n) (hn : 0 < n) (hs : SizeOf P e n) (hA : ∀ y, (A y).cells.length = n ∧ ∀ c ∈ (A y).cells, c.scalar = true)
    (hel : ∀ cs, Trd enc P w e cs → ∃ y, φ y ∧ ∀ (j : Nat) c, (A y).cells[j]? = some c → ∃ u, cs[j]? = some u ∧ RelV P (Gh.start w) w c u)
    (h : Trd enc P w t [v]) : ∃ l : List α, (∀ y ∈ l, φ y) ∧ l.length ≤ maxLen ∧ RelV P (Gh.start w) w (.list false e (l.map A)) v := by
  obtain ⟨fuel, x, hf⟩ := h
  rcases Deep.open_slice ht hf with ⟨hcs, _⟩ | ⟨a, len, cap, m, n', D, Pl, hcs, _, hl, hm, hmm, _, hx⟩
  · cases hcs
    exact ⟨[], fun y hy => (by cases hy), Nat.zero_le _, .nil _ _⟩
  · cases hcs
    have hm' : m = cap := by rw [hmm]; rfl
    subst hm'
    rcases Nat.eq_zero_or_pos m with h0 | h0
    · have hl0 : len = 0 := by omega
      rw [h0, hl0]
      exact ⟨[], fun y hy => (by cases hy), Nat.zero_le _, .zero _ _⟩
    · rw [hce] at hx
      have hspot : a.spot = none := by
        obtain ⟨cs0, h1, _⟩ := hx 0 h0
        obtain ⟨_, q2, q3⟩ := World.cells?_some h1
        have q4 := q3 0 hn
        rw [Nat.zero_mul] at q4
        have q5 : (a.add 0).add 0 = a := rfl
        rw [q5, List.getElem?_eq_getElem (by omega)] at q4
        simp only [World.cell?] at q4
        split at q4
        · split at q4
          · cases q4
          · rename_i hq; cases hsp : a.spot with
            | none => rfl
            | some z => rw [hsp] at hq; simp at hq
        · cases q4
      obtain ⟨b, off, sp⟩ := a
      simp only at hspot
      subst hspot
      have key : ∀ i, ∃ y, i < len → φ y ∧ ∃ cs' : List Value, cs'.length = n ∧ (∀ r, r < n → w.cell? ⟨b, off + (i * n + r), none⟩ = cs'[r]?) ∧ ∀ (j : Nat) c, (A y).cells[j]? = some c → ∃ u, cs'[j]? = some u ∧ RelV P (Gh.start w) w c u := by
        intro i
        by_cases hi : i < len
        · obtain ⟨cs', h1, h2⟩ := hx i (by omega)
          obtain ⟨y, hy1, hy2⟩ := hel cs' ⟨_, _, h2⟩
          obtain ⟨_, q2, q3⟩ := World.cells?_some h1
          refine ⟨y, fun _ => ⟨hy1, cs', q2, fun r hr => ?_, hy2⟩⟩
          rw [← q3 r hr]
          congr 1
          rw [add_at, add_at, Nat.add_assoc]
        · exact ⟨d, fun h => (hi h).elim⟩
      let l : List α := (List.range len).map fun i => Classical.choose (key i)
      have hll : l.length = len := by simp [l]
      have hlg : ∀ i, i < len → l[i]? = some (Classical.choose (key i)) := by
        intro i hi
        simp [l, hi]
      have hAl : ∀ x ∈ l.map A, x.cells.length = n := by
        intro x hx'; obtain ⟨y, _, rfl⟩ := List.mem_map.1 hx'; exact (hA y).1
      refine ⟨l, ?_, by omega, ?_⟩
      · intro y hy
        obtain ⟨i, hi, rfl⟩ := List.mem_map.1 hy
        exact (Classical.choose_spec (key i) (List.mem_range.1 hi)).1
      · have hcell : ∀ i, i < len → ∀ r, r < n → ∃ u, w.cell? ⟨b, off + (i * n + r), none⟩ = some u := by
          intro i hi r hr
          obtain ⟨_, cs', q1, q2, _⟩ := Classical.choose_spec (key i) hi
          rw [q2 r hr, List.getElem?_eq_getElem (by omega)]
          exact ⟨_, rfl⟩
        have hall : ∀ j, j < len * n → ∃ u, w.cell? ⟨b, off + j, none⟩ = some u := by
          intro j hj
          have h1 : j / n < len := Nat.div_lt_of_lt_mul (by rw [Nat.mul_comm]; exact hj)
          have h2 : j % n < n := Nat.mod_lt _ hn
          have h3 := hcell (j / n) h1 (j % n) h2
          rwa [show j / n * n + j % n = j from by rw [Nat.mul_comm]; exact Nat.div_add_mod j n] at h3
        rw [show Value.slice (some ⟨b, off, none⟩) len m = .slice (some ⟨b, off, none⟩) (l.map A).length m by rw [List.length_map, hll]]
        refine RelV.row false e (l.map A) b off m n (fun j => (w.cell? ⟨b, off + j, none⟩).getD undef) hs hAl (fun x hx' => ?_) (by rw [List.length_map, hll]; exact hl) hm (fun hpos => ?_) (fun j hj => ?_) (fun j c hj => ?_)
        · obtain ⟨y, _, rfl⟩ := List.mem_map.1 hx'; exact (hA y).2
        · rw [List.length_map, hll] at hpos ⊢
          have hp : 0 < len * n := Nat.mul_pos hpos hn
          obtain ⟨u, hu⟩ := hall (len * n - 1) (by omega)
          simp only [World.cell?] at hu
          cases hb : w.heap[b]? with
          | none => simp [hb] at hu
          | some o =>
            cases o with
            | cells arr T fr =>
              rw [start_tip hb]
              simp only [hb, Option.isSome_none, Bool.false_eq_true, if_false] at hu
              have := (Array.getElem?_eq_some_iff.1 hu).1
              omega
            | _ => simp [hb] at hu
        · rw [List.length_map, hll] at hj
          obtain ⟨u, hu⟩ := hall j hj
          simp only [hu, Option.getD_some]
        · obtain ⟨x, h1, h2⟩ := flat_inv hn hAl hj
          rw [List.getElem?_map] at h1
          obtain ⟨y, hy, rfl⟩ := Option.map_eq_some_iff.1 h1
          have hi : j / n < len := by rw [← hll]; exact (List.getElem?_eq_some_iff.1 hy).1
          rw [hlg _ hi] at hy
          cases hy
          obtain ⟨_, cs', q1, q2, q3⟩ := Classical.choose_spec (key (j / n)) hi
          obtain ⟨u, hu1, hu2⟩ := q3 (j % n) c h2
          have q4 := q2 (j % n) (Nat.mod_lt _ hn)
          rw [show j / n * n + j % n = j from by rw [Nat.mul_comm]; exact Nat.div_add_mod j n, hu1] at q4
          simp only [q4, Option.getD_some]
          exact hu2
end
end
section
open Go.RowKit

section
variable {κ β : Type} [DecidableEq κ]
/-- Where a key stands. -/
def idxK (k : κ) : List κ → Nat → Option Nat
  | [], _ => none
  | a :: r, i => bif decide (k = a) then some i else idxK k r (i + 1)
def getL (k : κ) : List (κ × β) → Option β
  | [] => none
  | p :: r => bif decide (k = p.1) then some p.2 else getL k r
def setL (k : κ) (v : β) : List (κ × β) → List (κ × β)
  | [] => [(k, v)]
  | p :: r => bif decide (k = p.1) then (k, v) :: r else p :: setL k v r
def encG (ke : κ → Value) (vf : β → AV) (S : List (κ × β)) : List (Value × AV) := S.map fun p => (ke p.1, vf p.2)
/-- A map's content. -/
def mapO (ke : κ → Value) (vf : β → AV) (S : List (κ × β)) : List AV := mapG (encG ke vf S)

theorem idxK_off (k : κ) : ∀ (l : List κ) (i : Nat), idxK k l i = (idxK k l 0).map (· + i)
  | [], i => rfl
  | a :: r, i => by
    unfold idxK
    cases h : decide (k = a) with
    | true => simp
    | false =>
      simp only [cond_false]
      rw [idxK_off k r (i + 1), idxK_off k r (0 + 1), Option.map_map]
      congr 1
      funext x
      simp only [Function.comp_apply]; omega
theorem idxK_lt {k : κ} : ∀ {l : List κ} {j : Nat}, idxK k l 0 = some j → l[j]? = some k
  | a :: r, j, h => by
    unfold idxK at h
    cases e : decide (k = a) with
    | true =>
      rw [e] at h
      cases h
      rw [of_decide_eq_true e]; rfl
    | false =>
      rw [e, cond_false, idxK_off] at h
      obtain ⟨i, hi, rfl⟩ := Option.map_eq_some_iff.1 h
      have := idxK_lt hi
      simpa using this
theorem getL_idx (k : κ) : ∀ (S : List (κ × β)), getL k S = (idxK k (S.map Prod.fst) 0).bind fun j => (S[j]?).map Prod.snd
  | [] => rfl
  | p :: r => by
    unfold getL
    rw [List.map_cons]
    unfold idxK
    cases h : decide (k = p.1) with
    | true => simp
    | false =>
      simp only [cond_false]
      rw [getL_idx k r, idxK_off k _ (0 + 1)]
      cases idxK k (r.map Prod.fst) 0 <;> simp
theorem setL_none {k : κ} {v : β} : ∀ {S : List (κ × β)}, idxK k (S.map Prod.fst) 0 = none → setL k v S = S ++ [(k, v)]
  | [], _ => rfl
  | p :: r, h => by
    rw [List.map_cons] at h
    unfold idxK at h
    unfold setL
    cases e : decide (k = p.1) with
    | true => rw [e] at h; cases h
    | false =>
      rw [e, cond_false, idxK_off] at h
      rw [cond_false, setL_none (by simpa using h)]; rfl
theorem setL_some {k : κ} {v : β} : ∀ {S : List (κ × β)} {j : Nat}, idxK k (S.map Prod.fst) 0 = some j → setL k v S = S.set j (k, v)
  | p :: r, j, h => by
    rw [List.map_cons] at h
    unfold idxK at h
    unfold setL
    cases e : decide (k = p.1) with
    | true => rw [e] at h; cases h; rfl
    | false =>
      rw [e, cond_false, idxK_off] at h
      obtain ⟨i, hi, rfl⟩ := Option.map_eq_some_iff.1 h
      rw [cond_false, setL_some hi]; rfl
/-- Keys that the machine can tell apart. -/
structure KeyT (P : Program) (kt : TypeId) (ke : κ → Value) : Prop where
  chk : ∀ e k w, (Instr.checkKey e 10000 kt (ke k)).run P w = .ok () w
  fnd : ∀ (k : κ) (ks : List κ) (es : List MapEntry) (w : World), es.map (·.key) = ks.map ke → (Instr.findKey kt (ke k) es).run P w = .ok ((idxK k ks 0).bind fun j => (es[j]?).map fun e => (j, e.val)) w
  stays : ∀ k w, (Instr.keyThatStays (ke k) (ke k)).run P w = .ok (ke k) w
end

def keS (l : List UInt8) : Value := .string ⟨l.toArray⟩
theorem findNow_keS (k : List UInt8) : ∀ (ks : List (List UInt8)) (es : List MapEntry) (o : Nat), es.map (·.key) = ks.map keS → Instr.findNow .string (keS k) es o = some ((idxK k ks 0).bind fun j => (es[j]?).map fun e => (j + o, e.val))
  | [], [], o, _ => rfl
  | [], _ :: _, o, h => by cases h
  | a :: r, [], o, h => by cases h
  | a :: r, e :: es, o, h => by
    rw [List.map_cons, List.map_cons, List.cons.injEq] at h
    have ih := findNow_keS k r es (o + 1) h.2
    have hs : Instr.sameNow .string (keS k) e.key = some (decide (k = a)) := by rw [h.1]; simp only [keS, Instr.sameNow, bytes_eq]
    unfold Instr.findNow idxK
    rw [hs]
    cases hd : decide (k = a) with
    | true => simp
    | false =>
      simp only [cond_false]
      rw [ih, idxK_off k r (0 + 1)]
      cases idxK k r 0 with
      | none => rfl
      | some j => simp; rw [show j + (o + 1) = j + 1 + o by omega]
theorem keyS {P : Program} {kt : TypeId} (hkt : P.underlying kt = some .string) : KeyT P kt keS :=
  ⟨fun e k w => MapKept.run_checkKey (k := keS k) hkt trivial e 9999, fun k ks es w h => by
    have := findNow_keS k ks es 0 h
    rw [MapKept.run_findKey hkt this]
    simp, fun k w => MapKept.run_keyThatStays (d := .string) (k := keS k) trivial⟩

section
variable {P : Program} {n : Nat} {s : St} {ops : Array Oper} {o : Oper} {rest : List Oper} {Q : St → Prop} {d : Nat} {t kt et : TypeId} {x y z : Operand} {κ β : Type} [DecidableEq κ] {ke : κ → Value} {vf : β → AV} {S : List (κ × β)} {kt' : TypeId}

omit [DecidableEq κ] in
theorem encG_fst : (encG ke vf S).map (·.1) = (S.map Prod.fst).map ke := by unfold encG; simp
/-- A map that was made is told of so. -/
theorem RelSt.toG {G : Gh} {a : Act} {w : World} {id : Nat} {T : List (List UInt8 × AV)} (hr : RelSt P G n s a w) (hc : s.mem id = some (mapA T)) : RelSt P G n { s with mem := setM s.mem id (mapG (T.map fun p => (keS p.1, p.2))) } a w := by
  refine ⟨hr.size, hr.defers, hr.slot, hr.loc, ⟨fun i cs hi => ?_, hr.mem.far, hr.mem.fin⟩⟩
  have hi' : setM s.mem id (mapG (T.map fun p => (keS p.1, p.2))) i = some cs := hi
  by_cases e : i = id
  · subst e
    rw [setM_get] at hi'
    cases hi'
    obtain ⟨b, hb, hX⟩ := hr.mem.obj i _ hc
    obtain ⟨es, clock, hh, ho1, ht1, ⟨he1, he2, he3⟩, he4⟩ := hX.map
    refine ⟨b, hb, .inr (.inr (.inr (.inl ⟨_, rfl, es, clock, hh, ho1, ht1, ?_, fun i k x h => ?_⟩)))⟩
    · apply List.ext_getElem?
      intro i
      rw [List.getElem?_map, List.getElem?_map, List.getElem?_map]
      cases hT : T[i]? with
      | none =>
        have : es.toList[i]? = none := by
          rw [List.getElem?_eq_none_iff] at hT ⊢
          simpa [he1] using hT
        rw [this]; rfl
      | some p =>
        obtain ⟨e, a1, a2, _⟩ := he4 i p.1 p.2 hT
        have : es.toList[i]? = some e := by simpa using a1
        rw [this]
        simp [a2, keS]
    · rw [List.getElem?_map] at h
      obtain ⟨p, h1, h2⟩ := Option.map_eq_some_iff.1 h
      cases h2
      obtain ⟨e, a1, _, a3⟩ := he4 i p.1 p.2 h1
      exact ⟨e, a1, a3⟩
  · rw [setM_ne e] at hi'
    exact hr.mem.obj i cs hi'

/-- A map is written. -/
theorem RelSt.setG {G : Gh} {a : Act} {w : World} {id b0 : Nat} {S : List (Value × AV)} {S' : List (Value × AV)} {es' : Array MapEntry} {clock' : Nat} (hr : RelSt P G n s a w) (hc : s.mem id = some (mapG S)) (hb0 : G.mb id = some b0)
    (hes : es'.toList.map (·.key) = S'.map (·.1)) (hS : ∀ (i : Nat) k x, S'[i]? = some (k, x) → ∃ e, es'[i]? = some e ∧ RelV P G w x e.val) :
    RelSt P G n { s with mem := setM s.mem id (mapG S') } a { w with heap := w.heap.setIfInBounds b0 (.map es' clock') } ∧ Keep G w G { w with heap := w.heap.setIfInBounds b0 (.map es' clock') } := by
  obtain ⟨b', hb', hX⟩ := hr.mem.obj id _ hc
  rw [hb0] at hb'
  cases hb'
  obtain ⟨es, clock, hh, ho1, ht1, _, _⟩ := hX.mapG
  obtain ⟨W', hW⟩ : ∃ W' : World, W' = { w with heap := w.heap.setIfInBounds b0 (.map es' clock') } := ⟨_, rfl⟩
  rw [← hW]
  have hset := MapKept.heap_set (o' := .map es' clock') hh
  have hnew : W'.heap[b0]? = some (.map es' clock') := by rw [hW]; exact hset.1
  have hoth : ∀ b, b ≠ b0 → W'.heap[b]? = w.heap[b]? := fun b h => by rw [hW]; exact hset.2 b h
  have st : Stab G w G W' := by
    refine ⟨fun _ => Nat.le_refl _, fun b oo hoo => ?_, fun _ _ h => h⟩
    have hne : b ≠ b0 := fun e => by rw [e, ht1] at hoo; omega
    exact World.cell?_of_block (w := w) (a := ⟨b, oo, none⟩) (hoth b hne)
  have other : ∀ q b, G.owner b = some q → q ≠ .mb id → W'.heap[b]? = w.heap[b]? := by
    intro q b h1 h2
    refine hoth b (fun e => h2 ?_)
    rw [e, ho1] at h1
    exact (Option.some.inj h1).symm
  have hzz : W'.heap.size = w.heap.size := by rw [hW]; simp
  have hz : w.heap.size ≤ W'.heap.size := by omega
  refine ⟨⟨hr.size, hr.defers, fun i => ?_, fun k1 cells1 hk1 => ?_, ⟨fun i cs hi => ?_, fun b hb => hr.mem.far b (by omega), hr.mem.fin⟩⟩, ⟨by rw [hW], by rw [hW], by rw [hW], hz, fun b hb hn => ⟨hn, ?_, rfl⟩, st⟩⟩
  · exact (hr.slot i).move st hz (fun _ _ _ => rfl) (fun c b _ h2 => ⟨h2, other _ b h2 (by intro h; cases h), rfl⟩)
  · have h0 := hr.loc k1 cells1 hk1
    exact h0.move st hz (other _ _ h0.own (by intro h; cases h)) rfl rfl (fun c b _ h2 => ⟨h2, other _ b h2 (by intro h; cases h), rfl⟩)
  · have hi' : setM s.mem id (mapG S') i = some cs := hi
    by_cases e : i = id
    · subst e
      rw [setM_get] at hi'
      cases hi'
      exact ⟨b0, hb0, .inr (.inr (.inr (.inl ⟨S', rfl, es', clock', hnew, ho1, ht1, hes, fun i k x h => by obtain ⟨e, a1, a3⟩ := hS i k x h; exact ⟨e, a1, a3.stab st⟩⟩)))⟩
    · rw [setM_ne e] at hi'
      obtain ⟨b2, hb2, hh2⟩ := hr.mem.obj i cs hi'
      exact ⟨b2, hb2, hh2.move st hz (fun _ hw => ⟨other _ _ hw (by intro h; injection h with h; exact e h), rfl, rfl⟩) (fun c b _ h2 => ⟨h2, other _ b h2 (by intro h; cases h), rfl⟩)⟩
  · exact hoth b (fun e => by rw [e, ho1] at hn; cases hn)

/-- What the machine finds at a key. -/
theorem found {G : Gh} {w : World} {es : Array MapEntry} (K : KeyT P kt ke) (k : κ) (hk : es.toList.map (·.key) = (encG ke vf S).map (·.1)) (hv : ∀ (i : Nat) q x, (encG ke vf S)[i]? = some (q, x) → ∃ e, es[i]? = some e ∧ RelV P G w x e.val) :
    (idxK k (S.map Prod.fst) 0 = none ∧ getL k S = none ∧ ∀ w, (Instr.findKey kt (ke k) es.toList).run P w = .ok none w) ∨
    ∃ j e v, idxK k (S.map Prod.fst) 0 = some j ∧ S[j]? = some (k, v) ∧ getL k S = some v ∧ es[j]? = some e ∧ e.key = ke k ∧ RelV P G w (vf v) e.val ∧ ∀ w, (Instr.findKey kt (ke k) es.toList).run P w = .ok (some (j, e.val)) w := by
  have hf := fun w => K.fnd k (S.map Prod.fst) es.toList w (by rw [hk, encG_fst])
  have hg := getL_idx k S
  cases hi : idxK k (S.map Prod.fst) 0 with
  | none =>
    rw [hi] at hg
    exact .inl ⟨rfl, hg, fun w => by rw [hf w, hi]; rfl⟩
  | some j =>
    rw [hi] at hg
    have h1 := idxK_lt hi
    rw [List.getElem?_map] at h1
    obtain ⟨p, h2, h3⟩ := Option.map_eq_some_iff.1 h1
    obtain ⟨k', v⟩ := p
    cases h3
    obtain ⟨e, a1, a2⟩ := hv j (ke k') (vf v) (by unfold encG; rw [List.getElem?_map, h2]; rfl)
    have ek : e.key = ke k' := by
      have h4 := congrArg (fun l => l[j]?) hk
      simp only [List.getElem?_map, encG, h2, Option.map_some] at h4
      have : es.toList[j]? = some e := by simpa using a1
      rw [this] at h4
      simpa using h4
    refine .inr ⟨j, e, v, rfl, h2, ?_, a1, ek, a2, fun w => ?_⟩
    · rw [hg]; simp [h2]
    · rw [hf w, hi]; simp [a1]

/-- What a map has at a key, and whether it has it. -/
theorem Reader.askG {id : Nat} {k : κ} {z1 : β} {z0 : Value} (K : KeyT P kt ke) (ht : P.underlying t = some (.map kt et)) (hz : (P.info? et).map (·.zero) = some (some z0)) (hzv : ∀ G w, RelV P G w (vf z1) z0) (hfl : ∀ v, (vf v).flat = true)
    (hc : s.mem id = some (mapO ke vf S)) (hy : ∀ (G : Gh) a w, RelSt P G n s a w → a.eval y = ke k) (ho : o.op = .lookup t x y true := by rfl) (hx : s.eval x = .gmap id := by rfl) : Reader P n s o d (.tuple [vf ((getL k S).getD z1), .lit (.bool (getL k S).isSome)]) := by
  intro G a w hr
  obtain ⟨b0, hb0, hav⟩ := hr.evM hx
  obtain ⟨b', hb', hX⟩ := hr.mem.obj id _ hc
  rw [hb0] at hb'
  cases hb'
  obtain ⟨es, clock, hh, ho1, ht1, he1, he4⟩ := hX.mapG
  have hky := hy G a w hr
  have hgo : ∀ w', Below w.heap.size w w' → w'.heap[b0]? = some (.map es clock) := fun w' hw => (hw.block b0 (Array.getElem?_eq_some_iff.1 hh).1).trans hh
  rcases found K k he1 he4 with ⟨_, e2, hf⟩ | ⟨j, e, v, _, _, e2, a1, _, a3, hf⟩
  · refine ⟨.tuple [z0, .bool false].toArray, ?_, fun w' hw => ?_⟩
    · refine ⟨[z0, .bool false], rfl, rfl, fun j c u h1 h2 => ?_⟩
      match j, h1, h2 with
      | 0, h1, h2 => cases h1; cases h2; rw [e2]; exact (hzv G w).toO (hfl _)
      | 1, h1, h2 => cases h1; cases h2; rw [e2]; exact RelV.lit _
      | _ + 2, h1, h2 => cases h1
    · have hz' : (zeroValue et).run P w' = .ok z0 w' := by
        cases hi : P.info? et with
        | none => simp [hi] at hz
        | some i => simp only [hi, Option.map_some, Option.some.injEq] at hz; simp [zeroValue, typeInfo, hi, hz]
      have h1 : (Instr.lookup t (.map (some b0)) (ke k) true).run P w' = .ok (.tuple #[z0, .bool false]) w' := by
        simp [Instr.lookup, run_underlying ht, MapKept.run_getObj_map (hgo w' hw), K.chk, hf, hz', Result.andThen]
      simp [execOp, ho, hav, hky, h1]
  · refine ⟨.tuple [e.val, .bool true].toArray, ?_, fun w' hw => ?_⟩
    · refine ⟨[e.val, .bool true], rfl, rfl, fun j c u h1 h2 => ?_⟩
      match j, h1, h2 with
      | 0, h1, h2 => cases h1; cases h2; rw [e2]; exact a3.toO (hfl _)
      | 1, h1, h2 => cases h1; cases h2; rw [e2]; exact RelV.lit _
      | _ + 2, h1, h2 => cases h1
    · have h1 : (Instr.lookup t (.map (some b0)) (ke k) true).run P w' = .ok (.tuple #[e.val, .bool true]) w' := by
        simp [Instr.lookup, run_underlying ht, MapKept.run_getObj_map (hgo w' hw), K.chk, hf, Result.andThen]
      simp [execOp, ho, hav, hky, h1]

/-- .. the value alone. -/
theorem Reader.getG {id : Nat} {k : κ} {z1 : β} {z0 : Value} (K : KeyT P kt ke) (ht : P.underlying t = some (.map kt et)) (hz : (P.info? et).map (·.zero) = some (some z0)) (hzv : ∀ G w, RelV P G w (vf z1) z0) (hfl : ∀ v, (vf v).flat = true)
    (hc : s.mem id = some (mapO ke vf S)) (hy : ∀ (G : Gh) a w, RelSt P G n s a w → a.eval y = ke k) (ho : o.op = .lookup t x y false := by rfl) (hx : s.eval x = .gmap id := by rfl) : Reader P n s o d (vf ((getL k S).getD z1)) := by
  intro G a w hr
  obtain ⟨b0, hb0, hav⟩ := hr.evM hx
  obtain ⟨b', hb', hX⟩ := hr.mem.obj id _ hc
  rw [hb0] at hb'
  cases hb'
  obtain ⟨es, clock, hh, ho1, ht1, he1, he4⟩ := hX.mapG
  have hky := hy G a w hr
  have hgo : ∀ w', Below w.heap.size w w' → w'.heap[b0]? = some (.map es clock) := fun w' hw => (hw.block b0 (Array.getElem?_eq_some_iff.1 hh).1).trans hh
  rcases found K k he1 he4 with ⟨_, e2, hf⟩ | ⟨j, e, v, _, _, e2, a1, _, a3, hf⟩
  · refine ⟨z0, by rw [e2]; exact (hzv G w).toS (hfl _), fun w' hw => ?_⟩
    have hz' : (zeroValue et).run P w' = .ok z0 w' := by
      cases hi : P.info? et with
      | none => simp [hi] at hz
      | some i => simp only [hi, Option.map_some, Option.some.injEq] at hz; simp [zeroValue, typeInfo, hi, hz]
    have h1 : (Instr.lookup t (.map (some b0)) (ke k) false).run P w' = .ok z0 w' := by
      simp [Instr.lookup, run_underlying ht, MapKept.run_getObj_map (hgo w' hw), K.chk, hf, hz', Result.andThen]
    simp [execOp, ho, hav, hky, h1]
  · refine ⟨e.val, by rw [e2]; exact a3.toS (hfl _), fun w' hw => ?_⟩
    have h1 : (Instr.lookup t (.map (some b0)) (ke k) false).run P w' = .ok e.val w' := by
      simp [Instr.lookup, run_underlying ht, MapKept.run_getObj_map (hgo w' hw), K.chk, hf, Result.andThen]
    simp [execOp, ho, hav, hky, h1]

/-- A key's value is written. -/
theorem AOps.putG {id : Nat} {k : κ} {v : β} {M' : Nat → Option (List AV)} (K : KeyT P kt ke) (hg : Wants ops s o) (hd : o.dst = none) (ho : o.op = .mapUpdate t x y z ∨ o.op = .insert t x y z) (ht : P.underlying t = some (.map kt et))
    (hx : s.eval x = .gmap id) (hc : s.mem id = some (mapO ke vf S)) (hy : ∀ (G : Gh) a w, RelSt P G n s a w → a.eval y = ke k) (hz : ArgOf s z (vf v)) (hok : Operand.ok z = true) (hM : setM s.mem id (mapO ke vf (setL k v S)) = M') (kk : AOps P n ops rest { s with mem := M' } Q) : AOps P n ops (o :: rest) s Q := by
  subst hM
  refine AOps.effect hg hd ?_ kk
  intro G a w hr
  obtain ⟨b0, hb0, hav⟩ := hr.evM hx
  obtain ⟨b', hb', hX⟩ := hr.mem.obj id _ hc
  rw [hb0] at hb'
  cases hb'
  obtain ⟨es, clock, hh, ho1, ht1, he1, he4⟩ := hX.mapG
  have hky := hy G a w hr
  have hrv := hz.rel hr (ok_const hok)
  rcases found K k he1 he4 with ⟨hi, _, hf⟩ | ⟨j, e, v', hi, hS, _, a1, ek, _, hf⟩
  · have hrun : (execOp a.eval o).run P w = .ok .skip { w with heap := w.heap.setIfInBounds b0 (.map (es.push { key := ke k, val := a.eval z, born := clock }) (clock + 1)) } := by
      have h1 : (Instr.mapUpdate t (.map (some b0)) (ke k) (a.eval z)).run P w = .ok () { w with heap := w.heap.setIfInBounds b0 (.map (es.push { key := ke k, val := a.eval z, born := clock }) (clock + 1)) } := by
        simp [Instr.mapUpdate, run_underlying ht, MapKept.run_getObj_map hh, K.chk, hf, MapKept.run_setObj_map _ hh, Result.andThen]
      rcases ho with ho | ho <;> simp [execOp, ho, hav, hky, h1]
    rw [setL_none hi]
    have hl : es.size = S.length := by have := congrArg List.length he1; simpa [encG] using this
    obtain ⟨r1, r2⟩ := hr.setG (S' := encG ke vf (S ++ [(k, v)])) (es' := es.push { key := ke k, val := a.eval z, born := clock }) (clock' := clock + 1) hc hb0
      (by
        have h2 := he1
        unfold encG at h2 ⊢
        simp only [Array.toList_push, List.map_append, h2, List.map_cons, List.map_nil])
      (fun i q x h => by
        unfold encG at h
        rw [List.map_append] at h
        by_cases hlt : i < S.length
        · rw [List.getElem?_append_left (by simpa using hlt)] at h
          obtain ⟨e, b1, b2⟩ := he4 i q x h
          have := (Array.getElem?_eq_some_iff.1 b1).1
          exact ⟨e, by rw [Array.getElem?_push, if_neg (by omega)]; exact b1, b2⟩
        · rw [List.getElem?_append_right (by simpa using hlt)] at h
          have h0 : i - (S.map fun p => (ke p.1, vf p.2)).length = 0 := by
            have := (List.getElem?_eq_some_iff.1 h).1
            simp at this ⊢; omega
          rw [h0] at h
          simp only [List.map_cons, List.map_nil, List.getElem?_cons_zero, Option.some.injEq] at h
          cases h
          refine ⟨{ key := ke k, val := a.eval z, born := clock }, ?_, hrv⟩
          simp at h0
          have : i = es.size := by omega
          rw [this]; simp)
    exact ⟨_, G, hrun, r1, r2⟩
  · have hrun : (execOp a.eval o).run P w = .ok .skip { w with heap := w.heap.setIfInBounds b0 (.map (es.modify j fun e => { e with key := ke k, val := a.eval z }) clock) } := by
      have h1 : (Instr.mapUpdate t (.map (some b0)) (ke k) (a.eval z)).run P w = .ok () { w with heap := w.heap.setIfInBounds b0 (.map (es.modify j fun e => { e with key := ke k, val := a.eval z }) clock) } := by
        simp [Instr.mapUpdate, run_underlying ht, MapKept.run_getObj_map hh, K.chk, hf, a1, ek, K.stays, MapKept.run_setObj_map _ hh, Result.andThen]
      rcases ho with ho | ho <;> simp [execOp, ho, hav, hky, h1]
    rw [setL_some hi]
    obtain ⟨r1, r2⟩ := hr.setG (S' := encG ke vf (S.set j (k, v))) (es' := es.modify j fun e => { e with key := ke k, val := a.eval z }) (clock' := clock) hc hb0
      (by
        apply List.ext_getElem?
        intro i
        have h2 := congrArg (fun l => l[i]?) he1
        simp only [List.getElem?_map] at h2 ⊢
        have e3 : (es.modify j fun e => { e with key := ke k, val := a.eval z }).toList[i]? = (es.modify j fun e => { e with key := ke k, val := a.eval z })[i]? := Array.getElem?_toList
        rw [e3, Array.getElem?_modify]
        unfold encG
        rw [List.getElem?_map, List.getElem?_set]
        by_cases hij : j = i
        · subst hij
          have := (List.getElem?_eq_some_iff.1 hS).1
          rw [if_pos rfl, if_pos rfl, a1, if_pos this]
          rfl
        · rw [if_neg hij, if_neg hij]
          have e4 : es.toList[i]? = es[i]? := by simp
          rw [e4] at h2
          rw [h2]
          unfold encG
          rw [List.getElem?_map])
      (fun i q x h => by
        unfold encG at h
        rw [List.getElem?_map, List.getElem?_set] at h
        by_cases hij : j = i
        · subst hij
          have := (List.getElem?_eq_some_iff.1 hS).1
          rw [if_pos rfl, if_pos this] at h
          cases h
          exact ⟨_, by rw [Array.getElem?_modify, if_pos rfl, a1]; rfl, hrv⟩
        · rw [if_neg hij] at h
          obtain ⟨e, b1, b2⟩ := he4 i q x (by unfold encG; rw [List.getElem?_map]; exact h)
          exact ⟨e, by rw [Array.getElem?_modify, if_neg hij]; exact b1, b2⟩)
    exact ⟨_, G, hrun, r1, r2⟩

end
end
section
open Go.RowKit
section
variable {κ β : Type} [DecidableEq κ] {ke : κ → Value} {vf : β → AV} {P : Program} {n : Nat} {s0 : St} {ops : Array Oper} {QE : Exit → St → Prop}
theorem AOps.toG0 {s : St} {Q : St → Prop} {id : Nat} {T : List (List UInt8 × AV)} {l : List Oper} (hc : s.mem id = some (mapA T)) (h : AOps P n ops l { s with mem := setM s.mem id (mapG (T.map fun p => (keS p.1, p.2))) } Q) : AOps P n ops l s Q :=
  fun G a w K hr hfx hK => h G a w K (hr.toG hc) hfx hK
theorem idxK_none {k : κ} : ∀ {S : List (κ × β)} {o : Nat}, (∀ p ∈ S, k ≠ p.1) → idxK k (S.map Prod.fst) o = none
  | [], _, _ => rfl
  | p :: r, o, h => by
    rw [List.map_cons]
    unfold idxK
    rw [decide_eq_false (h p (List.mem_cons_self ..))]
    exact idxK_none fun q hq => h q (List.mem_cons_of_mem _ hq)
/-- What is asked of a map hangs not on its order. -/
theorem getL_mem {k : κ} {v : β} : ∀ {S : List (κ × β)}, getL k S = some v → (k, v) ∈ S
  | p :: r, h => by
    unfold getL at h
    by_cases e : k = p.1
    · rw [decide_eq_true e] at h
      have h2 : p.2 = v := Option.some.inj h
      rw [← h2, e]
      exact List.mem_cons_self ..
    · rw [decide_eq_false e] at h
      exact List.mem_cons_of_mem _ (getL_mem h)
theorem getL_of {k : κ} {v : β} : ∀ {S : List (κ × β)}, (S.map Prod.fst).Nodup → (k, v) ∈ S → getL k S = some v
  | p :: r, hn, h => by
    unfold getL
    rw [List.map_cons, List.nodup_cons] at hn
    rcases List.mem_cons.1 h with e | h
    · subst e; rw [decide_eq_true rfl]; rfl
    · by_cases e : k = p.1
      · exact absurd (List.mem_map.2 ⟨_, h, e⟩) hn.1
      · rw [decide_eq_false e]; exact getL_of hn.2 h
theorem getL_perm {S T : List (κ × β)} (h : T.Perm S) (hn : (S.map Prod.fst).Nodup) (k : κ) : getL k T = getL k S := by
  have hn2 : (T.map Prod.fst).Nodup := (h.map Prod.fst).nodup_iff.2 hn
  cases e : getL k S with
  | some v => exact getL_of hn2 (h.mem_iff.2 (getL_mem e))
  | none =>
    cases e2 : getL k T with
    | none => rfl
    | some v => rw [getL_of hn (h.mem_iff.1 (getL_mem e2))] at e; cases e
def entG (ins : List (Nat × κ × β)) (listed : Array Bool) : List (κ × β) := (ins.filter fun p => listed.getD p.1 false).map (·.2)
omit [DecidableEq κ] in
theorem entG_set {_ins : List (Nat × κ × β)} {listed : Array Bool} {i : Nat} (hi : i < listed.size) (hf : listed.getD i false = false) : ∀ {ins : List (Nat × κ × β)}, (ins.map Prod.fst).Nodup → ∀ {e : κ × β}, (i, e) ∈ ins → (entG ins (listed.setIfInBounds i true)).Perm (entG ins listed ++ [e])
  | [], _, e, h => by cases h
  | p :: r, hn, e, h => by
    rw [List.map_cons, List.nodup_cons] at hn
    rcases List.mem_cons.1 h with rfl | h
    · have hr : entG r (listed.setIfInBounds i true) = entG r listed := by
        unfold entG
        congr 1
        refine List.filter_congr fun q hq => ?_
        rw [getD_set_ne false (fun e' => hn.1 (List.mem_map.2 ⟨q, hq, e'.symm⟩))]
      have e1 : entG ((i, e) :: r) (listed.setIfInBounds i true) = e :: entG r listed := by
        rw [← hr]; unfold entG; rw [List.filter_cons]; simp [hi]
      have e2 : entG ((i, e) :: r) listed = entG r listed := by
        unfold entG; rw [List.filter_cons]; simp only [hf]; rfl
      rw [e1, e2]
      exact (List.perm_append_singleton e _).symm
    · have ih := entG_set (_ins := r) hi hf hn.2 h
      have hne : i ≠ p.1 := fun e => hn.1 (by rw [← e]; exact List.mem_map_of_mem (f := Prod.fst) h)
      have e1 : ∀ l : Array Bool, entG (p :: r) l = (if l.getD p.1 false then [p.2] else []) ++ entG r l := fun l => by
        unfold entG; rw [List.filter_cons]; split <;> rfl
      rw [e1, e1, getD_set_ne false hne, List.append_assoc]
      exact List.Perm.append_left _ ih
/-- Each operation of such a region: the map is made (at its place), an entry is laid in, or a slot gets its value. -/
def HopG (ke : κ → Value) (vf : β → AV) (P : Program) (n : Nat) (ops : Array Oper) (s0 : St) (m0 : Nat) (ws : Nat → List (List (Nat × AV))) (rs : Nat → List (List (Nat × Option Nat × AV))) (ins : List (Nat × κ × β)) (i : Nat) (o : Oper) : Prop :=
  (i = m0 ∧ ∀ fr, AOps P n ops [o] ⟨fr, s0.loc, s0.mem⟩ fun s' => ∃ id, s0.mem id = none ∧ s' = ⟨(ws id).getD i [] ++ fr, s0.loc, setM s0.mem id (mapO ke vf [])⟩) ∨
  (∃ e, (i, e) ∈ ins ∧ depB ops i m0 = true ∧ ∀ id S fr, s0.mem id = none → idxK e.1 (S.map Prod.fst) 0 = none → RdR fr ((rs id).getD i []) → AOps P n ops [o] ⟨fr, s0.loc, setM s0.mem id (mapO ke vf S)⟩ fun s' => s' = ⟨(ws id).getD i [] ++ fr, s0.loc, setM s0.mem id (mapO ke vf (S ++ [e]))⟩) ∨
  (i ≠ m0 ∧ (∀ p ∈ ins, p.1 ≠ i) ∧ ∀ id fr mem, RdR fr ((rs id).getD i []) → AOps P n ops [o] ⟨fr, s0.loc, mem⟩ fun s' => s' = ⟨(ws id).getD i [] ++ fr, s0.loc, mem⟩)
theorem AWp.anyG {id0 : Nat} (ls ks : List Nat) (_S : Nat → St) (m0 : Nat) (ws : Nat → List (List (Nat × AV))) (rs : Nat → List (List (Nat × Option Nat × AV))) (ins : List (Nat × κ × β)) (kk : List (List Nat)) (rk : List (List (Nat × Option Nat)))
    (hm : P.follows .mixedOrders = true) (hlen : ∀ x, (ws x).length = ops.size) (hks : ∀ x, (ws x).map (fun w => w.map Prod.fst) = kk) (hrk : ∀ x, (rs x).map (fun r => r.map fun p => (p.1, p.2.1)) = rk) (hchk : svB ops kk rk = true)
    (hval : ∀ x, ValL s0.fr (ws x) (rs x)) (hn : (ins.map Prod.fst).Nodup) (hn2 : (ins.map fun p => p.2.1).Nodup) (hins : ∀ p ∈ ins, p.1 < ops.size) (hg0 : m0 < ops.size) (hind : ∀ x y i, i ≠ m0 → depB ops i m0 = false → (ws x).getD i [] = (ws y).getD i []) (hinm : ∀ p ∈ ins, p.1 ≠ m0)
    (hop : ∀ i o, ops[i]? = some o → HopG ke vf P n ops s0 m0 ws rs ins i o)
    (k : ∀ id T, s0.mem id = none → T.Perm (ins.map (·.2)) → (∃ s', s' = (⟨frA (ws id) s0.fr, s0.loc, setM s0.mem id (mapO ke vf T)⟩ : St).keep ls ks ∧ QE .normal s')) : AWp P n (.region id0 ops true) s0 QE := by
  intro G a w K hr hfx hK
  refine wp_region_any hm ?_
  obtain ⟨hr1, hk1⟩ := hr.later (w' := { w with drawn := w.drawn + 1 }) ⟨rfl, rfl, rfl, Nat.le_refl _, fun _ _ => rfl⟩
  have hA : AAny P n ops (fun s' => ∃ id T, s0.mem id = none ∧ T.Perm (ins.map (·.2)) ∧ s'.keep ls ks = (⟨frA (ws id) s0.fr, s0.loc, setM s0.mem id (mapO ke vf T)⟩ : St).keep ls ks) ops.size (Array.replicate ops.size false) s0 := by
    refine AAny.vals (ι := Nat) ws rs (fun id listed m => listed.size = ops.size ∧ if listed.getD m0 false = true then s0.mem id = none ∧ ∃ T, T.Perm (entG ins listed) ∧ m = setM s0.mem id (mapO ke vf T) else m = s0.mem ∧ ∀ p ∈ ins, listed.getD p.1 false = false) kk rk hlen (fun x i t => ?_) (fun x i p hp => ?_) hchk (fun x i p hp => ((hval x).at i).of p hp) ?_ 0 ⟨by simp, by
      have e0 : ∀ j, (Array.replicate ops.size false).getD j false = false := fun j => by
        rw [Array.getD_eq_getD_getElem?, Array.getElem?_replicate]; split <;> rfl
      rw [if_neg (by rw [e0]; decide)]
      exact ⟨rfl, fun p _ => e0 _⟩⟩ ?_
    · rw [keys_has, ← hks x]
      exact congrArg (fun l : List Nat => l.contains t) (getD_map' (fun w : List (Nat × AV) => w.map Prod.fst) (ws x) i []).symm
    · have e := getD_map' (fun r : List (Nat × Option Nat × AV) => r.map fun p => (p.1, p.2.1)) (rs x) i []
      rw [hrk x] at e
      rw [show rk.getD i [] = ((rs x).getD i []).map fun p => (p.1, p.2.1) from e]; exact List.mem_map.2 ⟨p, hp, rfl⟩
    · rintro x listed i o fr mem ho hfi hdep hcl ⟨hsz, hJ⟩ hrd
      have hin := (Array.getElem?_eq_some_iff.1 ho).1
      have hff : listed.getD i false = false := by have h2 := hfi; simp [hsz, hin] at h2 ⊢; exact h2
      rcases hop i o ho with ⟨rfl, h⟩ | ⟨e, he, hd, h⟩ | ⟨hne, hni, h⟩
      · rw [if_neg (by rw [hff]; decide)] at hJ
        obtain ⟨rfl, hno⟩ := hJ
        refine AOps.mono (h fr) ?_
        rintro s' ⟨id, hid, rfl⟩
        refine ⟨id, _, rfl, ⟨by simpa using hsz, ?_⟩, fun j hj => hind id x j (fun e => by rw [e, hff] at hj; cases hj) ?_⟩
        · rw [if_pos (by simp [hsz, hin])]
          refine ⟨hid, [], ?_, rfl⟩
          have : entG ins (listed.setIfInBounds i true) = [] := by
            unfold entG
            rw [List.filter_eq_nil_iff.2 fun p hp => by rw [getD_set_ne false (Ne.symm (hinm p hp)), hno p hp]; decide]
            rfl
          rw [this]
        · cases hv : depB ops j i with
          | false => rfl
          | true => rw [hcl j hj i hv] at hff; cases hff
      · have hl0 := hdep m0 hd
        rw [if_pos hl0] at hJ
        obtain ⟨hid, T, hT, rfl⟩ := hJ
        have hkey : idxK e.1 (T.map Prod.fst) 0 = none := idxK_none fun p hp hk => by
          have hp2 := hT.mem_iff.1 hp
          obtain ⟨q, hq, rfl⟩ := List.mem_map.1 hp2
          obtain ⟨hq1, hq2⟩ := List.mem_filter.1 hq
          have : q = (i, e) := by
            have hinj : ∀ (l : List (Nat × κ × β)), (l.map fun p => p.2.1).Nodup → ∀ a ∈ l, ∀ b ∈ l, a.2.1 = b.2.1 → a = b := by
              intro l
              induction l with
              | nil => intro _ a ha; cases ha
              | cons c r ih =>
                intro hn a ha b hb e
                rw [List.map_cons, List.nodup_cons] at hn
                rcases List.mem_cons.1 ha with ea | ha <;> rcases List.mem_cons.1 hb with eb | hb
                · rw [ea, eb]
                · exact absurd (List.mem_map.2 ⟨b, hb, by rw [← e, ea]⟩) hn.1
                · exact absurd (List.mem_map.2 ⟨a, ha, by rw [e, eb]⟩) hn.1
                · exact ih hn.2 a ha b hb e
            exact hinj ins hn2 q hq1 _ he hk.symm
          rw [this] at hq2
          rw [hff] at hq2; cases hq2
        refine AOps.mono (h x T fr hid hkey (RdR.of hrd)) ?_
        rintro s' rfl
        refine ⟨x, _, rfl, ⟨by simpa using hsz, ?_⟩, fun _ _ => rfl⟩
        rw [if_pos (getD_set_true hl0)]
        exact ⟨hid, _, (hT.append_right [e]).trans (entG_set (_ins := ins) (by omega) hff hn he).symm, rfl⟩
      · refine AOps.mono (h x fr mem (RdR.of hrd)) ?_
        rintro s' rfl
        refine ⟨x, mem, rfl, ⟨by simpa using hsz, ?_⟩, fun _ _ => rfl⟩
        rw [getD_set_ne false hne]
        have e1 : entG ins (listed.setIfInBounds i true) = entG ins listed := by
          unfold entG; congr 1
          exact List.filter_congr fun q hq => by rw [getD_set_ne false (Ne.symm (hni q hq))]
        split
        · rename_i hl; rw [if_pos hl] at hJ; rw [e1]; exact hJ
        · rename_i hl; rw [if_neg hl] at hJ; exact ⟨hJ.1, fun p hp => by rw [getD_set_ne false (Ne.symm (hni p hp))]; exact hJ.2 p hp⟩
    · rintro x s listed hl hall ⟨_, hJ⟩ hg
      rw [if_pos (hall m0 hg0)] at hJ
      obtain ⟨hid, T, hT, hmem⟩ := hJ
      refine ⟨x, T, hid, ?_, St.keep_eq ls ks hl hmem hg⟩
      have : entG ins listed = ins.map (·.2) := by
        unfold entG
        rw [List.filter_eq_self.2 fun p hp => hall p.1 (hins p hp)]
      rw [← this]; exact hT
  refine AAny.sound _ _ _ hA G a _ K hr1 (hfx.keep hk1) fun s' G' a' w' hq hr' hk' => ?_
  obtain ⟨id, T, hid, hT, he⟩ := hq
  obtain ⟨s2, rfl, h2⟩ := k id T hid hT
  refine hK .normal _ G' a' w' h2 ?_ (hk1.trans hk')
  have := hr'.keep ls ks
  rw [he] at this
  exact this
end
section
variable {κ β : Type} [DecidableEq κ] {ke : κ → Value} {vf : β → AV} {P : Program} {n : Nat} {s0 : St} {ops : Array Oper} {m0 : Nat} {ws : Nat → List (List (Nat × AV))} {rs : Nat → List (List (Nat × Option Nat × AV))} {ins : List (Nat × κ × β)}
def HopGs (ke : κ → Value) (vf : β → AV) (P : Program) (n : Nat) (ops : Array Oper) (s0 : St) (m0 : Nat) (ws : Nat → List (List (Nat × AV))) (rs : Nat → List (List (Nat × Option Nat × AV))) (ins : List (Nat × κ × β)) : Nat → List Oper → Prop
  | _, [] => True
  | i, o :: os => HopG ke vf P n ops s0 m0 ws rs ins i o ∧ HopGs ke vf P n ops s0 m0 ws rs ins (i + 1) os
theorem hg0 {i : Nat} : HopGs ke vf P n ops s0 m0 ws rs ins i [] := trivial
theorem HopGs.at : ∀ (os : List Oper) (i j m : Nat) (o : Oper), HopGs ke vf P n ops s0 m0 ws rs ins i os → os[j]? = some o → m = i + j → HopG ke vf P n ops s0 m0 ws rs ins m o
  | [], _, j, _, o, _, ho, _ => by simp at ho
  | a :: os, i, 0, m, o, h, ho, hm => by
    have e : a = o := by simpa using ho
    subst e; subst hm
    exact h.1
  | a :: os, i, j + 1, m, o, h, ho, hm => HopGs.at os (i + 1) j m o h.2 (by simpa using ho) (by omega)
theorem hgV {i : Nat} {o : Oper} {os : List Oper} (h : ∀ id fr mem, RdR fr ((rs id).getD i []) → AOps P n ops [o] ⟨fr, s0.loc, mem⟩ fun s' => s' = ⟨(ws id).getD i [] ++ fr, s0.loc, mem⟩) (k : HopGs ke vf P n ops s0 m0 ws rs ins (i + 1) os) (hi : Nat.beq i m0 = false := by rfl) (hc : (ins.map Prod.fst).contains i = false := by rfl) : HopGs ke vf P n ops s0 m0 ws rs ins i (o :: os) :=
  ⟨.inr (.inr ⟨fun e => by subst e; simp at hi, fun p hp e => by
    exact absurd (List.contains_iff_mem.2 (List.mem_map.2 ⟨p, hp, e⟩)) (by rw [hc]; decide), h⟩), k⟩
theorem hgN {i d : Nat} {t : TypeId} {o : Oper} {os : List Oper} (k : HopGs ke vf P n ops s0 m0 ws rs ins (i + 1) os) (hi : i = m0 := by rfl) (ho : o.op = .makeMap t none := by rfl) (hg : o.guard = none := by rfl) (hd : o.dst = some d := by rfl) (hn : d < n := by decide) (hw : ∀ id, (ws id).getD i [] = [(d, .gmap id)] := by exact fun _ => rfl) : HopGs ke vf P n ops s0 m0 ws rs ins i (o :: os) :=
  ⟨.inl ⟨hi, fun fr => AOps.newMap (by unfold Wants; rw [hg]; trivial) hd hn ho fun id hid => AOps.toG0 (T := []) setM_get (AOps.nil ⟨id, hid, by rw [hw, setM_setM]; rfl⟩)⟩, k⟩
theorem hgI {i d : Nat} {t kt et : TypeId} {ky vz : Operand} {e : κ × β} {o : Oper} {os : List Oper} (R : Nat → List (Nat × Option Nat × AV)) (j : Nat) (K : KeyT P kt ke) (hu : P.underlying t = some (.map kt et)) (hkey : ∀ id fr mem, RdR fr (R id) → ∀ (G : Gh) (a : Act) (w : World), RelSt P G n ⟨fr, s0.loc, mem⟩ a w → a.eval ky = ke e.1) (hval : ∀ id fr mem, RdR fr (R id) → ArgOf ⟨fr, s0.loc, mem⟩ vz (vf e.2)) (k : HopGs ke vf P n ops s0 m0 ws rs ins (i + 1) os)
    (hj : ins[j]? = some (i, e) := by rfl) (ho : o.op = .insert t (.tmp d) ky vz := by rfl) (hg : o.guard = none := by rfl) (hd : o.dst = none := by rfl) (hok : Operand.ok vz = true := by rfl) (hw : ∀ id, (ws id).getD i [] = [] := by exact fun _ => rfl) (hr : ∀ id, (rs id).getD i [] = (d, some m0, .gmap id) :: R id := by exact fun _ => rfl)
    (hdep : depB ops i m0 = true := by kernel_rfl) : HopGs ke vf P n ops s0 m0 ws rs ins i (o :: os) :=
  ⟨.inr (.inl ⟨e, List.mem_of_getElem? hj, hdep, fun id S fr _ hf h => by
    rw [hr] at h
    obtain ⟨h1, h2⟩ := h
    refine AOps.putG (k := e.1) (v := e.2) (S := S) K (by unfold Wants; rw [hg]; trivial) hd (.inr ho) hu h1 setM_get (hkey id fr _ h2) (hval id fr _ h2) hok setM_setM (AOps.nil ?_)
    rw [hw, setL_none hf]; rfl⟩), k⟩
def maskG (ops : Array Oper) (m0 : Nat) : Nat → List (List (Nat × AV)) → List (List (Nat × AV))
  | _, [] => []
  | i, w :: r => (if (Nat.beq i m0 || depB ops i m0) = true then [] else w) :: maskG ops m0 (i + 1) r
theorem maskG_get : ∀ (l : List (List (Nat × AV))) (k j : Nat), Nat.beq (k + j) m0 = false → depB ops (k + j) m0 = false → (maskG ops m0 k l).getD j [] = l.getD j []
  | [], k, j, _, _ => rfl
  | w :: r, k, 0, h1, h2 => by
    rw [Nat.add_zero] at h1 h2
    show (if (Nat.beq k m0 || depB ops k m0) = true then [] else w) = w
    rw [h1, h2]; rfl
  | w :: r, k, j + 1, h1, h2 => by
    have := maskG_get r (k + 1) j (by rwa [show k + 1 + j = k + (j + 1) by omega]) (by rwa [show k + 1 + j = k + (j + 1) by omega])
    simpa [maskG] using this
theorem AWp.anyGs {id0 : Nat} {QE : Exit → St → Prop} (ls ks : List Nat) (m0 : Nat) (ws : Nat → List (List (Nat × AV))) (rs : Nat → List (List (Nat × Option Nat × AV))) (ins : List (Nat × κ × β)) (hop : HopGs ke vf P n ops s0 m0 ws rs ins 0 ops.toList)
    (k : ∀ id T, s0.mem id = none → T.Perm (ins.map (·.2)) → (∃ s', s' = (⟨frA (ws id) s0.fr, s0.loc, setM s0.mem id (mapO ke vf T)⟩ : St).keep ls ks ∧ QE .normal s')) (hlen : ∀ x, (ws x).length = ops.size := by exact fun _ => rfl) (hval : ∀ x, ValL s0.fr (ws x) (rs x) := by intro x; repeat' first | exact vl0 | exact vr0 | refine vl1 ?_ ?_ | refine vrN rfl ?_ | refine vrS rfl ?_) (hag : ∀ x y, maskG ops m0 0 (ws x) = maskG ops m0 0 (ws y) := by intro x y; kernel_rfl)
    (hm : P.follows .mixedOrders = true := by kernel_rfl) (hks : ∀ x, (ws x).map (fun w => w.map Prod.fst) = (ws 0).map (fun w => w.map Prod.fst) := by exact fun _ => rfl) (hrk : ∀ x, (rs x).map (fun r => r.map fun p => (p.1, p.2.1)) = (rs 0).map (fun r => r.map fun p => (p.1, p.2.1)) := by exact fun _ => rfl)
    (hchk : svB ops ((ws 0).map (fun w => w.map Prod.fst)) ((rs 0).map (fun r => r.map fun p => (p.1, p.2.1))) = true := by kernel_rfl) (hn : decide (ins.map Prod.fst).Nodup = true := by kernel_rfl) (hn2 : decide (ins.map fun p => p.2.1).Nodup = true := by kernel_rfl) (hins : (ins.all fun p => Nat.blt p.1 ops.size) = true := by kernel_rfl) (hg0 : Nat.blt m0 ops.size = true := by kernel_rfl)
    (hinm : (ins.all fun p => !(Nat.beq p.1 m0)) = true := by kernel_rfl) : AWp P n (.region id0 ops true) s0 QE :=
  AWp.anyG ls ks (fun _ => s0) m0 ws rs ins _ _ hm hlen hks hrk hchk hval (of_decide_eq_true hn) (of_decide_eq_true hn2) (fun p hp => by have := List.all_eq_true.1 hins p hp; simpa using this) (by simpa using hg0) (fun x y i h1 h2 => by
    have hb : Nat.beq (0 + i) m0 = false := by rw [Nat.zero_add]; cases hb : Nat.beq i m0 with
      | false => rfl
      | true => exact absurd (Nat.eq_of_beq_eq_true hb) h1
    have hd : depB ops (0 + i) m0 = false := by rw [Nat.zero_add]; exact h2
    rw [← maskG_get (ws x) 0 i hb hd, hag x y, maskG_get (ws y) 0 i hb hd]) (fun p hp e => by
    have := List.all_eq_true.1 hinm p hp
    rw [e, Nat.beq_refl] at this; cases this) (fun i o ho => HopGs.at _ 0 i i o hop (by simpa using ho) (Nat.zero_add i).symm) k
end
end
section
open Go.RowKit

theorem sizeOf_5 : SizeOf Tryz.prog 5 1 := by unfold SizeOf; kernel_rfl
theorem Tryz.i5 : Tryz.prog.info? 5 = some Tryz.t5 := by kernel_rfl
theorem sizeOf_28 : SizeOf Tryz.prog 28 1 := by unfold SizeOf; kernel_rfl
theorem sizeOf_75 : SizeOf Tryz.prog 75 1 := by unfold SizeOf; kernel_rfl
theorem sizeOf_77 : SizeOf Tryz.prog 77 2 := by unfold SizeOf; kernel_rfl
end
end Go.Proofs.YtdjojfibjbjpdaaGreatDoor
