/- EvD, EvL, EvFl, Bld, BldW, BldS, EvB, EvO. -/
import Derived.Test.YtgphopeclplahaaGreatDoorM5
import Derived.Test.YtgphopeclplahaaGreatDoorM3
import Derived.MapKept
import Derived.Test.YtgphopeclplahaaGreatDoorM2
import Derived.Test.YtgphopeclplahaaGreatDoorPShelf
import Derived.Lib.SmallJoins
import Derived.Lib.AtoiAll
import Derived.Lib.AtoiAllCases
import Derived.Shelf.Vars
import Derived.Shelf.Strings.SlTrimAscii
import Derived.Lib.AppendIntMem
import Derived.Test.YtgphopeclplahaaGreatDoorM4
import Derived.Test.YtgphopeclplahaaGreatDoorProg
import Derived.Shelf.RegionOpenPlain
import Derived.Lib.UnsafeStr
import Derived.Lib.Builder
import Derived.Lib.Walk
import Derived.WalkKit
import Derived.Deep.MidRow
namespace Go.Proofs.YtgphopeclplahaaGreatDoor
section
open Go.RowKit

def COpsE (P : Program) (n : Nat) (ops : Array Oper) (l : List Oper) (e : Es) (Q : Es → Prop) : Prop :=
  ∀ (G : Gh) (a : Act) (W : World) (K : Act → Prop), RelE P G n e a W → Fix G W → (∀ e' a', Q e' → RelE P G n e' a' W → K a') → wpE P ops W K l a

/-- An operation that yields, now and later. -/
def Yields (P : Program) (n : Nat) (ops : Array Oper) (e : Es) (o : Oper) (e' : Es) : Prop :=
  ∃ C d v, cndOf ops e.fr o = some C ∧ o.dst = some d ∧ d < n ∧ memN d (gsOf C e.gs) = false ∧ e' = e.put d C v ∧
    ∀ (G : Gh) (a : Act) (W : World), RelE P G n e a W → condOK C a → ∃ u, RelS P G W (.slot d) v u ∧ ∀ w' : World, Below W.heap.size W w' → (execOp a.eval o).run P w' = .ok (.value u) w'

section
variable {P : Program} {n : Nat} {e e' : Es} {ops : Array Oper} {l rest : List Oper} {o : Oper} {Q : Es → Prop} {QE : Exit → Es → Prop} {d : Nat} {T : Tab} {Z : Zt} {v : AV} {C : Cnd} {t t' E : Nat} {x y : Operand} {H H' : List Nat} {q : List (Nat × Nat)}

theorem COpsE.nil (h : Q e) : COpsE P n ops [] e Q := fun _G a _W _K hr _ hK => hK e a h hr
theorem COpsE.of (h : e.nd → Yields P n ops e o e') (k : COpsE P n ops rest e' Q) : COpsE P n ops (o :: rest) e Q := by
  intro G a W K hr hfx hK
  obtain ⟨C, d, v, hC, hd, hn, hg, rfl, hy⟩ := h hr.nd
  have hw := wanted_iff hr hC
  unfold wpE
  cases hx : Region.wanted o (yielded ops a.tmps) with
  | true =>
    rw [if_pos rfl]
    obtain ⟨u, hu, hrun⟩ := hy G a W hr (hw.1 hx)
    refine ⟨u, fun x => ?_, ?_⟩
    · rw [hrun x.val x.below]; exact ⟨rfl, rfl⟩
    · rw [hd]
      exact k G _ W K (hr.put hC hn (mem_of_not hg) (fun _ => hu) (fun hc => absurd (hw.1 hx) hc)) hfx hK
  | false =>
    rw [if_neg (by simp), hd]
    refine k G _ W K (hr.put hC hn (mem_of_not hg) (fun hc => ?_) (fun _ => rfl)) hfx hK
    obtain ⟨t, want, r, rfl, hne⟩ := hw.2 hx
    exact absurd (hc _ (List.mem_cons_self ..)) hne

theorem yields_read (hC : cndOf ops e.fr o = some C) (hd : o.dst = some d) (hn : d < n) (hg : memN d (gsOf C e.gs) = false) (h : truthsP e.fr C C → Reader P n (e.st C) o d v) : Yields P n ops e o (e.put d C v) := by
  refine ⟨C, d, v, hC, hd, hn, hg, rfl, fun G a W hr hc => ?_⟩
  obtain ⟨u, hu, hrun⟩ := h (truthsP_of (hr.st hc) hc) G a W (hr.st hc)
  exact ⟨u, hu, hrun⟩
theorem Reader.nilL {s : St} (hx : o.op = .assign (.const (.slice none 0 0))) : Reader P n s o d (.list true E []) := by
  intro G a w hr
  refine ⟨.slice none 0 0, (Or.inr ⟨rfl, Or.inl rfl⟩ : RelO P G w (.slot d 0) (.list true E []) (.slice none 0 0)), fun w' _ => ?_⟩
  simp [execOp, hx, Act.eval]
theorem yields_pick {c x y : Operand} (ho : o.op = .pick c x y) (hv : vPick e.fr C c x y = some v) (hC : cndOf ops e.fr o = some C) (hd : o.dst = some d) (hn : d < n) (hg : memN d (gsOf C e.gs) = false) : Yields P n ops e o (e.put d C v) := by
  refine ⟨C, d, v, hC, hd, hn, hg, rfl, fun G a w hr hc => ?_⟩
  unfold vPick at hv
  split at hv
  · rename_i t
    split at hv
    · rename_i b hb
      have hs := (hr.st hc).slot t
      rw [st_get, hb] at hs
      have htb := RelS.lit hs
      split at hv
      · rename_i p hp
        split at hv
        · rename_i q hq
          have hval : (if b then a.eval x else a.eval y) = .bool (bif b then p else q) := by
            cases b with
            | true =>
              rw [evE_eq] at hp
              exact (hr.st (condOK_cons hc htb)).evLit hp
            | false =>
              rw [evE_eq] at hq
              exact (hr.st (condOK_cons hc htb)).evLit hq
          have hlit : v = .lit (.bool (bif b then p else q)) := by
            cases h1 : isC x with
            | true =>
              rw [h1] at hv
              simp only [cond_true] at hv
              cases p <;> cases hv <;> cases b <;> rfl
            | false =>
              rw [h1] at hv
              simp only [cond_false] at hv
              cases h2 : isC y with
              | true =>
                rw [h2] at hv
                simp only [cond_true] at hv
                cases q <;> cases hv <;> cases b <;> simp
              | false =>
                rw [h2] at hv
                simp only [cond_false] at hv
                cases hv; rfl
          refine ⟨.bool (bif b then p else q), by rw [hlit]; exact lit_toS _, fun w' _ => ?_⟩
          rw [← hval]
          have : a.eval (.tmp t) = .bool b := htb
          simp [execOp, ho, this, asBool]
        · cases hv
      · cases hv
    · cases hv
  · cases hv

def stepP (T : Tab) (Z : Zt) (n : Nat) (ops : Array Oper) (H : List Nat) (e : Es) (o : Oper) : Out :=
  match cndOf ops e.fr o with
  | none => none
  | some C => forceC C fun C => match o.dst with
    | some d => match o.op with
      | .assign x => bif isNil x then ok0 (putE n e d C (match elemOf T o.type with | some E => some (.list true E []) | none => none)) H else ok0 (putE n e d C (stepV T (evE e.fr C) e.loc (.assign x))) H
      | .pick c x y => ok0 (putE n e d C (vPick e.fr C c x y)) H
      | .build t ps => ok0 (putE n e d C (vBuild T Z false (evE e.fr C) t ps.toList)) H
      | .load t x => match evE e.fr C x with
        | .gptr id k => match H with
          | j :: H => match e.objs[j]? with
            | some (id', cs) => match vLoad T t cs k with
              | some v => bif scl cs && v.flat then (match putE n e d C (some v) with
                | some e' => some (e', [(id, id')], H)
                | none => none) else none
              | none => none
            | none => none
          | [] => none
        | _ => ok0 (putE n e d C (stepV T (evE e.fr C) e.loc (.load t x))) H
      | .call c => match c.callee with
        | .builtin .len => match c.args.toList with
          | [x] => match evE e.fr C x with
            | .list _ _ xs => match c.argTypes.toList with
              | [t] => match elemOf T t with
                | some _ => match H with
                  | m :: H => match putE n e d C (some (.lit (.int .i64 (m : Int)))) with
                    | some e' => some (e', [(xs.length, m)], H)
                    | none => none
                  | [] => none
                | none => none
              | _ => none
            | _ => ok0 (putE n e d C (stepV T (evE e.fr C) e.loc (.call c))) H
          | _ => none
        | _ => ok0 (putE n e d C (stepV T (evE e.fr C) e.loc (.call c))) H
      | op => ok0 (putE n e d C (stepV T (evE e.fr C) e.loc op)) H
    | none => none

theorem put_yields {v : Option AV} (hC : cndOf ops e.fr o = some C) (hd : o.dst = some d) (h : putE n e d C v = some e') (hv : ∀ v', v = some v' → Reader P n (e.st C) o d v') : Yields P n ops e o e' := by
  obtain ⟨v', rfl, rfl, h1, h2⟩ := putE_ok h
  exact yields_read hC hd h1 h2 (fun _ => hv v' rfl)
theorem putV_yields (hT : TabOK P T) {op : Op} (hC : cndOf ops e.fr o = some C) (hd : o.dst = some d) (ho : o.op = op) (h : putE n e d C (stepV T (evE e.fr C) e.loc op) = some e') : Yields P n ops e o e' := by
  refine put_yields hC hd h (fun v' hv => ?_)
  rw [evE_fun] at hv
  exact stepV_ok (s := e.st C) hT ho hv

theorem stepP_ok (hT : TabOK P T) (hZ : ZtOK P Z) (hnd : e.nd) (h : stepP T Z n ops H e o = some (e', q, H')) (hq : allEq q) : Yields P n ops e o e' := by
  unfold stepP at h
  split at h
  · cases h
  rename_i C hC
  rw [forceC_eq] at h
  split at h
  · rename_i d hd
    split at h
    · rename_i x ho
      cases hb : isNil x with
      | true =>
        rw [hb] at h
        have := isNil_eq hb
        subst this
        refine put_yields hC hd (ok0_ok h).1 (fun v' hv => ?_)
        split at hv
        · cases hv; exact Reader.nilL ho
        · cases hv
      | false => rw [hb] at h; exact putV_yields hT hC hd ho (ok0_ok h).1
    · rename_i c x y ho
      obtain ⟨v', hv, rfl, h1, h2⟩ := putE_ok (ok0_ok h).1
      exact yields_pick ho hv hC hd h1 h2
    · rename_i t ps ho
      refine put_yields hC hd (ok0_ok h).1 (fun v' hv => ?_)
      rw [evE_fun] at hv
      exact vBuild_ok hT hZ ho hv
    · rename_i t x ho
      split at h
      · rename_i id kk hx
        rw [evE_eq] at hx
        split at h
        · rename_i H0 j H1
          split at h
          · rename_i id' cs hj
            split at h
            · rename_i v hv
              cases hc : (scl cs && v.flat) with
              | false => rw [hc] at h; cases h
              | true =>
                rw [hc] at h
                simp only [Bool.and_eq_true] at hc
                simp only [cond_true] at h
                split at h
                · rename_i e2 hs
                  cases h
                  have : id = id' := hq.1
                  subst this
                  refine put_yields hC hd hs (fun v' hv' => ?_)
                  cases hv'
                  obtain ⟨D, size, h1, h2, h3⟩ := vLoad_ok hT hv
                  exact Reader.loadG ho h1 h2 hx (lay_nth hnd.1 hj) h3 hc.2 (scl_ok hc.1).1 (scl_ok hc.1).2
                · cases h
            · cases h
          · cases h
        · cases h
      · exact putV_yields hT hC hd ho (ok0_ok h).1
    · rename_i c ho
      split at h
      · rename_i hc
        split at h
        · rename_i x ha
          split at h
          · rename_i o2 E2 xs hx
            rw [evE_eq] at hx
            split at h
            · rename_i t hat
              split at h
              · rename_i E hel
                unfold elemOf at hel
                split at hel
                · rename_i E3 z hl
                  obtain ⟨⟨D, hD, hk⟩, _⟩ := Tab.ok hT hl
                  have := kOf_slice hk; subst this
                  split at h
                  · rename_i H0 m H1
                    split at h
                    · rename_i e2 hs
                      cases h
                      have : xs.length = m := hq.1
                      refine put_yields hC hd hs (fun v' hv' => ?_)
                      cases hv'
                      exact Reader.len' ho hc (Array.toList_inj.1 ha) (Array.toList_inj.1 hat) hD hx this
                    · cases h
                  · cases h
                · cases hel
              · cases h
            · cases h
          · exact putV_yields hT hC hd ho (ok0_ok h).1
        · cases h
      · exact putV_yields hT hC hd ho (ok0_ok h).1
    · exact putV_yields hT hC hd rfl (ok0_ok h).1
  · cases h

def runP (T : Tab) (Z : Zt) (n : Nat) (ops : Array Oper) : Nat → List Nat → List Oper → Es → List (Nat × Nat) → Option (List Oper × Es × List (Nat × Nat))
  | 0, [], l, e, q => some (l, e, q)
  | k + 1, H, o :: l, e, q => match stepP T Z n ops H e o with
    | some (e', q', H') => runP T Z n ops k H' l e' (q' ++ q)
    | none => none
  | _, _, _, _, _ => none
theorem runP_ok (hT : TabOK P T) (hZ : ZtOK P Z) : ∀ (m : Nat) (H : List Nat) (l : List Oper) (e : Es) (q0 : List (Nat × Nat)) {l' : List Oper} {e' : Es} {q : List (Nat × Nat)}, runP T Z n ops m H l e q0 = some (l', e', q) → (allEq q → allEq q0) ∧ (allEq q → COpsE P n ops l' e' Q → COpsE P n ops l e Q)
  | 0, [], l, e, q0, l', e', q, h => by cases h; exact ⟨id, fun _ k => k⟩
  | m + 1, H, o :: l, e, q0, l', e', q, h => by
    unfold runP at h
    split at h
    · rename_i e1 q1 H1 hs
      obtain ⟨h1, h2⟩ := runP_ok hT hZ m H1 l e1 (q1 ++ q0) h
      exact ⟨fun hq => (allEq_app (h1 hq)).2, fun hq k => COpsE.of (fun hnd => stepP_ok hT hZ hnd hs (allEq_app (h1 hq)).1) (h2 hq k)⟩
    · cases h
  | 0, _ :: _, l, e, q0, l', e', q, h => by cases h
  | m + 1, H, [], e, q0, l', e', q, h => by cases h
theorem pn [I : HasTab P] {l' : List Oper} (m : Nat) (h : runP (HasTab.T P) (HasTab.Z P) n ops m [] l e [] = some (l', e', [])) (k : COpsE P n ops l' e' Q) : COpsE P n ops l e Q := (runP_ok I.tok I.zok m [] l e [] h).2 trivial k
theorem ph [I : HasTab P] {l' : List Oper} (m : Nat) (H : List Nat) (h : runP (HasTab.T P) (HasTab.Z P) n ops m H l e [] = some (l', e', q)) (hq : allEq q) (k : COpsE P n ops l' e' Q) : COpsE P n ops l e Q := (runP_ok I.tok I.zok m H l e [] h).2 hq k

theorem pd {fr : Fr} {gs : List Nat} {loc : List (Nat × List AV)} {objs : Ob} {base : Nat → Option (List AV)} (h : Reader P n ((⟨fr, gs, loc, objs, base⟩ : Es).st []) o d v) (g : COpsE P n ops rest ⟨(d, [], v) :: fr, gs, loc, objs, base⟩ Q)
    (hC : cndOf ops fr o = some [] := by rfl) (hd : o.dst = some d := by rfl) (hn : Nat.blt d n = true := by rfl) (hg : memN d gs = false := by rfl) : COpsE P n ops (o :: rest) ⟨fr, gs, loc, objs, base⟩ Q :=
  COpsE.of (e' := ⟨(d, [], v) :: fr, gs, loc, objs, base⟩) (fun _ => yields_read (e := ⟨fr, gs, loc, objs, base⟩) hC hd (Nat.le_of_ble_eq_true hn) hg (fun _ => h)) g
theorem pdg {fr : Fr} {gs : List Nat} {loc : List (Nat × List AV)} {objs : Ob} {base : Nat → Option (List AV)} (t : Nat) (b : Bool) (D : Cnd) (h : truthsP fr ((t, b) :: D) ((t, b) :: D) → Reader P n ((⟨fr, gs, loc, objs, base⟩ : Es).st ((t, b) :: D)) o d v) (g : COpsE P n ops rest ⟨(d, (t, b) :: D, v) :: fr, t :: gs, loc, objs, base⟩ Q)
    (hC : cndOf ops fr o = some ((t, b) :: D) := by rfl) (hd : o.dst = some d := by rfl) (hn : Nat.blt d n = true := by rfl) (hg : memN d (t :: gs) = false := by rfl) : COpsE P n ops (o :: rest) ⟨fr, gs, loc, objs, base⟩ Q :=
  COpsE.of (e' := ⟨(d, (t, b) :: D, v) :: fr, t :: gs, loc, objs, base⟩) (fun _ => yields_read (e := ⟨fr, gs, loc, objs, base⟩) hC hd (Nat.le_of_ble_eq_true hn) hg h) g

/-- A call that answers what holds no memory. -/
theorem COpsE.call [I : HasTab P] {f : FuncId} {c : Call} {args : List AV} {u0 : Value} (C : Cnd) (he : Enters P f) (h : truthsP e.fr C C → PCall P f args v) (hv : conc v = some u0) (ha : vArgs (HasTab.T P) (evE e.fr C) c.args.toList c.argTypes.toList = some args)
    (g : COpsE P n ops rest (e.put d C v) Q)
    (hC : cndOf ops e.fr o = some C) (hg : memN d (gsOf C e.gs) = false) (hd : o.dst = some d) (hn : Nat.blt d n = true) (ho : o.op = .call c) (hc : c.callee = .value (.func f)) : COpsE P n ops (o :: rest) e Q := by
  rw [evE_fun] at ha
  obtain ⟨h1, h2⟩ := vArgs_ok ha
  have hn' : d < n := Nat.le_of_ble_eq_true hn
  intro G a W K hr hfx hK
  have hw := wanted_iff hr hC
  unfold wpE
  cases hx : Region.wanted o (yielded ops a.tmps) with
  | true =>
    rw [if_pos rfl]
    have hcc := hw.1 hx
    have key := AOpsE.call (P := P) (n := n) (s := e.st C) (ops := ops) (o := { o with guard := none }) (rest := []) (Q := fun s' => s' = (e.st C).put d v) (M' := fun M1 => noM = M1) trivial hd hn' ho hc he (args_ok h2) (by simpa using h1.len) (fun j x v hj hv => h1.at j x v (by simpa using hj) hv) ((h (truthsP_of (hr.st hcc) hcc)).all noM) hv (AOpsE.nil rfl)
      G a W (fun a' => RelSt P G n ((e.st C).put d v) a' W) (hr.st hcc) hfx (fun s' a' hs' hr' => by subst hs'; exact hr')
    unfold wpE at key
    rw [if_pos (by rfl)] at key
    obtain ⟨u, hat, hrel⟩ := key
    have hrel' : RelSt P G n ((e.st C).put d v) (a.put o.dst u) W := hrel
    refine ⟨u, hat, ?_⟩
    rw [hd] at hrel' ⊢
    have hu := hrel'.slot d
    rw [getD_put _ _ _ _ (by rw [hr.size]; exact hn'), if_pos rfl] at hu
    have e1 : St.get ((e.st C).put d v) d = v := by
      show look .any ((d, v) :: (e.st C).fr) d = v
      simp [look]
    rw [e1] at hu
    exact g G _ W K (hr.put hC hn' (mem_of_not hg) (fun _ => hu) (fun hcx => absurd hcc hcx)) hfx hK
  | false =>
    rw [if_neg (by simp), hd]
    refine g G _ W K (hr.put hC hn' (mem_of_not hg) (fun hc => ?_) (fun _ => rfl)) hfx hK
    obtain ⟨t, want, r, rfl, hne⟩ := hw.2 hx
    exact absurd (hc _ (List.mem_cons_self ..)) hne
theorem qCall [I : HasTab P] {fr : Fr} {gs : List Nat} {loc : List (Nat × List AV)} {objs : Ob} {base : Nat → Option (List AV)} {f : FuncId} {c : Call} {args : List AV} {u0 : Value} (he : Enters P f) (h : PCall P f args v) (ha : vArgs (HasTab.T P) (evE fr []) c.args.toList c.argTypes.toList = some args)
    (g : COpsE P n ops rest ⟨(d, [], v) :: fr, gs, loc, objs, base⟩ Q) (hv : conc v = some u0 := by rfl)
    (hC : cndOf ops fr o = some [] := by rfl) (hd : o.dst = some d := by rfl) (hg : memN d gs = false := by rfl) (hn : Nat.blt d n = true := by rfl) (ho : o.op = .call c := by rfl) (hc : c.callee = .value (.func f) := by rfl) : COpsE P n ops (o :: rest) ⟨fr, gs, loc, objs, base⟩ Q :=
  COpsE.call (e := ⟨fr, gs, loc, objs, base⟩) [] he (fun _ => h) hv ha g hC hg hd hn ho hc
theorem qCallg [I : HasTab P] {fr : Fr} {gs : List Nat} {loc : List (Nat × List AV)} {objs : Ob} {base : Nat → Option (List AV)} {f : FuncId} {c : Call} {args : List AV} {u0 : Value} (t : Nat) (b : Bool) (D : Cnd) (he : Enters P f) (h : truthsP fr ((t, b) :: D) ((t, b) :: D) → PCall P f args v) (ha : vArgs (HasTab.T P) (evE fr ((t, b) :: D)) c.args.toList c.argTypes.toList = some args)
    (g : COpsE P n ops rest ⟨(d, (t, b) :: D, v) :: fr, t :: gs, loc, objs, base⟩ Q) (hv : conc v = some u0 := by rfl)
    (hC : cndOf ops fr o = some ((t, b) :: D) := by rfl) (hd : o.dst = some d := by rfl) (hg : memN d (t :: gs) = false := by rfl) (hn : Nat.blt d n = true := by rfl) (ho : o.op = .call c := by rfl) (hc : c.callee = .value (.func f) := by rfl) : COpsE P n ops (o :: rest) ⟨fr, gs, loc, objs, base⟩ Q :=
  COpsE.call (e := ⟨fr, gs, loc, objs, base⟩) ((t, b) :: D) he h hv ha g hC hg hd hn ho hc

/-- A region that draws its order: m operations that read; then a tail that waits for them. -/
theorem CWp.drawn {id : Nat} (m : Nat) (hB : regB l m 0 = true) (h : COpsE P n l.toArray (l.take m) e fun e1 => COps P n l.toArray (l.drop m) e1 (QE .normal)) (hm : P.follows .mixedOrders = true := by rfl) (hf : flatB e.fr = true := by rfl) : CWp P n (.region id l.toArray true) e QE := by
  intro G a w K hr hfx hK
  refine wp_region_E0 m hm hB (h G a w _ (RelE.of hr.1 hf hr.2) hfx ?_)
  intro e1 a1 hq hr1 x
  have hr2 : RelE P G n e1 a1 x.val := by
    have hst : ∀ C, condOK C a1 → RelSt P G n (e1.st C) a1 x.val := fun C hC => ((hr1.st hC).later x.below).1
    refine ⟨hr1.size, hr1.defers, fun i hc => ?_, hr1.off, hr1.gs, (hst [] condOK_nil).loc, (hst [] condOK_nil).mem, hr1.nd⟩
    have h3 := (hst _ hc).slot i
    rw [st_get] at h3
    unfold getV valE at h3
    rw [show subC (getE e1.fr i).1 (getE e1.fr i).1 = true from subC_refl _] at h3
    exact h3
  exact hq G a1 x.val K hr2 (hfx.keep ((hr1.st condOK_nil).later x.below).2) fun e' G' a' w' hq' hr' hk' => hK _ _ _ _ _ hq' hr' (((hr1.st condOK_nil).later x.below).2.trans hk')
/-- The same, where a store comes ahead of some of them that look at slots alone. -/
theorem CWp.late {id : Nat} (m : Nat) (hB : regT l m = true) (h : COpsE P n l.toArray (l.take m) e fun e1 => COps P n l.toArray (l.drop m) e1 (QE .normal)) (hm : P.follows .mixedOrders = true := by rfl) (hf : flatB e.fr = true := by rfl) : CWp P n (.region id l.toArray true) e QE := by
  intro G a w K0 hr hfx hK0
  refine Code.wp_mono (Q := fun x a w => x = .normal ∧ K0 .normal a w) (fun x a w hx => by obtain ⟨rfl, hx⟩ := hx; exact hx) ?_
  have hlt : m < l.length := by
    simp only [regT, Bool.and_eq_true, decide_eq_true_eq] at hB
    exact hB.1.1.1.1.1
  have hTn : l[m]? = some l[m] := by simp
  generalize l[m] = T at hTn
  have hst : (∃ t p v, T.op = .store t p v) ∧ T.guard = none ∧ T.dst = none := by
    simp only [regT, Bool.and_eq_true] at hB
    have := hB.1.1.1.2
    simp only [storeB, hTn, Bool.and_eq_true] at this
    obtain ⟨⟨⟨⟨h1, h2⟩, h3⟩, _⟩, _⟩ := this
    refine ⟨?_, by simpa using h2, by simpa using h3⟩
    cases ho : T.op with
    | store t p v => exact ⟨t, p, v, rfl⟩
    | _ => rw [ho] at h1; cases h1
  obtain ⟨⟨t, p, v, ho⟩, hg, hd⟩ := hst
  refine wp_region_T m T hTn hm hB (h G a w _ (RelE.of hr.1 hf hr.2) hfx ?_)
  intro e1 a1 hq hr1 x
  have hr2 : RelE P G n e1 a1 x.val := by
    have hst : ∀ C, condOK C a1 → RelSt P G n (e1.st C) a1 x.val := fun C hC => ((hr1.st hC).later x.below).1
    refine ⟨hr1.size, hr1.defers, fun i hc => ?_, hr1.off, hr1.gs, (hst [] condOK_nil).loc, (hst [] condOK_nil).mem, hr1.nd⟩
    have h3 := (hst _ hc).slot i
    rw [st_get] at h3
    unfold getV valE at h3
    rw [show subC (getE e1.fr i).1 (getE e1.fr i).1 = true from subC_refl _] at h3
    exact h3
  have hL := hq G a1 x.val (fun x a w => x = .normal ∧ K0 .normal a w) hr2 (hfx.keep ((hr1.st condOK_nil).later x.below).2) fun e' G' a' w' hq' hr' hk' => ⟨rfl, hK0 _ _ _ _ _ hq' hr' (((hr1.st condOK_nil).later x.below).2.trans hk')⟩
  have hdrop : l.drop m = T :: l.drop (m + 1) := by
    obtain ⟨h1, h2⟩ := List.getElem?_eq_some_iff.1 hTn
    rw [List.drop_eq_getElem_cons h1, h2]
  rw [hdrop] at hL
  unfold wpList at hL
  simp only [Region.wanted, hg, if_true] at hL
  rcases hL with hL | ⟨_, _, _, hL, _⟩
  · unfold Oper.wp at hL
    have he : (execOp a1.eval T).run P x.val = ((Instr.storeAt t (a1.eval p) (a1.eval v)).run P x.val).andThen fun _ w => (pure Next.skip : Sem Next).run P w := by
      simp only [execOp, ho, Sem.run_bind]
    rw [he] at hL ⊢
    generalize (Instr.storeAt t (a1.eval p) (a1.eval v)).run P x.val = r at hL
    cases r with
    | ok u w' =>
      refine ⟨w', rfl, ?_⟩
      have : wpList P l.toArray (fun x a w => x = .normal ∧ K0 .normal a w) (l.drop (m + 1)) (a1.put T.dst undef) w' := hL
      rw [hd] at this
      exact this
    | halt y w' =>
      cases y with
      | panic v => exact absurd hL.1 (by intro e; cases e)
      | _ => exact hL.elim
  · cases hL
theorem andThen_ok_inv {α β : Type} {r : Result α} {f : α → World → Result β} {v : β} {w : World} (h : r.andThen f = .ok v w) : ∃ u w1, r = .ok u w1 ∧ f u w1 = .ok v w := by
  cases r with
  | ok u w1 => exact ⟨u, w1, rfl, h⟩
  | halt x w1 => cases h
theorem bs_below {t : TypeId} {len : Nat} {ps : Array (Nat × Value)} {w w' : World} {v : Value} (h : (Instr.buildSlice t len ps).run P w = .ok v w') : Below w.heap.size w w' := by
  have key : w' = w ∨ ∃ o, w' = w.alloc o := by
    unfold Instr.buildSlice at h
    simp only [Sem.run_bind] at h
    obtain ⟨d, w1, h1, g1⟩ := andThen_ok_inv h
    clear h
    have e1 : w1 = w := by
      simp only [underlying, Sem.run_bind, run_program, Result.andThen] at h1
      split at h1 <;> simp_all
    subst e1
    clear h1
    split at g1
    · simp only [Sem.run_bind] at g1
      obtain ⟨sz, w2, h2, g2⟩ := andThen_ok_inv g1
      clear g1
      have e2 : w2 = w1 := by
        simp only [sizeOf, Sem.run_bind] at h2
        obtain ⟨i, w3, h3, h4⟩ := andThen_ok_inv h2
        have := MapKept.run_typeInfo_world h3
        simp at h4
        rw [← h4.2, this]
      subst e2
      clear h2
      split at g2
      · cases g2
      · split at g2
        · simp only [Sem.run_bind, Sem.run_pure, Result.andThen_ok] at g2
          split at g2
          · simp only [newRow, Sem.run_bind, run_newObj_alloc, Result.andThen, Sem.run_pure] at g2
            cases g2
            exact .inr ⟨_, rfl⟩
          · cases g2
        · simp only [Sem.run_bind] at g2
          obtain ⟨z', w4, h4, g3⟩ := andThen_ok_inv g2
          clear g2
          have := MapKept.run_zeroValue_world h4
          subst this
          simp only [Sem.run_pure, Result.andThen_ok] at g3
          split at g3
          · simp only [newRow, Sem.run_bind, run_newObj_alloc, Result.andThen, Sem.run_pure] at g3
            cases g3
            exact .inr ⟨_, rfl⟩
          · cases g3
    · cases g1
  rcases key with rfl | ⟨o, rfl⟩
  · exact Below.refl _ _
  · exact (Below.refl _ _).alloc (Nat.le_refl _) _
/-- The same, where an allocation comes ahead of some of them. -/
theorem CWp.ahead {id : Nat} (m : Nat) (hB : regX l m = true) (h : COpsE P n l.toArray (l.take m) e fun e1 => ∃ E2, COps P n l.toArray ((l.drop m).take 1) e1 (fun e2 => e2 = E2) ∧ flatB E2.fr = true ∧ COps P n l.toArray (l.drop (m + 1)) E2 (QE .normal)) (hm : P.follows .mixedOrders = true := by rfl) (hf : flatB e.fr = true := by rfl) : CWp P n (.region id l.toArray true) e QE := by
  intro G a w K0 hr hfx hK0
  have hlt : m < l.length := by
    simp only [regX, Bool.and_eq_true, decide_eq_true_eq] at hB
    exact hB.1.1.1.1
  have hTn : l[m]? = some l[m] := by simp
  generalize l[m] = T at hTn
  have hst : (∃ t p v, T.op = .buildSlice t p v) ∧ T.guard = none := by
    simp only [regX, Bool.and_eq_true] at hB
    have := hB.1.1.2
    simp only [bldB, hTn, Bool.and_eq_true] at this
    obtain ⟨⟨⟨⟨⟨⟨h1, h2⟩, h3⟩, _⟩, _⟩, _⟩, _⟩ := this
    refine ⟨?_, by simpa using h2⟩
    cases ho : T.op with
    | buildSlice t p v => exact ⟨t, p, v, rfl⟩
    | _ => rw [ho] at h1; cases h1
  obtain ⟨⟨t, p, v, ho⟩, hg⟩ := hst
  refine wp_region_X m T hTn hm hB (h G a w _ (RelE.of hr.1 hf hr.2) hfx ?_)
  rintro e1 a1 ⟨E2, hq, hf2, hq2⟩ hr1 x
  have hr2 : RelE P G n e1 a1 x.val := by
    have hst : ∀ C, condOK C a1 → RelSt P G n (e1.st C) a1 x.val := fun C hC => ((hr1.st hC).later x.below).1
    refine ⟨hr1.size, hr1.defers, fun i hc => ?_, hr1.off, hr1.gs, (hst [] condOK_nil).loc, (hst [] condOK_nil).mem, hr1.nd⟩
    have h3 := (hst _ hc).slot i
    rw [st_get] at h3
    unfold getV valE at h3
    rw [show subC (getE e1.fr i).1 (getE e1.fr i).1 = true from subC_refl _] at h3
    exact h3
  have hkx := ((hr1.st condOK_nil).later x.below).2
  have hL := hq G a1 x.val (fun y a w => y = .normal ∧ ∃ G', RelC P G' n E2 a w ∧ Keep G x.val G' w) hr2 (hfx.keep hkx) fun e' G' a' w' hq' hr' hk' => ⟨rfl, G', by rw [← hq']; exact hr', hk'⟩
  have hdrop : (l.drop m).take 1 = [T] := by
    obtain ⟨h1, h2⟩ := List.getElem?_eq_some_iff.1 hTn
    rw [List.drop_eq_getElem_cons h1, h2]; rfl
  rw [hdrop] at hL
  unfold wpList at hL
  simp only [Region.wanted, hg, if_true] at hL
  rcases hL with hL | ⟨_, _, _, hL, _⟩
  · unfold Oper.wp at hL
    have he : (execOp a1.eval T).run P x.val = ((Instr.buildSlice t p (v.map fun (i, x) => (i, a1.eval x))).run P x.val).andThen fun u w => (pure (Next.value u) : Sem Next).run P w := by
      simp only [execOp, ho, Sem.run_bind]
    rw [he] at hL ⊢
    cases hr' : (Instr.buildSlice t p (v.map fun (i, x) => (i, a1.eval x))).run P x.val with
    | ok u w' =>
      rw [hr'] at hL
      obtain ⟨_, G', hr3, hk3⟩ : (Exit.normal = Exit.normal ∧ ∃ G', RelC P G' n E2 (a1.put T.dst u) w' ∧ Keep G x.val G' w') := hL
      refine ⟨u, w', rfl, bs_below hr', fun y => ?_⟩
      obtain ⟨h5, h6⟩ := hr3.1.later y.below
      exact hq2 G' _ y.val K0 (RelE.of h5 hf2 hr3.2) (((hfx.keep hkx).keep hk3).keep h6) fun e' G2 a' w2 hq' hr' hk' => hK0 _ _ _ _ _ hq' hr' (hkx.trans (hk3.trans (h6.trans hk')))
    | halt y w' =>
      rw [hr'] at hL
      cases y with
      | panic v => exact absurd hL.1 (by intro e; cases e)
      | _ => exact hL.elim
  · cases hL
/-- Some rounds of whatever operation comes next. -/
def AllR (p : Nat → Prop) : List Nat → Prop
  | [] => True
  | i :: r => p i ∧ AllR p r
theorem AllR.at {p : Nat → Prop} : ∀ {l : List Nat}, AllR p l → ∀ i ∈ l, p i
  | _ :: _, h, i, hi => by
    rcases List.mem_cons.1 hi with rfl | hi
    · exact h.1
    · exact h.2.at i hi
def CAny (P : Program) (n : Nat) (ops : Array Oper) (F : Array Bool) (E : Es) : Nat → Array Bool → Es → Prop
  | 0, listed, e => listed = F ∧ e = E
  | k + 1, listed, e => ∃ i r, Region.ready .any ops listed = i :: r ∧ AllR (fun i => ∃ o, ops[i]? = some o ∧ COps P n ops [o] e fun e' => flatB e'.fr = true ∧ CAny P n ops F E k (listed.setIfInBounds i true) e') (i :: r)
theorem allR0 {p : Nat → Prop} : AllR p [] := trivial
theorem allR1 {p : Nat → Prop} {i : Nat} {r : List Nat} (h : p i) (h' : AllR p r) : AllR p (i :: r) := ⟨h, h'⟩
theorem CAny.step {F : Array Bool} {E : Es} {k : Nat} {listed : Array Bool} (i : Nat) (r : List Nat) (hr : Region.ready .any ops listed = i :: r) (h : AllR (fun i => ∃ o, ops[i]? = some o ∧ COps P n ops [o] e fun e' => flatB e'.fr = true ∧ CAny P n ops F E k (listed.setIfInBounds i true) e') (i :: r)) : CAny P n ops F E (k + 1) listed e := ⟨i, r, hr, h⟩
theorem CAny.sound {F : Array Bool} {E : Es} {Q : Exit → Act → World → Prop} {j : Nat} : ∀ (k : Nat) (listed : Array Bool) (e : Es), CAny P n ops F E k listed e → flatB e.fr = true → ∀ (G : Gh) (a : Act) (w : World), RelC P G n e a w → Fix G w →
    (∀ G' a' w', RelC P G' n E a' w' → Keep G w G' w' → wpAny P .any ops Q j F a' w') → wpAny P .any ops Q (k + j) listed a w
  | 0, listed, e, ⟨h1, h2⟩, _, G, a, w, hr, _, hK => by
    subst h1; subst h2
    rw [Nat.zero_add]
    exact hK G a w hr (Keep.refl _ _)
  | k + 1, listed, e, ⟨i0, r, h1, h2⟩, hf, G, a, w, hr, hfx, hK => by
    rw [show k + 1 + j = (k + j) + 1 by omega]
    refine ⟨fun e0 => (by rw [h1] at e0; cases e0), fun i hi => ?_⟩
    rw [h1] at hi
    obtain ⟨o, ho, hop⟩ := h2.at i hi
    have := hop G a w (fun e a w => match e with | .normal => wpAny P .any ops Q (k + j) (listed.setIfInBounds i true) a w | e => Q e a w) (RelE.of hr.1 hf hr.2) hfx
      (fun s' G' a' w' hq hr' hk' => CAny.sound k _ s' hq.2 hq.1 G' a' w' hr' (hfx.keep hk') fun G2 a2 w2 hr2 hk2 => hK G2 a2 w2 hr2 (hk'.trans hk2))
    unfold wpOp
    simp only [ho]
    simp only [wpList] at this
    split at this
    · rename_i hw
      rw [if_pos hw]
      rcases this with h1 | h1
      · left
        unfold Oper.wp at h1 ⊢
        generalize (execOp a.eval o).run P w = r at h1 ⊢
        cases r with
        | ok nx w' => cases nx <;> exact h1
        | halt x w' => cases x <;> exact h1
      · right; exact h1
    · rename_i hw
      rw [if_neg hw]; exact this
/-- A region whose first m operations are walked in each of their orders. -/
theorem CWp.tree {id : Nat} (m : Nat) (E : Es) (hB : (Nat.ble m l.length && Region.seqB .any l.toArray (l.length - m) m (List.replicate m true ++ List.replicate (l.length - m) false).toArray) = true)
    (h : CAny P n l.toArray (List.replicate m true ++ List.replicate (l.length - m) false).toArray E m (List.replicate l.length false).toArray e) (k : COps P n l.toArray (l.drop m) E (QE .normal))
    (hm : P.follows .mixedOrders = true := by rfl) (hf : flatB e.fr = true := by rfl) (hE : flatB E.fr = true := by rfl) : CWp P n (.region id l.toArray true) e QE := by
  intro G a w K hr hfx hK
  refine wp_region_any hm ?_
  rw [Bool.and_eq_true] at hB
  have hle := Nat.le_of_ble_eq_true hB.1
  have hl : ∀ C, RelC P G n C a w → RelC P G n C a { w with drawn := w.drawn + 1 } ∧ Keep G w G { w with drawn := w.drawn + 1 } := fun C hc => by
    obtain ⟨h1, h2⟩ := hc.1.later (world_drawn w)
    exact ⟨⟨h1, hc.2⟩, h2⟩
  obtain ⟨hr1, hk1⟩ := hl e hr
  have e1 : l.toArray.size = m + (l.length - m) := by simp; omega
  have e2 : Array.replicate l.toArray.size false = (List.replicate l.length false).toArray := by simp
  rw [e2, e1]
  refine CAny.sound m _ e h hf G a _ hr1 (hfx.keep hk1) fun G' a' w' hr' hk' => ?_
  have e3 : l.length - m = (l.drop m).length := by simp
  have := k G' a' w' K (RelE.of hr'.1 hE hr'.2) ((hfx.keep hk1).keep hk') fun e' G2 a2 w2 hq hr2 hk2 => hK _ _ _ _ _ hq hr2 (hk1.trans (hk'.trans hk2))
  have h4 := hB.2
  rw [e3] at h4 ⊢
  exact wpAny_of_seq (l.drop m) m _ a' w' (fun j => by simp) h4 this
theorem COpsE.toO (h : COps P n ops [] e Q) : COpsE P n ops [] e fun e1 => COps P n ops [] e1 Q := COpsE.nil h
end

section
variable {P : Program} {n : Nat} {e e' : Es} {ops : Array Oper} {l rest : List Oper} {o : Oper} {Q : Es → Prop} {QE : Exit → Es → Prop} {d : Nat} {v : AV} {C : Cnd} {t t' E : Nat} {x y : Operand}
theorem RelE.bool {e : Es} {G : Gh} {a : Act} {w : World} {t : Nat} {b : Bool} (hr : RelE P G n e a w) (hv : getV e.fr [] t = .lit (.bool b)) : a.tmps[t]? = some (.bool b) := by
  have h0 := (hr.st condOK_nil).slot t
  rw [st_get, hv] at h0
  have h1 : a.tmps.getD t undef = .bool b := by
    have h2 : RelV P G w (.lit (.bool b)) (a.tmps.getD t undef) := h0
    generalize a.tmps.getD t undef = u at h2
    cases h2; rfl
  rw [Array.getD_eq_getD_getElem?] at h1
  cases hx : a.tmps[t]? with
  | none => rw [hx] at h1; cases h1
  | some u => rw [hx] at h1; exact congrArg some h1
/-- A condition that holds. -/
theorem COps.want {t g : Nat} {b : Bool} (k : COps P n ops ({ o with guard := none } :: rest) e Q) (hg : o.guard = some (g, b) := by rfl) (ht : (ops[g]?).bind (·.dst) = some t := by rfl) (hv : getV e.fr [] t = .lit (.bool b) := by rfl) : COps P n ops (o :: rest) e Q := by
  intro G a w K hr hfx hK
  have := k G a w K hr hfx hK
  have hb := hr.bool hv
  have hw : Region.wanted o (yielded ops a.tmps) = true := by
    unfold Region.wanted
    rw [hg]
    simp only [yielded, ht, Option.bind_some, hb, beq_self_eq_true]
  simp only [wpList] at this ⊢
  rw [if_pos hw]
  rw [if_pos (show Region.wanted { o with guard := none } (yielded ops a.tmps) = true from rfl)] at this
  exact this
/-- A local block that is written no more. -/
def frzF (k : Nat) (cells : List AV) (fr : Fr) : Fr := fr.map fun p => (p.1, p.2.1, frzV k cells p.2.2)
theorem st_frz (k : Nat) (cells : List AV) (fr : Fr) : (frzF k cells fr).map (fun p => (p.1, valE [] p.2)) = (fr.map fun p => (p.1, valE [] p.2)).map fun p => (p.1, frzV k cells p.2) := by
  unfold frzF
  rw [List.map_map, List.map_map]
  apply List.map_congr_left
  intro p _
  simp only [Function.comp, valE]
  cases subC p.2.1 [] <;> rfl
theorem cFreeze {fr fr' : Fr} {gs : List Nat} {loc loc' : List (Nat × List AV)} {objs : Ob} {base : Nat → Option (List AV)} {cells : List AV} (k : Nat) (g : COps P n ops l ⟨fr', [], loc', objs, base⟩ Q) (hc : lookL loc k = some cells := by rfl) (hfl : cells.all AV.flat = true := by rfl) (hs : frzF k cells fr = fr' := by rfl) (hl : frzL k loc = loc' := by rfl) (hf : flatB fr' = true := by rfl) : COps P n ops l ⟨fr, gs, loc, objs, base⟩ Q := by
  subst hs; subst hl
  intro G a w K hr hfx hK
  obtain ⟨G', r1, r2⟩ := (hr.st condOK_nil).freeze (k := k) hc hfl
  have e : (⟨frzF k cells fr, [], frzL k loc, objs, base⟩ : Es).st [] = ⟨((⟨fr, gs, loc, objs, base⟩ : Es).st []).fr.map fun p => (p.1, frzV k cells p.2), frzL k loc, lay objs base⟩ := by
    unfold Es.st
    simp only [st_frz]
  exact g G' a w K (RelE.of (by rw [e]; exact r1) hf hr.nd) (hfx.keep r2) fun s2 G2 a2 w2 hq hr2 hk2 => hK s2 G2 a2 w2 hq hr2 (r2.trans hk2)
/-- All of an array, as a list. -/
theorem rArr [I : HasTab P] {α : Type} (l : List α) (f : α → AV) {v : AV} {kk m z : Nat} {k2 : TK} (ho : o.op = .slice t x none none none := by rfl) (h1 : (HasTab.T P).look t = some (.arr m E, z) := by rfl) (h2 : (HasTab.T P).look E = some (k2, 1) := by rfl) (hx : evE e.fr C x = .eptr v kk := by rfl)
    (hm : Nat.ble m maxLen = true := by rfl) (hxs : (v.cells.drop kk).take m = l.map f := by rfl) (hl : (l.map f).length = m := by rfl) (hone : (l.map f).all (fun c => c.scalar && c.flat) = true := by rfl) (hcc : ((l.map f).all fun c => match c with | .agg _ => false | _ => true) = true := by rfl) : Reader P n (e.st C) o d (.list false E (l.map f)) := by
  obtain ⟨⟨D, hD, hk⟩, _⟩ := Tab.ok I.tok h1
  have hD2 : D = .array m E := by
    cases D <;> simp only [kOf] at hk <;> first | (cases hk; rfl) | (cases hk) | (split at hk <;> cases hk)
  subst hD2
  exact Reader.sliceE ho hD (Tab.ok I.tok h2).2 (ev_st hx) (Nat.le_of_ble_eq_true hm) hxs hl hone (one_cells hcc)
/-- What a closure holds. -/
def vCaps (ev : Operand → AV) : List Operand → Option (List AV)
  | [] => some []
  | x :: r => (ev x).un.force fun v => bif v.flat && Operand.ok x then (match vCaps ev r with | some q => some (v :: q) | none => none) else none
theorem rMk {f : FuncId} {caps : Array Operand} {cs : List AV} (ho : o.op = .makeFunc (.func f) #[] caps := by rfl) (hc : vCaps (evE e.fr C) caps.toList = some cs := by rfl) : Reader P n (e.st C) o d (.fn f cs) := by
  rw [evE_fun] at hc
  intro G a w h
  have key : ∀ (l : List Operand) (cs : List AV), vCaps (e.st C).eval l = some cs → (l.map a.eval).length = cs.length ∧ ∀ (j : Nat) (c : AV) (v : Value), cs[j]? = some c → (l.map a.eval)[j]? = some v → RelV P G w c v := by
    intro l
    induction l with
    | nil => intro cs h; cases h; exact ⟨rfl, fun j c v h _ => by simp at h⟩
    | cons x r ih =>
      intro cs h'
      unfold vCaps at h'
      rw [AV.force_eq] at h'
      cases hb : (((e.st C).eval x).un.flat && Operand.ok x) with
      | false => rw [hb] at h'; cases h'
      | true =>
        rw [hb] at h'
        simp only [Bool.and_eq_true] at hb
        simp only [cond_true] at h'
        split at h'
        · rename_i q hq
          cases h'
          obtain ⟨h1, h2⟩ := ih q hq
          refine ⟨by simp at h1 ⊢; exact h1, fun j c v hc hv => ?_⟩
          cases j with
          | zero =>
            simp at hc hv
            subst hc; subst hv
            obtain ⟨p, hp⟩ := h.ev x (ok_const hb.2)
            exact hp.toV hb.1
          | succ j => exact h2 j c v (by simpa using hc) (by simpa using hv)
        · cases h'
  obtain ⟨h1, h2⟩ := key caps.toList cs hc
  refine ⟨.func (.func f) #[] (caps.map a.eval), ?_, fun w' _ => ?_⟩
  · have := RelV.fn (P := P) (G := G) (w := w) f cs (caps.toList.map a.eval) h1 h2
    simp only [← Array.toList_map, Array.toArray_toList] at this
    exact this
  · simp [execOp, ho, Instr.makeFunc]

/-- A call of a function value: all objects are handed on. -/
theorem cCallV [I : HasTab P] {fr : Fr} {loc : List (Nat × List AV)} {objs : Ob} {base : Nat → Option (List AV)} {f : FuncId} {c : Call} {r : Nat} {ars cap args : List AV} {R : AV → Ob → Prop} (he : Enters P f) (h : FCall P f args objs R) (g : ∀ v outs, R v outs → COps P n ops rest ⟨(d, [], v) :: fr, [], loc, outs, base⟩ Q)
    (hC : cndOf ops fr o = some [] := by rfl) (hd : o.dst = some d := by rfl) (hn : Nat.blt d n = true := by rfl) (ho : o.op = .call c := by rfl) (hc : c.callee = .value (.tmp r) := by rfl) (hfn : getV fr [] r = .fn f cap := by rfl) (ha : vArgs (HasTab.T P) (evE fr []) c.args.toList c.argTypes.toList = some ars := by rfl) (hall : ars ++ cap = args := by rfl) : COps P n ops (o :: rest) ⟨fr, [], loc, objs, base⟩ Q := by
  subst hall
  intro G a w K hr hfx hK
  have hfl : ∀ i, (getE fr i).1 = [] := by
    intro i
    cases hx : (getE fr i).1 with
    | nil => rfl
    | cons p r =>
      have := hr.gs i p (by show p ∈ (getE fr i).1; rw [hx]; exact List.mem_cons_self ..)
      cases this
  rw [show evE fr [] = ((⟨fr, [], loc, objs, base⟩ : Es).st []).eval from evE_fun ⟨fr, [], loc, objs, base⟩ []] at ha
  obtain ⟨h1, h2⟩ := vArgs_ok ha
  have key := AOps.callV (P := P) (n := n) (ops := ops) (o := o) (rest := rest) (s := (⟨fr, [], loc, objs, base⟩ : Es).st []) (Q := fun s'' => ∃ e'', e''.st [] = s'' ∧ e''.nd ∧ Q e'') (wants0 (e := ⟨fr, [], loc, objs, base⟩) _ hC) hd (Nat.le_of_ble_eq_true hn) ho hc ((st_get _ [] r).trans hfn) he (args_ok h2) (by simpa using h1.len) (fun j x v hj hv => h1.at j x v (by simpa using hj) hv) rfl
    (R := fun r M' => ∃ outs, R r outs ∧ M' = lay outs base ∧ ndO outs base) (h base hr.nd) ?_
  · refine key G a w K (hr.st condOK_nil) hfx ?_
    rintro s'' G' a' w' ⟨e'', rfl, hn2, hq⟩ hr' hk
    exact hK e'' G' a' w' hq ⟨hr', hn2⟩ hk
  · rintro r M' ⟨outs, hR, rfl, hno⟩ G1 a1 w1 K1 hr1 hfx1 hK1
    refine g r outs hR G1 a1 w1 K1 ⟨hr1.size, hr1.defers, fun i _ => ?_, fun i hne => ?_, fun i p hp => ?_, hr1.loc, hr1.mem, hno⟩ hfx1 (fun e2 G2 a2 w2 hq hr2 hk2 => hK1 _ G2 a2 w2 ⟨e2, rfl, hr2.2, hq⟩ hr2.1 hk2)
    · have h3 := hr1.slot i
      have e1 : St.get { ((⟨fr, [], loc, objs, base⟩ : Es).st []).put d r with mem := lay outs base } i = valE [] (getE ((d, [], r) :: fr) i) := look_st [] ((d, [], r) :: fr) i
      rw [e1] at h3
      unfold valE at h3
      rw [show (getE ((d, [], r) :: fr) i).1 = [] from addF_get hfl [(d, r)] i] at h3
      exact h3
    · rw [show (getE ((d, [], r) :: fr) i).1 = [] from addF_get hfl [(d, r)] i] at hne
      exact absurd condOK_nil hne
    · rw [show (getE ((d, [], r) :: fr) i).1 = [] from addF_get hfl [(d, r)] i] at hp; cases hp
/-- A function, by its body, whose objects all stay in sight. -/
theorem FCall.ofAll [I : HasTab P] {f : FuncId} {fn : Func} {c : Code} {args : List AV} {ins : Ob} {R : AV → Ob → Prop} (hf : P.funcs[f]? = some fn) (hb : fn.body = some c) (hn : fn.ntmps = n) (hp : args.length.ble n = true) (hfl : args.all AV.flat = true)
    (h : ∀ base, CWp P n c ⟨entE 0 args, [], [], ins, base⟩ fun x e' => (x = .ret ∨ x = .normal) ∧ ∃ r, resE (HasTab.T P) e' fn.results.toList = some r ∧ e'.base = base ∧ R r e'.objs) : FCall P f args ins R := by
  intro base hnd
  refine ACall.of (n := n) hf hb hn hp hfl ?_
  intro G a w K hr hfx hK
  have hst : (⟨entE 0 args, [], [], ins, base⟩ : Es).st [] = ⟨entryFr 0 args, [], lay ins base⟩ := by
    unfold Es.st; rw [entE_st]
  refine h base G a w K ⟨by rw [hst]; exact hr, hnd⟩ hfx ?_
  rintro x e' G' a' w' ⟨hx, r, h1, rfl, hR⟩ hr' hk
  exact hK x (e'.st []) G' a' w' ⟨hx, r, by simpa using resE_ok I.tok h1, e'.objs, hR, rfl, hr'.2⟩ hr'.1 hk
/-- A function that is handed in: what it comes to. -/
def Fn1 (P : Program) (f : FuncId) (cap : List AV) (ins : Ob) {α : Type} (enc : α → AV) {β : Type} (dec : β → AV) (p : α → Option β) : Prop := Enters P f ∧ ∀ u b, p u = some b → FCall P f (enc u :: cap) ins fun v outs => v = dec b ∧ outs = ins
end
end
section
open Go.RowKit

theorem Fix.shaped {G : Gh} {w : World} (h : Fix G w) : w.ShapedOpen Tryz.prog := by
  obtain ⟨F, h1, h2⟩ := h
  exact (h2 w (fun b o e => (h1 b o e).2.1)).1
theorem Fix.tab {G : Gh} {w : World} (h : Fix G w) : Lib.TabIs Tryz.prog w "internal/strconv.uint64pow10" .u64 Lib.pow10Tab := by
  obtain ⟨F, h1, h2⟩ := h
  have h3 := (h2 w (fun b o e => (h1 b o e).2.1)).2
  first | exact h3 | exact h3.1
theorem Fix.errs {G : Gh} {w : World} (h : Fix G w) : (∃ v, w.cell? ⟨5, 0, none⟩ = some v ∧ (v = .nilIface ∨ ∃ te pe, v = .iface te pe)) ∧ (∃ v, w.cell? ⟨6, 0, none⟩ = some v ∧ (v = .nilIface ∨ ∃ te pe, v = .iface te pe)) := by
  obtain ⟨F, h1, h2⟩ := h
  exact (h2 w (fun b o e => (h1 b o e).2.1)).2.2

/-- Cut at each such byte. -/
def splitC (p : UInt8) (l : List UInt8) : List (List UInt8) := Lib.split l [p]

theorem splitB_c (p : UInt8) (l : List UInt8) : (Lib.splitB ⟨#[p]⟩ 0 (Lib.countB ⟨l.toArray⟩ ⟨#[p]⟩) ⟨l.toArray⟩).map Value.string = (splitC p l).map fun s => Value.string ⟨s.toArray⟩ := by
  have h := Lib.splitB_data ⟨#[p]⟩ 0 (Lib.countB ⟨l.toArray⟩ ⟨#[p]⟩) ⟨l.toArray⟩
  have e : splitC p l = (Lib.splitB ⟨#[p]⟩ 0 (Lib.countB ⟨l.toArray⟩ ⟨#[p]⟩) ⟨l.toArray⟩).map (·.data.toList) := by
    rw [h]
    unfold splitC Lib.split
    simp only [Lib.countB]
  rw [e, List.map_map]
  apply List.map_congr_left
  intro s _
  simp

theorem splitC_len (p : UInt8) (l : List UInt8) : (splitC p l).length = l.count p + 1 := by
  have h := Lib.splitB_all ⟨#[p]⟩ (by show 0 < (1 : Nat); decide) 0 _ ⟨l.toArray⟩ rfl
  have e : (splitC p l).length = (Lib.splitB ⟨#[p]⟩ 0 (Lib.countB ⟨l.toArray⟩ ⟨#[p]⟩) ⟨l.toArray⟩).length := by
    have := congrArg List.length (splitB_c p l)
    simpa using this.symm
  rw [e, h, Lib.countB, ← Lib.count_one]
theorem splitC_le (p : UInt8) (l : List UInt8) : (splitC p l).length ≤ l.length + 1 := by
  rw [splitC_len]; have := List.count_le_length (a := p) (l := l); omega

theorem splitC_nil (p : UInt8) : splitC p [] = [[]] := rfl
theorem index_consp (p : UInt8) (r : List UInt8) : Lib.index (p :: r) [p] = 0 := by unfold Lib.index; simp
theorem index_consp_ne {p c : UInt8} (h : c ≠ p) (r : List UInt8) : Lib.index (c :: r) [p] = if Lib.index r [p] == -1 then -1 else Lib.index r [p] + 1 := by
  rw [Lib.index, if_neg]
  simp [List.isPrefixOf, Ne.symm h]
theorem splitC_hit (p : UInt8) (r : List UInt8) : splitC p (p :: r) = [] :: splitC p r := by
  unfold splitC Lib.split
  rw [Lib.count_cons_eq, Nat.add_comm, Lib.splitK, index_consp]
  simp
theorem splitC_ne {p c : UInt8} (h : c ≠ p) (r : List UInt8) : ∃ hd tl, splitC p r = hd :: tl ∧ splitC p (c :: r) = (c :: hd) :: tl := by
  unfold splitC Lib.split
  rw [Lib.count_cons_ne c p r h]
  cases hk : Lib.count r [p] with
  | zero => exact ⟨r, [], rfl, rfl⟩
  | succ k =>
    have hi : ¬ (Lib.index r [p] == -1) = true := by
      intro e
      have := Lib.count_miss (beq_iff_eq.1 e)
      omega
    have hge := Lib.index_ge r [p]
    have hne : Lib.index r [p] ≠ -1 := fun e => hi (beq_iff_eq.2 e)
    obtain ⟨i, hi'⟩ : ∃ i : Nat, Lib.index r [p] = i := ⟨(Lib.index r [p]).toNat, by omega⟩
    refine ⟨r.take i, Lib.splitK [p] 0 k (r.drop (i + 1)), ?_, ?_⟩
    · rw [Lib.splitK, if_neg hi, hi']; simp
    · have hi2 : ¬ (Lib.index (c :: r) [p] == -1) = true := by rw [index_consp_ne h, if_neg hi, hi']; simp; omega
      have e2 : (Lib.index (c :: r) [p]).toNat = i + 1 := by rw [index_consp_ne h, if_neg hi, hi']; omega
      rw [Lib.splitK, if_neg hi2, e2]; simp

theorem splitC_mem (p : UInt8) : ∀ (l : List UInt8) (k : Nat) (s : List UInt8), (splitC p l)[k]? = some s → s.length ≤ l.length
  | [], k, s, h => by
    rw [splitC_nil] at h
    cases k with
    | zero => simp at h; subst h; simp
    | succ k => simp at h
  | c :: r, k, s, h => by
    by_cases hc : c = p
    · subst hc
      rw [splitC_hit] at h
      cases k with
      | zero => simp at h; subst h; simp
      | succ k => have := splitC_mem c r k s (by simpa using h); simp; omega
    · obtain ⟨hd, tl, e1, e2⟩ := splitC_ne hc r
      rw [e2] at h
      cases k with
      | zero =>
        simp at h; subst h
        have := splitC_mem p r 0 hd (by rw [e1]; rfl)
        simp; omega
      | succ k => have := splitC_mem p r (k + 1) s (by rw [e1]; simpa using h); simp; omega


def splitO (l p : List UInt8) : Option (List (List UInt8)) := match p with
  | [c] => if l.length ≤ 4294967280 then some (splitC c l) else none
  | _ => none
theorem splitO_w {l p : List UInt8} {r : List (List UInt8)} (h : splitO l p = some r) : PCall Tryz.prog 73 [.str l, .str p] (.list true 9 (r.map AV.str)) := by
  unfold splitO at h
  split at h
  · rename_i p
    split at h
    · rename_i hl
      cases h
      refine PCall.of fun M => ?_
      have hlen1 : (splitC p l).length = Lib.countB ⟨l.toArray⟩ ⟨#[p]⟩ + 1 := by
        rw [splitC_len, Lib.countB, ← Lib.count_one]
      have hcnt : (splitC p l).length ≤ l.length + 1 := splitC_le p l
      refine ACall.ofRow (size := 1) (by unfold SizeOf; kernel_rfl) (fun x hx => ?_) (fun x hx c hc => ?_) ?_ ?_
      · obtain ⟨s, _, rfl⟩ := List.mem_map.1 hx; rfl
      · obtain ⟨s, _, rfl⟩ := List.mem_map.1 hx; simp [AV.cells] at hc; subst hc; rfl
      · rw [List.length_map]; unfold maxLen; omega
      · intro G w vs hm hfx hlen hrel
        obtain ⟨v, u, rfl, h1, h2⟩ := arg2 hlen hrel
        have e1 := relV_str h1
        have e2 := relV_str h2
        subst e1; subst e2
        refine ⟨_, strs_rel (splitC p l), (Tryz.strings_Split_shaped ⟨l.toArray⟩ ⟨#[p]⟩ w hfx.shaped (by rw [bsize]; omega) (by show 0 < (1 : Nat); decide)).mono ?_⟩
        rintro e w' ⟨rfl, rfl⟩
        rw [splitB_c]
        refine ⟨w.heap.size, _, _, by rw [List.length_map, hlen1], Nat.le_refl _, by simp, heap_new _ _, by rw [List.length_map, hlen1]; exact Nat.le_refl _, ?_, by simp [hlen1], ?_, (Below.refl _ _).alloc (Nat.le_refl _) _⟩
        · rw [← hlen1]; unfold maxLen; omega
        · rw [List.length_map, Nat.mul_one, List.take_of_length_le (by simp)]
    · cases h
  · cases h

def trimO (s cut : List UInt8) : Option (List UInt8) := if cut = [48, 49, 50, 51, 52, 53, 54, 55, 56, 57] then some (Lib.trimLeftS s cut) else none
theorem trimO_w {s cut r : List UInt8} (h : trimO s cut = some r) : PCall Tryz.prog 57 [.str s, .str cut] (.str r) := by
  unfold trimO at h
  split at h
  · rename_i e
    subst e
    cases h
    refine PCall.of fun M => ACall.ofBelow rfl ?_
    intro G w vs hm hfx hlen hrel
    obtain ⟨v, u, rfl, h1, h2⟩ := arg2 hlen hrel
    have e1 := relV_str h1
    have e2 := relV_str h2
    subst e1; subst e2
    refine (Any.strings_TrimLeft_laid Tryz.lays161 (by kernel_rfl) ⟨s.toArray⟩ ⟨[48, 49, 50, 51, 52, 53, 54, 55, 56, 57].toArray⟩ w (by decide) (Go.Proofs.ascii_of_all (by decide))).mono ?_
    rintro e w' ⟨rfl, hb⟩
    exact ⟨_, rfl, .str _, hb⟩
  · cases h

def itoaO (n : Int) : Option (List UInt8) := if -9223372036854775808 ≤ n ∧ n ≤ 9223372036854775807 then some (Lib.itoa n) else none
theorem itoaO_w {n : Int} {r : List UInt8} (h : itoaO n = some r) : PCall Tryz.prog 70 [zI n] (.str r) := by
  unfold itoaO at h
  split at h
  · rename_i hn
    cases h
    refine PCall.of fun M => ACall.ofBelow rfl ?_
    intro G w vs hm hfx hlen hrel
    obtain ⟨v, rfl, h1⟩ := arg1 hlen hrel
    have e1 := relV_lit h1
    subst e1
    refine (Tryz.strconv_Itoa n hn.1 hn.2 w hfx.tab).mono ?_
    rintro e w' ⟨rfl, k, os, rfl⟩
    exact ⟨_, rfl, .str _, Lib.below_grow _ _ (Nat.le_refl _) _ _⟩
  · cases h

section
variable {P : Program} {n : Nat} {s : St} {o : Oper} {d f : Nat} {t t' : TypeId} {x : Operand} {op : BinOp} {args : List AV} {M : Nat → Option (List AV)}
theorem run_if_nn {ms : Array (String × TypeId)} (k : Nat) (hu : P.underlying t = some (.interface ms)) (w : World) : (Op.equalIn (k + 1) t .nilIface .nilIface).run P w = .ok true w := by
  simp [Op.equalIn, run_underlying hu]
theorem run_if_sn {ms : Array (String × TypeId)} (k : Nat) (te : TypeId) (pv : Value) (hu : P.underlying t = some (.interface ms)) (w : World) : (Op.equalIn (k + 1) t (.iface te pv) .nilIface).run P w = .ok false w := by
  simp [Op.equalIn, run_underlying hu]
/-- An interface, held against nil. -/
theorem Reader.ifNil {ms : Array (String × TypeId)} {v : Value} {b c : Bool} (ho : o.op = .binOp op t x (.const .nilIface) t') (hu : P.underlying t = some (.interface ms)) (hx : s.eval x = .lit v) (hb : (v = .nilIface ∧ b = true) ∨ ((∃ te pv, v = .iface te pv) ∧ b = false))
    (hr : (op = .eql ∧ c = b) ∨ (op = .neq ∧ c = !b)) : Reader P n s o d (.lit (.bool c)) := by
  intro G a w h
  refine ⟨.bool c, lit_toS _, fun w' _ => ?_⟩
  have hv := h.evLit hx
  have hn : a.eval (.const .nilIface) = .nilIface := rfl
  rcases hb with ⟨rfl, rfl⟩ | ⟨⟨te, pv, rfl⟩, rfl⟩
  · have hrun := run_if_nn (P := P) 9999 hu w'
    rcases hr with ⟨rfl, rfl⟩ | ⟨rfl, rfl⟩
    · simp [execOp, ho, hv, hn, binOp, eqGuard, Op.equal, Op.maxDepth, hrun, Result.andThen]
    · simp [execOp, ho, hv, hn, binOp, eqGuard, Op.equal, Op.maxDepth, hrun, Result.andThen]
  · have hrun := run_if_sn (P := P) 9999 te pv hu w'
    rcases hr with ⟨rfl, rfl⟩ | ⟨rfl, rfl⟩
    · simp [execOp, ho, hv, hn, binOp, eqGuard, Op.equal, Op.maxDepth, hrun, Result.andThen]
    · simp [execOp, ho, hv, hn, binOp, eqGuard, Op.equal, Op.maxDepth, hrun, Result.andThen]

/-- It answers some values that hold no memory, and leaves all that was there. -/
theorem ACall.ofBelowT {C : List AV → Prop}
    (h : ∀ (G : Gh) (w : World) (vs : List Value), RelM P G w M → Fix G w → vs.length = args.length → (∀ (j : Nat) x v, args[j]? = some x → vs[j]? = some v → RelV P G w x v) →
      Calls P f vs.toArray w fun e w' => ∃ cs us, C cs ∧ (∀ c ∈ cs, c.flat = true) ∧ e = .returned (.tuple (List.toArray us)) ∧ us.length = cs.length ∧ (∀ (j : Nat) c u, cs[j]? = some c → us[j]? = some u → RelV P G w c u) ∧ Below w.heap.size w w') :
    ACall P f args M (fun r' M' => (∃ cs, C cs ∧ r' = .tuple cs) ∧ M = M') := by
  intro G w vs hm hfx hlen hrel
  refine (h G w vs hm hfx hlen hrel).mono ?_
  rintro e w' ⟨cs, us, hC, hfl, rfl, hl, hr, hb⟩
  obtain ⟨kp, st⟩ := below_keep (G := G) hb hm.far
  refine ⟨.tuple cs, M, G, .tuple us.toArray, rfl, ⟨⟨cs, hC, rfl⟩, rfl⟩, rfl, ⟨us, rfl, hl, fun j c u h1 h2 => ?_⟩, ?_, kp⟩
  · have hc := hfl c (List.mem_of_getElem? h1)
    exact RelS.toO (p := fun _ => .res j) (((hr j c u h1 h2).stab st).toS hc) (.inl hc)
  · exact hm.move st hb.size (fun q b hq h1 h2 => ⟨h2, hb.block b h1, rfl⟩) (fun b hb' => hm.far b (Nat.le_trans hb.size hb')) rfl
end

/-- What strconv.Atoi answers: the number, and whether it is one. -/
def atoiO (s : List UInt8) : Option (Int × Bool) := if s.length ≤ 4294967280 then some (match Lib.atoiAll s with
  | .ok z => (z, true)
  | .range => (Lib.atoiSat s, false)
  | _ => (0, false)) else none
theorem atoiO_w {s : List UInt8} {r : Int × Bool} (h : atoiO s = some r) : FCall Tryz.prog 113 [.str s] [] (fun v outs => ∃ te pe, v = .tuple [zI r.1, .lit (bif r.2 then .nilIface else .iface te pe)] ∧ outs = []) := by
  unfold atoiO at h
  split at h
  · rename_i hl
    cases h
    intro base hnd
    refine ACall.mono (ACall.ofBelowT (C := fun cs => ∃ te pe, cs = [zI (match Lib.atoiAll s with | .ok z => (z, true) | .range => (Lib.atoiSat s, false) | _ => (0, false)).1, .lit (bif (match Lib.atoiAll s with | .ok z => (z, true) | .range => (Lib.atoiSat s, false) | _ => (0, false)).2 then .nilIface else .iface te pe)]) ?_) ?_
    · intro G w vs hm hfx hlen hrel
      obtain ⟨v, rfl, h1⟩ := arg1 hlen hrel
      have e1 := relV_str h1
      subst e1
      have fin : ∀ (z : Int) (u : Value) (w' : World), Below w.heap.size w w' → (∃ te pe, [AV.lit (.int .i64 z), AV.lit u] = [zI (match Lib.atoiAll s with | .ok z => (z, true) | .range => (Lib.atoiSat s, false) | _ => (0, false)).1, .lit (bif (match Lib.atoiAll s with | .ok z => (z, true) | .range => (Lib.atoiSat s, false) | _ => (0, false)).2 then .nilIface else .iface te pe)]) →
          ∃ cs us, (∃ te pe, cs = [zI (match Lib.atoiAll s with | .ok z => (z, true) | .range => (Lib.atoiSat s, false) | _ => (0, false)).1, .lit (bif (match Lib.atoiAll s with | .ok z => (z, true) | .range => (Lib.atoiSat s, false) | _ => (0, false)).2 then .nilIface else .iface te pe)]) ∧ (∀ c ∈ cs, c.flat = true) ∧ Ending.returned (.tuple #[.int .i64 z, u]) = .returned (.tuple (List.toArray us)) ∧ us.length = cs.length ∧ (∀ (j : Nat) c u, cs[j]? = some c → us[j]? = some u → RelV Tryz.prog G w c u) ∧ Below w.heap.size w w' := by
        intro z u w' hb he
        refine ⟨[.lit (.int .i64 z), .lit u], [_, _], he, by simp [AV.flat], rfl, rfl, fun j x u hx hu => ?_, hb⟩
        match j, hx, hu with
        | 0, hx, hu => cases hx; cases hu; exact .lit _
        | 1, hx, hu => cases hx; cases hu; exact .lit _
        | _ + 2, hx, hu => cases hx
      cases ha : Lib.atoiAll s with
      | ok z =>
        refine (Tryz.strconv_Atoi_ok ⟨s.toArray⟩ (by rw [bsize]; omega) z ha w).mono ?_
        rintro e w' ⟨rfl, hw⟩
        rw [ha] at fin
        refine fin _ _ _ ?_ ⟨0, .nilIface, rfl⟩
        rcases hw with rfl | ⟨t, rfl⟩
        · exact Below.refl _ _
        · exact Lib.bytesWorld_below _ _ _
      | range =>
        obtain ⟨ev, hv, hev⟩ := hfx.errs.2
        refine (Tryz.strconv_Atoi_range ⟨s.toArray⟩ (by rw [bsize]; omega) ha ev w hv hev).mono ?_
        rintro e w' ⟨N, rfl, _, _, hb⟩
        rw [ha] at fin
        exact fin _ _ _ hb ⟨_, _, rfl⟩
      | _ =>
        obtain ⟨ev, hv, hev⟩ := hfx.errs.1
        refine (Tryz.strconv_Atoi_syntax ⟨s.toArray⟩ (by rw [bsize]; omega) ha ev w hv hev).mono ?_
        rintro e w' ⟨N, rfl, _, _, hb⟩
        rw [ha] at fin
        exact fin _ _ _ hb ⟨_, _, rfl⟩
    · rintro r M' ⟨⟨cs, ⟨te, pe, rfl⟩, rfl⟩, rfl⟩
      exact ⟨[], ⟨te, pe, rfl, rfl⟩, rfl, hnd⟩
  · cases h
/-- An error held against nil. -/
theorem rErr {P : Program} {n : Nat} {e : Es} {o : Oper} {d : Nat} {C : Cnd} {t t' : Nat} {x : Operand} {op : BinOp} {b : Bool} {te : TypeId} {pe : Value} {ms : Array (String × TypeId)} (hu : P.underlying t = some (.interface ms)) (ho : o.op = .binOp op t x (.const .nilIface) t' := by rfl) (hx : evE e.fr C x = .lit (bif b then .nilIface else .iface te pe) := by rfl) (hop : op = .neq := by rfl) : Reader P n (e.st C) o d (zB (!b)) := by
  cases b with
  | true => exact Reader.ifNil ho hu (ev_st hx) (.inl ⟨rfl, rfl⟩) (.inr ⟨hop, rfl⟩)
  | false => exact Reader.ifNil ho hu (ev_st hx) (.inr ⟨⟨_, _, rfl⟩, rfl⟩) (.inr ⟨hop, rfl⟩)
end
section
open Go.RowKit

theorem f64bits (x : Nat) : ∀ w, (callFunc 55 #[.float .f64 x]).run Tryz.prog w = .ok (.value (.int .u64 x)) w := fun w => by kernel_rfl
theorem f64from (x : Int) : ∀ w, (callFunc 17 #[.int .u64 x]).run Tryz.prog w = .ok (.value (.float .f64 x.toNat)) w := fun w => by kernel_rfl
/-- The floor of a float's bits; none of a signalling one. -/
def floorO (x : Nat) : Option Nat := match FloatKind.f64.decode x with
  | .nan _ t => if FloatKind.f64.format.quiet t = t then some x else none
  | d => some (FloatKind.f64.encode (d.integral .down))
def floorS (x : Nat) : Sem Value := match FloatKind.f64.decode x with
  | .nan s t => if FloatKind.f64.format.quiet t = t then pure (.float .f64 x) else do
      let kept ← choose (.extern "math.Floor,Ceil,Trunc,RoundToEven.signallingNaN kept" 2)
      pure (.float .f64 (if kept == 1 then x else FloatKind.f64.encode (.nan s (FloatKind.f64.format.quiet t))))
  | d => pure (.float .f64 (FloatKind.f64.encode (d.integral .down)))
theorem f64floor {x r : Nat} (h : floorO x = some r) : ∀ w, (callFunc 67 #[.float .f64 x]).run Tryz.prog w = .ok (.value (.float .f64 r)) w := by
  intro w
  have e : (callFunc 67 #[.float .f64 x]).run Tryz.prog w = (floorS x >>= fun v => pure (.value v)).run Tryz.prog w := by kernel_rfl
  rw [e]
  unfold floorO at h
  unfold floorS
  cases hd : FloatKind.f64.decode x with
  | nan s t =>
    simp only [hd] at h ⊢
    split at h
    · rename_i hq
      cases h
      rw [if_pos hq]; rfl
    · cases h
  | _ => simp only [hd] at h ⊢; cases h; rfl
end
section
open Go.RowKit
theorem noEscape_run : ∀ (v : Value) (w : World), (callFunc 130 #[v]).run Tryz.prog w = .ok (.value v) w := fun _ _ => by kernel_rfl
set_option maxRecDepth 20000 in
theorem copyCheck_nil (M : Nat → Option (List AV)) (id : Nat) (hid : id % 10000 = 130) (c : AV) (hcs : c.scalar = true) (M' : Nat → Option (List AV)) (hM : M id = some [.lit (.pointer none), c]) (hM' : setM M id [.gptr id 0, c] = M')  : ACall Tryz.prog 119 [.gptr id 0] M (fun r M1 => r = .tuple [] ∧ M1 = M') := by
  refine ACall.of Tryz.func119 rfl (n := 20) rfl rfl rfl ?_
  refine zg ?_
  refine zM (.gptr id 0) ?_
  refine zr (znc (.gptr id 0)) ?_
  refine zr (zfG Tryz.underlying130 sizeOf_128) ?_
  refine zr (zlG (.lit (.pointer none)) Tryz.underlying128 sizeOf_128 hM) ?_
  refine zr (Reader.eqPtr (b := true) (xv := .lit (.pointer none)) (yv := .lit (.pointer none)) rfl Tryz.underlying128 sizeOf_130 (by decide) rfl rfl (by simp [ptrEq]) (.inl ⟨rfl, rfl⟩)) ?_
  refine zN ?_
  refine AWp.cond (b := true) rfl (fun hx => ?_) (fun hx => by cases hx)
  refine AWp.region ?_
  refine zM (.gptr id 0) ?_
  refine zM (.gptr id 0) ?_
  refine zr (Reader.toUnsafe rfl Tryz.underlying128 Tryz.underlying167 sizeOf_130 (by decide) rfl hM (Nat.le_of_ble_eq_true rfl)) ?_
  refine zr (Reader.same rfl rfl rfl noEscape_run rfl) ?_
  refine zr (Reader.fromUnsafe rfl Tryz.underlying167 Tryz.underlying128 sizeOf_130 rfl hM (by assumption) (by kernel_rfl)) ?_
  refine zr (znc (.gptr id 0)) ?_
  refine zr (zfG Tryz.underlying130 sizeOf_128) ?_
  refine AOps.storeG trivial rfl rfl rfl hM sizeOf_128 (.inl ⟨rfl, rfl⟩) rfl (v := .gptr id 0) rfl (all_flat rfl) rfl (Nat.le_of_ble_eq_true rfl) rfl ?_
  refine zN ?_
  exact ⟨.inr rfl, _, ResOf.none, ⟨rfl, hM'⟩⟩

set_option maxRecDepth 20000 in
theorem copyCheck_used (M : Nat → Option (List AV)) (id : Nat) (_hid : id % 10000 = 130) (c : AV) (hcs : c.scalar = true) (hM : M id = some [.gptr id 0, c])  : ACall Tryz.prog 119 [.gptr id 0] M (fun r M1 => r = .tuple [] ∧ M1 = M) := by
  refine ACall.of Tryz.func119 rfl (n := 20) rfl rfl rfl ?_
  refine zg ?_
  refine zM (.gptr id 0) ?_
  refine zr (znc (.gptr id 0)) ?_
  refine zr (zfG Tryz.underlying130 sizeOf_128) ?_
  refine zr (zlG (.gptr id 0) Tryz.underlying128 sizeOf_128 hM) ?_
  refine zr (Reader.eqPtr (b := false) (xv := .gptr id 0) (yv := .lit (.pointer none)) rfl Tryz.underlying128 sizeOf_130 (by decide) rfl rfl (by simp [ptrEq]) (.inl ⟨rfl, rfl⟩)) ?_
  refine zN ?_
  refine AWp.cond (b := false) rfl (fun hx => by cases hx) (fun hx => ?_)
  refine zg ?_
  refine zM (.gptr id 0) ?_
  refine zr (znc (.gptr id 0)) ?_
  refine zr (zfG Tryz.underlying130 sizeOf_128) ?_
  refine zr (zlG (.gptr id 0) Tryz.underlying128 sizeOf_128 hM) ?_
  refine zM (.gptr id 0) ?_
  refine zr (Reader.eqPtr (b := true) (xv := .gptr id 0) (yv := .gptr id 0) rfl Tryz.underlying128 sizeOf_130 (by decide) rfl rfl (by simp [ptrEq]) (.inr ⟨rfl, rfl⟩)) ?_
  refine zN ?_
  refine AWp.cond (b := false) rfl (fun hx => by cases hx) (fun hx => ?_)
  refine AWp.skip ?_
  exact ⟨.inr rfl, _, ResOf.none, ⟨rfl, rfl⟩⟩

theorem copyCheck_any (id : Nat) (hid : id % 10000 = 130) (p c : AV) (hcs : c.scalar = true) (hp : p = .lit (.pointer none) ∨ p = .gptr id 0) (M M' : Nat → Option (List AV)) (hM : M id = some [p, c]) (hM' : setM M id [.gptr id 0, c] = M') : ACall Tryz.prog 119 [.gptr id 0] M (fun r M1 => r = .tuple [] ∧ M1 = M') := by
  rcases hp with rfl | rfl
  · exact copyCheck_nil M id hid c hcs M' hM hM'
  · rw [setM_same hM] at hM'
    subst hM'
    exact copyCheck_used M id hid c hcs hM

set_option maxRecDepth 20000 in
theorem WriteByte_nil (M : Nat → Option (List AV)) (id : Nat) (hid : id % 10000 = 130) (ch : UInt8) (p : AV) (hp : p = .lit (.pointer none) ∨ p = .gptr id 0) (M' : Nat → Option (List AV)) (hM : M id = some [p, .lit (.slice none 0 0)]) (hM' : setM M id [.gptr id 0, .list true 5 (byteAVs (([] : List UInt8) ++ [ch]))] = M')  : ACall Tryz.prog 92 [.gptr id 0, .lit (.int .u8 (ch.toNat : Int))] M (fun r M1 => r = .lit .nilIface ∧ M1 = M') := by
  have hps : p.scalar = true := by rcases hp with rfl | rfl <;> rfl
  refine ACall.of Tryz.func92 rfl (n := 17) rfl rfl rfl ?_
  refine zg ?_
  refine zM (.lit .nilIface) ?_
  refine zN ?_
  refine zg ?_
  refine zM (.gptr id 0) ?_
  refine zc [.gptr id 0] Tryz.call119 (copyCheck_any id hid p (.lit (.slice none 0 0)) rfl hp M (setM M id [.gptr id 0, .lit (.slice none 0 0)]) hM rfl) ?_
  rintro _ _ ⟨rfl, rfl⟩
  refine zN ?_
  refine zg ?_
  refine zM (.gptr id 0) ?_
  refine zM (.gptr id 0) ?_
  refine zr (znc (.gptr id 0)) ?_
  refine zr (zfG Tryz.underlying130 sizeOf_33) ?_
  refine zr (zlG (.lit (.slice none 0 0)) Tryz.underlying33 sizeOf_33 setM_get) ?_
  refine zM (.lit (.int .u8 (ch.toNat : Int))) ?_
  refine zbS [] (byteAVs [ch]) Tryz.underlying33 Tryz.i5 ?_
  refine AOps.asList (r := 11) 5 rfl ?_
  refine zap (m1 := 0) (m2 := 1) 1 (byteAVs ([] : List UInt8)) (byteAVs [ch]) (byteAVs (([] : List UInt8) ++ [ch])) Tryz.underlying33 Tryz.underlying33 Tryz.i5 rfl rfl (by simp [byteAVs]) ?_
  refine zr (znc (.gptr id 0)) ?_
  refine zr (zfG Tryz.underlying130 sizeOf_33) ?_
  refine AOps.storeOwn trivial rfl rfl rfl setM_get sizeOf_33 rfl (Nat.le_of_ble_eq_true rfl) setM_setM ?_
  refine zN ?_
  refine zg ?_
  refine zM (.lit .nilIface) ?_
  refine zN ?_
  refine AWp.ret ?_
  exact ⟨.inl rfl, _, ResOf.one 4 (.lit .nilIface) rfl rfl, ⟨rfl, hM'⟩⟩

set_option maxRecDepth 20000 in
theorem WriteByte_list (M : Nat → Option (List AV)) (id : Nat) (hid : id % 10000 = 130) (l : List UInt8) (hl : l.length < 140737488355328) (ch : UInt8) (p : AV) (hp : p = .lit (.pointer none) ∨ p = .gptr id 0) (M' : Nat → Option (List AV)) (hM : M id = some [p, .list true 5 (byteAVs l)]) (hM' : setM M id [.gptr id 0, .list true 5 (byteAVs (l ++ [ch]))] = M')  : ACall Tryz.prog 92 [.gptr id 0, .lit (.int .u8 (ch.toNat : Int))] M (fun r M1 => r = .lit .nilIface ∧ M1 = M') := by
  have hps : p.scalar = true := by rcases hp with rfl | rfl <;> rfl
  refine ACall.of Tryz.func92 rfl (n := 17) rfl rfl rfl ?_
  refine zg ?_
  refine zM (.lit .nilIface) ?_
  refine zN ?_
  refine zg ?_
  refine zM (.gptr id 0) ?_
  refine zc [.gptr id 0] Tryz.call119 (copyCheck_any id hid p (.list true 5 (byteAVs l)) rfl hp M (setM M id [.gptr id 0, .list true 5 (byteAVs l)]) hM rfl) ?_
  rintro _ _ ⟨rfl, rfl⟩
  refine zN ?_
  refine zg ?_
  refine zM (.gptr id 0) ?_
  refine zM (.gptr id 0) ?_
  refine zr (znc (.gptr id 0)) ?_
  refine zr (zfG Tryz.underlying130 sizeOf_33) ?_
  refine AOps.grabG trivial rfl (by decide) rfl Tryz.underlying33 rfl setM_get rfl rfl setM_setM ?_
  refine zM (.lit (.int .u8 (ch.toNat : Int))) ?_
  refine zbS [] (byteAVs [ch]) Tryz.underlying33 Tryz.i5 ?_
  refine zap (m1 := l.length) (m2 := 1) 1 (byteAVs l) (byteAVs [ch]) (byteAVs (l ++ [ch])) Tryz.underlying33 Tryz.underlying33 Tryz.i5 (byteAVs_len _) rfl (by simp [byteAVs]) ?_
  refine zr (znc (.gptr id 0)) ?_
  refine zr (zfG Tryz.underlying130 sizeOf_33) ?_
  refine AOps.storeOwn trivial rfl rfl rfl setM_get sizeOf_33 rfl (Nat.le_of_ble_eq_true rfl) setM_setM ?_
  refine zN ?_
  refine zg ?_
  refine zM (.lit .nilIface) ?_
  refine zN ?_
  refine AWp.ret ?_
  exact ⟨.inl rfl, _, ResOf.one 4 (.lit .nilIface) rfl rfl, ⟨rfl, hM'⟩⟩

set_option maxRecDepth 20000 in
theorem WriteString_nil (M : Nat → Option (List AV)) (id : Nat) (hid : id % 10000 = 130) (t : List UInt8) (hl : t.length ≤ 140737488355328) (p : AV) (hp : p = .lit (.pointer none) ∨ p = .gptr id 0) (M' : Nat → Option (List AV)) (hM : M id = some [p, .lit (.slice none 0 0)]) (hM' : setM M id [.gptr id 0, .list true 5 (byteAVs (([] : List UInt8) ++ t))] = M')  : ACall Tryz.prog 93 [.gptr id 0, .str t] M (fun r M1 => r = .tuple [zI t.length, .lit .nilIface] ∧ M1 = M') := by
  have hps : p.scalar = true := by rcases hp with rfl | rfl <;> rfl
  refine ACall.of Tryz.func93 rfl (n := 19) rfl rfl rfl ?_
  refine zg ?_
  refine zM (zI 0) ?_
  refine zM (.lit .nilIface) ?_
  refine zN ?_
  refine zg ?_
  refine zM (.gptr id 0) ?_
  refine zc [.gptr id 0] Tryz.call119 (copyCheck_any id hid p (.lit (.slice none 0 0)) rfl hp M (setM M id [.gptr id 0, .lit (.slice none 0 0)]) hM rfl) ?_
  rintro _ _ ⟨rfl, rfl⟩
  refine zN ?_
  refine zg ?_
  refine zM (.gptr id 0) ?_
  refine zM (.gptr id 0) ?_
  refine zr (znc (.gptr id 0)) ?_
  refine zr (zfG Tryz.underlying130 sizeOf_33) ?_
  refine zr (zlG (.lit (.slice none 0 0)) Tryz.underlying33 sizeOf_33 setM_get) ?_
  refine zM (.str t) ?_
  refine AOps.asList (r := 12) 5 rfl ?_
  refine AOps.appS (bytes := 1) trivial rfl (by decide) (by decide) rfl rfl rfl rfl Tryz.underlying33 Tryz.underlying9 Tryz.i5 rfl rfl rfl rfl (xs := (byteAVs ([] : List UInt8))) (l := t) (zs := (byteAVs (([] : List UInt8) ++ t))) rfl rfl (m1 := 0) (m2 := t.length) rfl rfl (by first | omega | (unfold maxLen; omega)) (by omega) (by simp [byteAVs]) ?_
  refine zr (znc (.gptr id 0)) ?_
  refine zr (zfG Tryz.underlying130 sizeOf_33) ?_
  refine AOps.storeOwn trivial rfl rfl rfl setM_get sizeOf_33 rfl (Nat.le_of_ble_eq_true rfl) setM_setM ?_
  refine zN ?_
  refine zg ?_
  refine zM (.str t) ?_
  refine zr (zS t t.length Tryz.underlying9) ?_
  refine zM (zI (t.length : Int)) ?_
  refine zM (.lit .nilIface) ?_
  refine zN ?_
  refine AWp.ret ?_
  exact ⟨.inl rfl, _, ResOf.two 4 5 (zI (t.length : Int)) (.lit .nilIface) rfl rfl (.inl rfl) (.inl rfl) (by decide), ⟨rfl, hM'⟩⟩

set_option maxRecDepth 20000 in
theorem WriteString_list (M : Nat → Option (List AV)) (id : Nat) (hid : id % 10000 = 130) (l t : List UInt8) (hl : l.length + t.length ≤ 140737488355328) (p : AV) (hp : p = .lit (.pointer none) ∨ p = .gptr id 0) (M' : Nat → Option (List AV)) (hM : M id = some [p, .list true 5 (byteAVs l)]) (hM' : setM M id [.gptr id 0, .list true 5 (byteAVs (l ++ t))] = M')  : ACall Tryz.prog 93 [.gptr id 0, .str t] M (fun r M1 => r = .tuple [zI t.length, .lit .nilIface] ∧ M1 = M') := by
  have hps : p.scalar = true := by rcases hp with rfl | rfl <;> rfl
  refine ACall.of Tryz.func93 rfl (n := 19) rfl rfl rfl ?_
  refine zg ?_
  refine zM (zI 0) ?_
  refine zM (.lit .nilIface) ?_
  refine zN ?_
  refine zg ?_
  refine zM (.gptr id 0) ?_
  refine zc [.gptr id 0] Tryz.call119 (copyCheck_any id hid p (.list true 5 (byteAVs l)) rfl hp M (setM M id [.gptr id 0, .list true 5 (byteAVs l)]) hM rfl) ?_
  rintro _ _ ⟨rfl, rfl⟩
  refine zN ?_
  refine zg ?_
  refine zM (.gptr id 0) ?_
  refine zM (.gptr id 0) ?_
  refine zr (znc (.gptr id 0)) ?_
  refine zr (zfG Tryz.underlying130 sizeOf_33) ?_
  refine AOps.grabG trivial rfl (by decide) rfl Tryz.underlying33 rfl setM_get rfl rfl setM_setM ?_
  refine zM (.str t) ?_
  refine AOps.appS (bytes := 1) trivial rfl (by decide) (by decide) rfl rfl rfl rfl Tryz.underlying33 Tryz.underlying9 Tryz.i5 rfl rfl rfl rfl (xs := (byteAVs l)) (l := t) (zs := (byteAVs (l ++ t))) rfl rfl (m1 := l.length) (m2 := t.length) (byteAVs_len _) rfl (by first | omega | (unfold maxLen; omega)) (by omega) (by simp [byteAVs]) ?_
  refine zr (znc (.gptr id 0)) ?_
  refine zr (zfG Tryz.underlying130 sizeOf_33) ?_
  refine AOps.storeOwn trivial rfl rfl rfl setM_get sizeOf_33 rfl (Nat.le_of_ble_eq_true rfl) setM_setM ?_
  refine zN ?_
  refine zg ?_
  refine zM (.str t) ?_
  refine zr (zS t t.length Tryz.underlying9) ?_
  refine zM (zI (t.length : Int)) ?_
  refine zM (.lit .nilIface) ?_
  refine zN ?_
  refine AWp.ret ?_
  exact ⟨.inl rfl, _, ResOf.two 4 5 (zI (t.length : Int)) (.lit .nilIface) rfl rfl (.inl rfl) (.inl rfl) (by decide), ⟨rfl, hM'⟩⟩

/-- What a builder's buffer reads as. -/
def bufAV (l : List UInt8) : AV := if l = [] then .lit (.slice none 0 0) else .list true 5 (byteAVs l)
theorem bufAV_ne {l : List UInt8} (h : l ≠ []) : bufAV l = .list true 5 (byteAVs l) := if_neg h
theorem WriteByte_any (id : Nat) (hid : id % 10000 = 130) (l : List UInt8) (hl : l.length < 140737488355328) (ch : UInt8) (p : AV) (hp : p = .lit (.pointer none) ∨ p = .gptr id 0) (M M' : Nat → Option (List AV)) (hM : M id = some [p, bufAV l]) (hM' : setM M id [.gptr id 0, bufAV (l ++ [ch])] = M') :
    ACall Tryz.prog 92 [.gptr id 0, .lit (.int .u8 (ch.toNat : Int))] M (fun r M1 => r = .lit .nilIface ∧ M1 = M') := by
  rw [bufAV_ne (by simp)] at hM'
  by_cases h : l = []
  · subst h
    exact WriteByte_nil M id hid ch p hp M' hM hM'
  · rw [bufAV_ne h] at hM
    exact WriteByte_list M id hid l hl ch p hp M' hM hM'
theorem WriteString_any (id : Nat) (hid : id % 10000 = 130) (l t : List UInt8) (hl : l.length + t.length ≤ 140737488355328) (hne : l ++ t ≠ []) (p : AV) (hp : p = .lit (.pointer none) ∨ p = .gptr id 0) (M M' : Nat → Option (List AV)) (hM : M id = some [p, bufAV l]) (hM' : setM M id [.gptr id 0, bufAV (l ++ t)] = M') :
    ACall Tryz.prog 93 [.gptr id 0, .str t] M (fun r M1 => r = .tuple [zI t.length, .lit .nilIface] ∧ M1 = M') := by
  rw [bufAV_ne hne] at hM'
  by_cases h : l = []
  · subst h
    exact WriteString_nil M id hid t (by simpa using hl) p hp M' hM hM'
  · rw [bufAV_ne h] at hM
    exact WriteString_list M id hid l t hl p hp M' hM hM'
end
section
open Go.RowKit

set_option maxHeartbeats 2000000 in
set_option maxRecDepth 100000 in
theorem String_row (b g cap : Nat) (pv : Value) (cur : Array Value) (l : List UInt8) (w : World) (hbk : w.heap[b]? = some (.cells #[pv, .slice (some ⟨g, 0, none⟩) l.length cap] 130 (0, 0)))
    (hg : w.heap[g]? = some (.cells cur 5 (0, 0))) (h0 : l ≠ []) (hn : l.length ≤ cur.size) (hcap : cap ≠ 0) (h63 : l.length ≤ 9223372036854775807) (hc : ∀ j x, l[j]? = some x → w.cell? ⟨g, j, none⟩ = some (.int .u8 x.toNat)) :
    Calls Tryz.prog 94 #[.pointer (some ⟨b, 0, none⟩)] w fun e w' => e = .returned (.string ⟨l.toArray⟩) ∧ w' = w.drew.freeze ⟨g, 0, none⟩ l.length := by
  have c1 : w.drew.cell? ⟨b, 1, none⟩ = some (.slice (some ⟨g, 0, none⟩) l.length cap) := by
    have : w.drew.heap[b]? = some (.cells #[pv, .slice (some ⟨g, 0, none⟩) l.length cap] 130 (0, 0)) := hbk
    rw [Lib.cell_of_heap this]; rfl
  have hSD : (Builtin.unsafeSliceData_ #[33] 159 #[.slice (some ⟨g, 0, none⟩) l.length cap]).run Tryz.prog w.drew = .ok (.pointer (some ⟨g, 0, none⟩)) w.drew :=
    Lib.run_unsafeSliceData_row _ _ _ _ _ _ hcap
  have hUS : (Builtin.unsafeString_ #[159, 3] 9 #[.pointer (some ⟨g, 0, none⟩), .int .i64 l.length]).run Tryz.prog w.drew = .ok (.string ⟨l.toArray⟩) (w.drew.freeze ⟨g, 0, none⟩ l.length) := by
    refine Lib.run_unsafeString_row w.drew _ _ _ 5 Tryz.underlying159 (by kernel_rfl) g cur.size (by have hg' : w.drew.heap[g]? = some (.cells cur 5 (0, 0)) := hg; simp [World.shape?, hg']) l h0 hn h63 ?_
    intro j x hx
    rw [Addr.add_mid, Nat.zero_add]
    exact hc j x hx
  have mixed : Tryz.prog.follows .mixedOrders = true := by kernel_rfl
  go_enter Tryz.func94, Tryz.ntmps94
  go_wp2
  go_region_o
  all_goals (go_wp2; go_ret; exact ⟨rfl, rfl⟩)

set_option maxHeartbeats 2000000 in
set_option maxRecDepth 100000 in
theorem String_nil (b : Nat) (pv : Value) (w : World) (hbk : w.heap[b]? = some (.cells #[pv, .slice none 0 0] 130 (0, 0))) :
    Calls Tryz.prog 94 #[.pointer (some ⟨b, 0, none⟩)] w fun e w' => e = .returned (.string ⟨#[]⟩) ∧ w' = w.drew := by
  have c1 : w.drew.cell? ⟨b, 1, none⟩ = some (.slice none 0 0) := by
    have : w.drew.heap[b]? = some (.cells #[pv, .slice none 0 0] 130 (0, 0)) := hbk
    rw [Lib.cell_of_heap this]; rfl
  have hSD : (Builtin.unsafeSliceData_ #[33] 159 #[.slice none 0 0]).run Tryz.prog w.drew = .ok (.pointer none) w.drew := rfl
  have hUS : ∀ W : World, (Builtin.unsafeString_ #[159, 3] 9 #[.pointer none, .int .i64 0]).run Tryz.prog W = .ok (.string .empty) W := fun W => Lib.run_unsafeString_none W _ _ _ none
  have mixed : Tryz.prog.follows .mixedOrders = true := by kernel_rfl
  go_enter Tryz.func94, Tryz.ntmps94
  go_wp2
  go_region_o
  all_goals (go_wp2; go_ret; exact ⟨rfl, rfl⟩)
end
section
open Go.RowKit

/-- An object less. -/
def delM (M : Nat → Option (List AV)) (id : Nat) : Nat → Option (List AV) := fun i => if i = id then none else M i
theorem delM_ne {M : Nat → Option (List AV)} {id i : Nat} (h : i ≠ id) : delM M id i = M i := by simp [delM, h]
theorem delM_set {M : Nat → Option (List AV)} {id : Nat} {cs : List AV} (h : M id = none) : delM (setM M id cs) id = M := by
  funext i; simp only [delM, setM]
  by_cases e : i = id
  · subst e; simp [h]
  · simp [e]
/-- Nobody owns what the object owned. -/
def Gh.forget (G : Gh) (id : Nat) : Gh := { G with owner := fun b => match G.owner b with | some (.mb i) => if i = id then none else some (.mb i) | some (.mc i j) => if i = id then none else some (.mc i j) | q => q }
theorem forget_own {G : Gh} {id b : Nat} {q : Pos} (h : G.owner b = some q) (h1 : q ≠ .mb id) (h2 : ∀ j, q ≠ .mc id j) : (G.forget id).owner b = some q := by
  show (match G.owner b with | some (.mb i) => if i = id then none else some (Pos.mb i) | some (.mc i j) => if i = id then none else some (.mc i j) | q => q) = some q
  rw [h]
  cases q with
  | mb i => simp only; rw [if_neg (fun e => h1 (by rw [e]))]
  | mc i j => simp only; rw [if_neg (fun e => h2 j (by rw [e]))]
  | _ => rfl
theorem forget_none {G : Gh} {id b : Nat} (h : G.owner b = none) : (G.forget id).owner b = none := by
  show (match G.owner b with | some (.mb i) => if i = id then none else some (Pos.mb i) | some (.mc i j) => if i = id then none else some (.mc i j) | q => q) = none
  rw [h]

theorem String_any (id : Nat) (hid : id % 10000 = 130) (l : List UInt8) (hl : l.length ≤ 140737488355328) (p : AV) (M M' : Nat → Option (List AV)) (hM : M id = some [p, bufAV l]) (hM' : delM M id = M') :
    ACall Tryz.prog 94 [.gptr id 0] M (fun r M1 => r = .str l ∧ M1 = M') := by
  subst hM'
  intro G w vs hm hfx hlen hrel
  obtain ⟨v, rfl, hv⟩ := arg1 hlen hrel
  cases hv with
  | gptr _ _ b hb =>
  obtain ⟨b', hb', hX⟩ := hm.obj id _ hM
  rcases hX with ⟨hH, arr0, hty⟩ | ⟨S, e, _⟩ | e
  rotate_left
  · simp [mapA] at e
  · cases e
  rw [hb] at hb'
  cases hb'
  obtain ⟨arr, T, hh, hsz, ho1, ht1, hsc, hrr⟩ := hH
  rw [hh] at hty
  injection hty with hty
  injection hty with _ hT _
  rw [hid] at hT
  subst hT
  obtain ⟨pv, sv, rfl⟩ : ∃ pv sv, arr = #[pv, sv] := by
    obtain ⟨la⟩ := arr
    match la, hsz with
    | [x, y], _ => exact ⟨x, y, rfl⟩
  have hs1 := hrr 1 (bufAV l) sv rfl rfl
  -- what is to be shown of whatever world behind that keeps all but the row
  have key : ∀ (w' : World) (g : Nat), (∀ a, w'.cell? a = w.cell? a) → w'.heap.size = w.heap.size → w'.os = w.os → w'.tape = w.tape → w'.output = w.output → (∀ b, (G.owner b = none ∨ ∃ q, G.owner b = some q ∧ q ≠ .mb id ∧ ∀ j, q ≠ .mc id j) → w'.heap[b]? = w.heap[b]?) →
      ∃ r M1 G' u, Ending.returned (.string ⟨l.toArray⟩) = .returned u ∧ (r = .str l ∧ M1 = delM M id) ∧ r.isL = false ∧ RelS Tryz.prog G' w' .res r u ∧ RelM Tryz.prog G' w' M1 ∧ Keep G w G' w' := by
    intro w' g hcell hz hos htp hout hoth
    have st : Stab G w (G.forget id) w' := ⟨fun _ => Nat.le_refl _, fun b o _ => hcell _, fun _ _ h => h⟩
    refine ⟨_, _, G.forget id, _, rfl, ⟨rfl, rfl⟩, rfl, RelV.str _, ⟨fun i cs hi => ?_, fun b hb => ?_, hm.fin⟩, ⟨hos, htp, hout, by omega, fun b hb hn => ⟨forget_none hn, hoth b (.inl hn), rfl⟩, st⟩⟩
    · by_cases e : i = id
      · subst e; simp [delM] at hi
      · rw [delM_ne e] at hi
        obtain ⟨b2, hb2, hh2⟩ := hm.obj i cs hi
        have n1 : (Pos.mb i) ≠ .mb id := fun h => e (by injection h)
        refine ⟨b2, hb2, hh2.move st (by omega) (fun _ how => ⟨hoth b2 (.inr ⟨_, how, n1, fun j h => by cases h⟩), (forget_own how n1 (fun j h => by cases h)).trans how.symm, rfl⟩) (fun c b h1 h2 => ?_)⟩
        have n2 : ∀ j, (Pos.mc i c) ≠ .mc id j := fun j h => e (by injection h)
        exact ⟨forget_own h2 (fun h => by cases h) n2, hoth b (.inr ⟨_, h2, (fun h => by cases h), n2⟩), rfl⟩
    · exact ⟨(hm.far b (by omega)).1, forget_none (hm.far b (by omega)).2⟩
  have hd : ∀ B : Nat, Below B w w.drew := fun B => Below.drew (Below.refl B w)
  by_cases h0 : l = []
  · subst h0
    have hs : sv = .slice none 0 0 := relO_lit hs1
    subst hs
    refine (String_nil b pv w hh).mono ?_
    rintro e w' ⟨rfl, rfl⟩
    exact key w.drew 0 (fun _ => rfl) rfl rfl (hd 0).tape rfl (fun _ _ => rfl)
  · rw [bufAV_ne h0] at hs1
    rcases hs1 with ⟨size, us, hsE, hle, hsc2, hown, hr, hbk⟩ | ⟨he, _⟩
    · obtain ⟨hul, hown2⟩ := hown
      have hsize : size = 1 := by
        have := (sizeOf_5 : SizeOf _ _ _)
        unfold SizeOf at hsE this
        rw [hsE] at this
        simpa using this
      subst hsize
      rw [byteAVs_len] at hul hown2
      have hl0 : l.length ≠ 0 := by simpa using h0
      rcases hown2 with ⟨_, hz⟩ | ⟨g, cap, cur, rfl, _, hg, hcap, hcm, hcs, htk⟩
      · exact absurd hz hl0
      · obtain ⟨hb1, hb2, hb3⟩ := hbk g rfl
        have hcell : ∀ j x, l[j]? = some x → w.cell? ⟨g, j, none⟩ = some (.int .u8 x.toNat) := by
          intro j x hx
          have hjl := (List.getElem?_eq_some_iff.1 hx).1
          have hav : ((byteAVs l).flatMap AV.cells)[j]? = some (.lit (.int .u8 x.toNat)) := by rw [byteAVs_flat, byteAVs_get, hx]; rfl
          have hju : j < us.length := by omega
          have e1 := relV_lit (hr j _ us[j] hav (List.getElem?_eq_getElem hju))
          have e2 : cur.toList[j]? = some us[j] := by
            have : (cur.toList.take (l.length * 1))[j]? = some us[j] := by rw [htk]; exact List.getElem?_eq_getElem hju
            rwa [List.getElem?_take_of_lt (by omega)] at this
          rw [Lib.cell_of_heap hg, ← e1]
          simpa using e2
        refine (String_row b g cap pv cur l w hh hg h0 (by omega) (by omega) (by omega) hcell).mono ?_
        rintro e w' ⟨rfl, rfl⟩
        refine key _ g (fun a => by rw [cell_freeze]; rfl) (by rw [size_freeze]; rfl) ?_ ?_ ?_ (fun b hb => ?_)
        · unfold World.freeze; split <;> rfl
        · unfold World.freeze; split <;> exact (hd 0).tape
        · unfold World.freeze; split <;> rfl
        · rw [heap_freeze (fun e => ?_)]
          · rfl
          · subst e
            rcases hb with hb | ⟨q, hq, _, h2⟩
            · rw [hb2] at hb; cases hb
            · rw [hb2] at hq; cases hq; exact h2 1 rfl
    · exact absurd (by simpa [byteAVs] using he) h0
end
section
open Go.RowKit

/-- The builder's own mark: none, or itself. -/
def bldP (o : Nat) (u : Bool) : AV := bif u then .gptr o 0 else .lit (.pointer none)
theorem bldP_or (o : Nat) (u : Bool) : bldP o u = .lit (.pointer none) ∨ bldP o u = .gptr o 0 := by
  cases u
  · exact .inl rfl
  · exact .inr rfl
def wrO (l t : List UInt8) : Option (List UInt8) := if l ++ t = [] then none else appO l t
theorem wrO_ok {l t r : List UInt8} (h : wrO l t = some r) : l ++ t ≠ [] ∧ l.length + t.length ≤ lim ∧ r = l ++ t := by
  unfold wrO at h
  split at h
  · cases h
  · exact ⟨‹_›, appO_ok h⟩
theorem lim_le {n : Nat} (h : n ≤ lim) : n < 140737488355328 := by
  unfold lim at h; omega
theorem ndO_one {i : Nat} {c c' : List AV} {base : Nat → Option (List AV)} (h : ndO [(i, c)] base) : ndO [(i, c')] base := h
theorem bldByte_w {i : Nat} {u : Bool} {c : UInt8} {l r : List UInt8} (hid : i % 10000 = 130) (h : wrO l [c] = some r) :
    FCall Tryz.prog 92 [.gptr i 0, zU8 c] [(i, [bldP i u, bufAV l])] fun v outs => v = .lit .nilIface ∧ outs = [(i, [bldP i true, bufAV r])] := by
  obtain ⟨_, h1, rfl⟩ := wrO_ok h
  intro base hnd
  refine (WriteByte_any i hid l (by have := lim_le h1; simp at this; omega) c (bldP i u) (bldP_or i u) _ _ setM_get rfl).mono ?_
  rintro r M ⟨rfl, rfl⟩
  exact ⟨_, ⟨rfl, rfl⟩, setM_setM, ndO_one hnd⟩
theorem bldStr_w {i : Nat} {u : Bool} {l t r : List UInt8} (hid : i % 10000 = 130) (h : wrO l t = some r) :
    FCall Tryz.prog 93 [.gptr i 0, .str t] [(i, [bldP i u, bufAV l])] fun v outs => v = .tuple [zI t.length, .lit .nilIface] ∧ outs = [(i, [bldP i true, bufAV r])] := by
  obtain ⟨h0, h1, rfl⟩ := wrO_ok h
  intro base hnd
  refine (WriteString_any i hid l t (Nat.le_of_lt (lim_le h1)) h0 (bldP i u) (bldP_or i u) _ _ setM_get rfl).mono ?_
  rintro r M ⟨rfl, rfl⟩
  exact ⟨_, ⟨rfl, rfl⟩, setM_setM, ndO_one hnd⟩
theorem bldOut_w {i : Nat} {u : Bool} {l r : List UInt8} (hid : i % 10000 = 130) (h : bytesO l = some r) :
    FCall Tryz.prog 94 [.gptr i 0] [(i, [bldP i u, bufAV l])] fun v outs => v = .str r ∧ outs = [] := by
  obtain ⟨h1, rfl⟩ := bytesO_ok h
  intro base hnd
  refine (String_any i hid r (Nat.le_of_lt (lim_le h1)) (bldP i u) _ base setM_get (delM_set (hnd.2 i (by simp)))).mono ?_
  rintro r M ⟨rfl, rfl⟩
  exact ⟨[], ⟨rfl, rfl⟩, rfl, List.nodup_nil, fun i hi => by cases hi⟩
end
section
open Go.RowKit

section
variable {P : Program} {n : Nat} {e : Es} {l : List Oper} {QE : Exit → Es → Prop}
theorem nth_set_ne {α : Type} {l : List α} {i k : Nat} {x y : α} (h : (l.set i x)[k]? = some y) (hne : i ≠ k) : l[k]? = some y := by
  rw [List.getElem?_set] at h
  rw [if_neg hne] at h; exact h
theorem nth_set_eq {α : Type} {l : List α} {i : Nat} {x y : α} (h : (l.set i x)[i]? = some y) : y = x := by
  rw [List.getElem?_set] at h
  rw [if_pos rfl] at h
  split at h
  · exact (Option.some.inj h).symm
  · cases h
/-- The state, its object's list looked at as the slice that it is; and the way back, to a slot. -/
theorem RelSt.pinS {s : St} {a : Act} {w : World} {G : Gh} {E : TypeId} {id j : Nat} {cells xs : List AV} (hr : RelSt P G n s a w) (hfx : Fix G w) (hc : s.mem id = some cells) (hj : cells[j]? = some (.list true E xs)) (hall : cells.all AV.scalar = true) :
    ∃ o m c G1, RelSt P G1 n { s with mem := setM s.mem id (cells.set j (.lit (.slice o m c))) } a w ∧ Fix G1 w ∧
      ∀ (G' : Gh) (w' : World) (s' : St) (a' : Act) (d : Nat) (cells' : List AV), RelSt P G' n s' a' w' → Keep G1 w G' w' → s'.mem id = some cells' → cells'[j]? = some (.lit (.slice o m c)) → cells'.all AV.scalar = true → s'.get d = .lit (.slice o m c) →
        ∃ G2, RelSt P G2 n ⟨(d, .list true E xs) :: s'.fr, s'.loc, setM s'.mem id (cells'.set j (.list false E xs))⟩ a' w' ∧ Keep G w G2 w' := by
  obtain ⟨b0, hb0, hX⟩ := hr.mem.obj id cells hc
  obtain ⟨⟨arr, T, h1, h2, h3, h4, h5, h6⟩, harr⟩ := hX.cells hall (by intro e; rw [e] at hj; simp at hj)
  have hjl := (List.getElem?_eq_some_iff.1 hj).1
  obtain ⟨v, hv⟩ : ∃ v, arr[j]? = some v := ⟨_, Array.getElem?_eq_getElem (by omega)⟩
  have hO := h6 j _ v hj hv
  obtain ⟨B, o, m, c, rfl, hB, hback⟩ : ∃ (B : Option Nat) (o : Option Addr) (m c : Nat), v = .slice o m c ∧ (∀ b, B = some b → b < w.heap.size ∧ G.owner b = some (.mc id j)) ∧
      ∀ (G' : Gh) (w' : World) (p : Pos), Stab G w G' w' → w.heap.size ≤ w'.heap.size → (∀ b, B = some b → G'.owner b = some p ∧ w'.heap[b]? = w.heap[b]? ∧ G'.tip b = G.tip b) → RelO P G' w' p (.list true E xs) v := by
    rcases hO with ⟨size, us, a1, a2, a3, a4, a5, a6⟩ | ⟨rfl, e⟩
    · obtain ⟨o, m, c, rfl⟩ : ∃ o m c, v = .slice o m c := by
        rcases a4.2 with ⟨e, _⟩ | ⟨g, cap, cur, e, _⟩
        · exact ⟨_, _, _, e⟩
        · exact ⟨_, _, _, e⟩
      refine ⟨Value.ownBlock (.slice o m c), o, m, c, rfl, fun b hb => ⟨(a6 b hb).1, (a6 b hb).2.1⟩, fun G' w' p st hz hk => ?_⟩
      exact .inl ⟨size, us, a1, a2, a3, ownsRow_same a4 (fun b e => (hk b e).2.1), fun j c u x1 x2 => (a5 j c u x1 x2).stab st, fun b e => ⟨Nat.lt_of_lt_of_le (a6 b e).1 hz, (hk b e).1, (hk b e).2.2.trans (a6 b e).2.2⟩⟩
    · obtain ⟨o, m, c, rfl⟩ : ∃ o m c, v = .slice o m c := by
        rcases e with e | ⟨b, off, size, _, e⟩
        · exact ⟨_, _, _, e⟩
        · exact ⟨_, _, _, e⟩
      exact ⟨none, o, m, c, rfl, fun b hb => (by cases hb), fun G' w' p _ _ _ => .inr ⟨rfl, e⟩⟩
  have st1 : Stab G w (G.lay B none) w := ⟨fun _ => Nat.le_refl _, fun _ _ _ => rfl, fun _ _ h => h⟩
  have hne0 : B ≠ some b0 := fun e => by have := (hB b0 e).2; rw [h3] at this; cases this
  have hXpin : HoldsX P (G.lay B none) w ((G.mb id).getD 0) id (cells.set j (.lit (.slice o m c))) := by
    rw [hb0]
    refine .inl ⟨⟨arr, T, h1, by simpa using h2, (lay_ne hne0).trans h3, h4, fun x hx => ?_, fun k x u hk hu => ?_⟩, harr⟩
    · rcases List.mem_or_eq_of_mem_set hx with hx | rfl
      · exact h5 x hx
      · rfl
    · by_cases ejk : j = k
      · subst ejk
        have := nth_set_eq hk
        subst this
        rw [hv] at hu
        cases hu
        exact RelV.lit _
      · exact (h6 k x u (nth_set_ne hk ejk) hu).move st1 (Nat.le_refl _) (fun b _ hb2 => ⟨(lay_ne (fun eb => by
          have := (hB b eb).2
          rw [this] at hb2
          injection hb2 with hb2
          injection hb2 with _ hb2
          exact ejk hb2)).trans hb2, rfl, rfl⟩)
  have hr1 := hr.lay B none id j (fun b e => ⟨(hB b e).1, .inr (hB b e).2⟩) hXpin (by rw [hb0]; rfl)
  have hfx1 : Fix (G.lay B none) w := by
    obtain ⟨F, f1, f2⟩ := hfx
    refine ⟨F, fun b oo e => ⟨(f1 b oo e).1, (f1 b oo e).2.1, ?_⟩, f2⟩
    have := (f1 b oo e).2.2
    unfold Gh.lay
    simp only
    split
    · rfl
    · exact this
  refine ⟨o, m, c, G.lay B none, hr1, hfx1, ?_⟩
  intro G' w' s' a' d cells' hr' hk' hc' hj' hall' hd
  have hfree : ∀ b, B = some b → G'.owner b = none ∧ w'.heap[b]? = w.heap[b]? ∧ G'.tip b = G.tip b := fun b e => hk'.free b (hB b e).1 (lay_eq e)
  have st2 : Stab G w (G'.lay B (some (.slot d 0))) w' := ⟨fun b => hk'.stab.tip b, fun b oo hoo => hk'.stab.cell b oo hoo, fun i b e => hk'.stab.mb i b e⟩
  obtain ⟨b1, hb1, hX1⟩ := hr'.mem.obj id cells' hc'
  obtain ⟨⟨arr', T', k1, k2, k3, k4, k5, k6⟩, karr⟩ := hX1.cells hall' (by intro e; rw [e] at hj'; simp at hj')
  have hne1 : B ≠ some b1 := fun e => by rw [(hfree b1 e).1] at k3; cases k3
  have stl : Stab G' w' (G'.lay B (some (.slot d 0))) w' := ⟨fun _ => Nat.le_refl _, fun _ _ _ => rfl, fun _ _ h => h⟩
  have hown : RelO P (G'.lay B (some (.slot d 0))) w' (.slot d 0) (.list true E xs) (.slice o m c) := hback _ w' _ st2 hk'.size fun b e => ⟨lay_eq e, (hfree b e).2.1, (hfree b e).2.2⟩
  have hXb : HoldsX P (G'.lay B (some (.slot d 0))) w' ((G'.mb id).getD 0) id (cells'.set j (.list false E xs)) := by
    rw [hb1]
    refine .inl ⟨⟨arr', T', k1, by simpa using k2, (lay_ne hne1).trans k3, k4, fun x hx => ?_, fun k x u hk hu => ?_⟩, karr⟩
    · rcases List.mem_or_eq_of_mem_set hx with hx | rfl
      · exact k5 x hx
      · rfl
    · by_cases ejk : j = k
      · subst ejk
        have := nth_set_eq hk
        subst this
        have hu2 : u = .slice o m c := by
          have h9 : RelV P G' w' (.lit (.slice o m c)) u := k6 j _ u hj' hu
          cases h9; rfl
        subst hu2
        exact hown.un rfl
      · exact (k6 k x u (nth_set_ne hk ejk) hu).move stl (Nat.le_refl _) (fun b _ hb2 => ⟨(lay_ne (fun eb => by rw [(hfree b eb).1] at hb2; cases hb2)).trans hb2, rfl, rfl⟩)
  have hr2 := hr'.lay B (some (.slot d 0)) id j (fun b e => ⟨Nat.lt_of_lt_of_le (hB b e).1 hk'.size, .inl (hfree b e).1⟩) hXb (by rw [hb1]; rfl)
  refine ⟨G'.lay B (some (.slot d 0)), ⟨hr2.size, hr2.defers, fun i => ?_, hr2.loc, hr2.mem⟩, ⟨hk'.os, hk'.tape, hk'.output, hk'.size, fun b hb hn => ?_, st2⟩⟩
  · show RelS P _ w' (.slot i) (look .any ((d, .list true E xs) :: s'.fr) i) _
    simp only [look]
    split
    · rename_i e
      subst e
      have h8 := hr'.slot d
      rw [hd] at h8
      have h9 : RelV P G' w' (.lit (.slice o m c)) (a'.tmps.getD d undef) := h8
      generalize a'.tmps.getD d undef = u at h9 ⊢
      cases h9
      exact hown
    · exact hr2.slot i
  · have hnb : B ≠ some b := fun e => by rw [(hB b e).2] at hn; cases hn
    obtain ⟨f1, f2, f3⟩ := hk'.free b hb ((lay_ne hnb).trans hn)
    exact ⟨(lay_ne hnb).trans f1, f2, f3⟩
/-- .. of evaluated states. -/
theorem RelC.pinE {G : Gh} {a : Act} {w : World} {E : TypeId} {idO jo c : Nat} {cells xs : List AV} (hr : RelC P G n e a w) (hfx : Fix G w) (ho : e.objs[jo]? = some (idO, cells)) (hc : cells[c]? = some (.list true E xs)) (hall : cells.all AV.scalar = true) :
    ∃ o m q G1, RelC P G1 n ⟨e.fr, e.gs, e.loc, e.objs.set jo (idO, cells.set c (.lit (.slice o m q))), e.base⟩ a w ∧ Fix G1 w ∧
      ∀ (G' : Gh) (w' : World) (E2 : Es) (a' : Act) (d : Nat) (cells' : List AV), RelC P G' n E2 a' w' → Keep G1 w G' w' → E2.objs[jo]? = some (idO, cells') → cells'[c]? = some (.lit (.slice o m q)) → cells'.all AV.scalar = true → getV E2.fr [] d = .lit (.slice o m q) →
        ∃ G2, RelC P G2 n ⟨(d, [], .list true E xs) :: E2.fr, [], E2.loc, E2.objs.set jo (idO, cells'.set c (.list false E xs)), E2.base⟩ a' w' ∧ Keep G w G2 w' := by
  have hnd : ndO e.objs e.base := hr.2
  obtain ⟨o, m, q, G1, h1, h2, h3⟩ := hr.1.pinS hfx (lay_nth hnd.1 ho) hc hall
  refine ⟨o, m, q, G1, ⟨?_, ndO_set hnd (map_set_fst ho)⟩, h2, ?_⟩
  · show RelSt P G1 n ⟨_, _, lay (e.objs.set jo (idO, cells.set c (.lit (.slice o m q)))) e.base⟩ a w
    rw [← lay_set hnd.1 ho]
    exact h1
  · intro G' w' E2 a' d cells' hr' hk' ho' hc' hall' hd
    have hnd' : ndO E2.objs E2.base := hr'.2
    obtain ⟨G2, h4, h5⟩ := h3 G' w' (E2.st []) a' d cells' hr'.1 hk' (lay_nth hnd'.1 ho') hc' hall' (by rw [st_get]; exact hd)
    refine ⟨G2, ⟨?_, ndO_set hnd' (map_set_fst ho')⟩, h5⟩
    show RelSt P G2 n ⟨_, _, lay (E2.objs.set jo (idO, cells'.set c (.list false E xs))) E2.base⟩ a' w'
    rw [← lay_set hnd'.1 ho']
    exact h4
theorem COpsE.atExt {G : Gh} {e1 : Es} {a1 : Act} {w : World} (hr1 : RelE P G n e1 a1 w) (x : Ext w) : RelE P G n e1 a1 x.val ∧ Keep G w G x.val := by
  refine ⟨?_, ((hr1.st condOK_nil).later x.below).2⟩
  have hst : ∀ C, condOK C a1 → RelSt P G n (e1.st C) a1 x.val := fun C hC => ((hr1.st hC).later x.below).1
  refine ⟨hr1.size, hr1.defers, fun i hc => ?_, hr1.off, hr1.gs, (hst [] condOK_nil).loc, (hst [] condOK_nil).mem, hr1.nd⟩
  have h3 := (hst _ hc).slot i
  rw [st_get] at h3
  unfold getV valE at h3
  rw [show subC (getE e1.fr i).1 (getE e1.fr i).1 = true from subC_refl _] at h3
  exact h3
/-- A region whose head reads an object's own list into a slot that owns it in the tail. -/
theorem CWp.drawnG {id : Nat} (m jo c dS : Nat) {E : TypeId} {xs : List AV} {idO : Nat} {cells : List AV} (hB : regB l m 0 = true) (ho : e.objs[jo]? = some (idO, cells)) (hc : cells[c]? = some (.list true E xs)) (hs : cells.all AV.scalar = true)
    (h : ∀ o q cap, COpsE P n l.toArray (l.take m) ⟨e.fr, e.gs, e.loc, e.objs.set jo (idO, cells.set c (.lit (.slice o q cap))), e.base⟩ fun e1 => ∃ E2 cells2, COps P n l.toArray [] e1 (fun e2 => e2 = E2) ∧ flatB E2.fr = true ∧ E2.objs[jo]? = some (idO, cells2) ∧ cells2[c]? = some (.lit (.slice o q cap)) ∧ cells2.all AV.scalar = true ∧ getV E2.fr [] dS = .lit (.slice o q cap) ∧
      COps P n l.toArray (l.drop m) ⟨(dS, [], .list true E xs) :: E2.fr, [], E2.loc, E2.objs.set jo (idO, cells2.set c (.list false E xs)), E2.base⟩ (QE .normal))
    (hm : P.follows .mixedOrders = true := by rfl) (hf : flatB e.fr = true := by rfl) : CWp P n (.region id l.toArray true) e QE := by
  intro G a w K0 hr hfx hK0
  obtain ⟨o, q, cap, G1, hrp, hfx1, hback⟩ := hr.pinE hfx ho hc hs
  refine wp_region_E0 m hm hB (h o q cap G1 a w _ (RelE.of hrp.1 hf hrp.2) hfx1 ?_)
  rintro e1 a1 ⟨E2, cells2, hq, hf2, ho2, hc2, hs2, hd2, hq2⟩ hr1 x
  obtain ⟨hr2, hkx⟩ := COpsE.atExt hr1 x
  obtain ⟨G', hr3, hk3⟩ := hq G1 a1 x.val (fun y a w => ∃ G', RelC P G' n E2 a w ∧ Keep G1 x.val G' w) hr2 (hfx1.keep hkx) fun e' G' a' w' hq' hr' hk' => ⟨G', by rw [← hq']; exact hr', hk'⟩
  obtain ⟨G2, hr4, hk4⟩ := hback G' x.val E2 a1 dS cells2 hr3 (hkx.trans hk3) ho2 hc2 hs2 hd2
  exact hq2 G2 a1 x.val K0 (RelE.of hr4.1 (by exact hf2) hr4.2) (hfx.keep hk4) fun e' G3 a' w' hq' hr' hk' => hK0 _ _ _ _ _ hq' hr' (hk4.trans hk')
theorem CWp.aheadG {id : Nat} (m jo c dS : Nat) {E : TypeId} {xs : List AV} {idO : Nat} {cells : List AV} (hB : regX l m = true) (ho : e.objs[jo]? = some (idO, cells)) (hc : cells[c]? = some (.list true E xs)) (hs : cells.all AV.scalar = true)
    (h : ∀ o q cap, COpsE P n l.toArray (l.take m) ⟨e.fr, e.gs, e.loc, e.objs.set jo (idO, cells.set c (.lit (.slice o q cap))), e.base⟩ fun e1 => ∃ E2 cells2, COps P n l.toArray ((l.drop m).take 1) e1 (fun e2 => e2 = E2) ∧ flatB E2.fr = true ∧ E2.objs[jo]? = some (idO, cells2) ∧ cells2[c]? = some (.lit (.slice o q cap)) ∧ cells2.all AV.scalar = true ∧ getV E2.fr [] dS = .lit (.slice o q cap) ∧
      COps P n l.toArray (l.drop (m + 1)) ⟨(dS, [], .list true E xs) :: E2.fr, [], E2.loc, E2.objs.set jo (idO, cells2.set c (.list false E xs)), E2.base⟩ (QE .normal))
    (hm : P.follows .mixedOrders = true := by rfl) (hf : flatB e.fr = true := by rfl) : CWp P n (.region id l.toArray true) e QE := by
  intro G a w K0 hr hfx hK0
  have hlt : m < l.length := by
    simp only [regX, Bool.and_eq_true, decide_eq_true_eq] at hB
    exact hB.1.1.1.1
  have hTn : l[m]? = some l[m] := by simp
  generalize l[m] = T at hTn
  have hst : (∃ t p v, T.op = .buildSlice t p v) ∧ T.guard = none := by
    simp only [regX, Bool.and_eq_true] at hB
    have := hB.1.1.2
    simp only [bldB, hTn, Bool.and_eq_true] at this
    obtain ⟨⟨⟨⟨⟨⟨h1, h2⟩, h3⟩, _⟩, _⟩, _⟩, _⟩ := this
    refine ⟨?_, by simpa using h2⟩
    cases ho : T.op with
    | buildSlice t p v => exact ⟨t, p, v, rfl⟩
    | _ => rw [ho] at h1; cases h1
  obtain ⟨⟨t, p, v, hop⟩, hg⟩ := hst
  obtain ⟨o, q, cap, G1, hrp, hfx1, hback⟩ := hr.pinE hfx ho hc hs
  refine wp_region_X m T hTn hm hB (h o q cap G1 a w _ (RelE.of hrp.1 hf hrp.2) hfx1 ?_)
  rintro e1 a1 ⟨E2, cells2, hq, hf2, ho2, hc2, hs2, hd2, hq2⟩ hr1 x
  obtain ⟨hr2, hkx⟩ := COpsE.atExt hr1 x
  have hL := hq G1 a1 x.val (fun y a w => y = .normal ∧ ∃ G', RelC P G' n E2 a w ∧ Keep G1 x.val G' w) hr2 (hfx1.keep hkx) fun e' G' a' w' hq' hr' hk' => ⟨rfl, G', by rw [← hq']; exact hr', hk'⟩
  have hdrop : (l.drop m).take 1 = [T] := by
    obtain ⟨h1, h2⟩ := List.getElem?_eq_some_iff.1 hTn
    rw [List.drop_eq_getElem_cons h1, h2]; rfl
  rw [hdrop] at hL
  unfold wpList at hL
  simp only [Region.wanted, hg, if_true] at hL
  rcases hL with hL | ⟨_, _, _, hL, _⟩
  · unfold Oper.wp at hL
    have he : (execOp a1.eval T).run P x.val = ((Instr.buildSlice t p (v.map fun (i, x) => (i, a1.eval x))).run P x.val).andThen fun u w => (pure (Next.value u) : Sem Next).run P w := by
      simp only [execOp, hop, Sem.run_bind]
    rw [he] at hL ⊢
    cases hr' : (Instr.buildSlice t p (v.map fun (i, x) => (i, a1.eval x))).run P x.val with
    | ok u w' =>
      rw [hr'] at hL
      obtain ⟨_, G', hr3, hk3⟩ : (Exit.normal = Exit.normal ∧ ∃ G', RelC P G' n E2 (a1.put T.dst u) w' ∧ Keep G1 x.val G' w') := hL
      refine ⟨u, w', rfl, bs_below hr', fun y => ?_⟩
      obtain ⟨h5, h6⟩ := hr3.1.later y.below
      obtain ⟨G2, hr4, hk4⟩ := hback G' y.val E2 _ dS cells2 ⟨h5, hr3.2⟩ (hkx.trans (hk3.trans h6)) ho2 hc2 hs2 hd2
      exact hq2 G2 _ y.val K0 (RelE.of hr4.1 (by exact hf2) hr4.2) (hfx.keep hk4) fun e' G3 a' w2 hq' hr' hk' => hK0 _ _ _ _ _ hq' hr' (hk4.trans hk')
    | halt y w' =>
      rw [hr'] at hL
      cases y with
      | panic v => exact absurd hL.1 (by intro e; cases e)
      | _ => exact hL.elim
  · cases hL
end
end
end Go.Proofs.YtgphopeclplahaaGreatDoor
