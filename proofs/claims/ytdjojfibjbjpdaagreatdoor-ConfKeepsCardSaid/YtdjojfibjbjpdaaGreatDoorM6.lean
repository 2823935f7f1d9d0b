/- LexS, EvO, EvM, EvP, EvQ, EvLn, EvN, EvU, EvV, EvX, EvPf, EvLd, EvFn, EvLo, EvMp. -/
import Derived.Test.YtdjojfibjbjpdaaGreatDoorM5
import Derived.Test.YtdjojfibjbjpdaaGreatDoorM3
import Derived.Deep.Upon
namespace Go.Proofs.YtdjojfibjbjpdaaGreatDoor
section
open Go.RowKit
/-- Cut at each line's end. -/
def splitNl (l : List UInt8) : List (List UInt8) := Lib.split l [10]
theorem splitNl_le (l : List UInt8) : (splitNl l).length ≤ l.length + 1 := splitC_le 10 l
theorem splitNl_nil : splitNl [] = [[]] := rfl
theorem splitNl_10 (r : List UInt8) : splitNl (10 :: r) = [] :: splitNl r := splitC_hit 10 r
theorem splitNl_ne {c : UInt8} (h : c ≠ 10) (r : List UInt8) : ∃ hd tl, splitNl r = hd :: tl ∧ splitNl (c :: r) = (c :: hd) :: tl := splitC_ne h r
theorem splitNl_mem : ∀ (l : List UInt8) (k : Nat) (s : List UInt8), (splitNl l)[k]? = some s → s.length ≤ l.length := splitC_mem 10
end
section
open Go.RowKit

section
variable {P : Program} {n : Nat} {e : Es} {l : List Oper} {QE : Exit → Es → Prop}
end
end
section
open Go.RowKit

/-- Cells ahead of a list, or behind it: of so many elements. -/
structure Slk (sz : Nat) where
  l : List AV
  n : Nat
  len : l.length = n * sz
  sc : l.all AV.scalar = true
/-- A list's cells. -/
def flt {α : Type} (f : α → AV) (xs : List α) : List AV := (xs.map f).flatMap AV.cells
/-- An element's cells: so many, each a plain one. -/
def EncOK {α : Type} (f : α → AV) (sz : Nat) : Prop := ∀ x, (f x).cells.length = sz ∧ (f x).cells.all AV.scalar = true ∧ (f x).cells.all AV.flat = true
theorem flt_cons {α : Type} (f : α → AV) (x : α) (r : List α) : flt f (x :: r) = (f x).cells ++ flt f r := by simp [flt]
theorem flt_app {α : Type} (f : α → AV) (x r : List α) : flt f (x ++ r) = flt f x ++ flt f r := by simp [flt]
theorem flt_len {α : Type} {f : α → AV} {sz : Nat} (hf : EncOK f sz) (xs : List α) : (flt f xs).length = xs.length * sz := by
  induction xs with
  | nil => simp [flt]
  | cons x r ih => rw [flt_cons, List.length_append, ih, (hf x).1, List.length_cons, Nat.add_mul]; omega
theorem flt_all {α : Type} {f : α → AV} {sz : Nat} (hf : EncOK f sz) (xs : List α) : (flt f xs).all AV.scalar = true ∧ (flt f xs).all AV.flat = true := by
  induction xs with
  | nil => exact ⟨rfl, rfl⟩
  | cons x r ih => rw [flt_cons, List.all_append, List.all_append, ih.1, ih.2, (hf x).2.1, (hf x).2.2]; exact ⟨rfl, rfl⟩
theorem flt_at {α : Type} {f : α → AV} {sz : Nat} (hf : EncOK f sz) : ∀ {xs : List α} {k : Nat} {x : α}, xs[k]? = some x → ∃ A B, flt f xs = A ++ (f x).cells ++ B ∧ A.length = k * sz ∧ ∀ x', flt f (xs.set k x') = A ++ (f x').cells ++ B
  | [], k, x, h => by simp at h
  | y :: r, 0, x, h => by
    simp at h; subst h
    exact ⟨[], flt f r, by rw [flt_cons]; rfl, by simp, fun x' => by rw [List.set_cons_zero, flt_cons]; rfl⟩
  | y :: r, k + 1, x, h => by
    obtain ⟨A, B, h1, h2, h3⟩ := flt_at hf (xs := r) (k := k) (x := x) (by simpa using h)
    refine ⟨(f y).cells ++ A, B, by rw [flt_cons, h1]; simp, by rw [List.length_append, h2, (hf y).1, Nat.add_mul]; omega, fun x' => by rw [List.set_cons_succ, flt_cons, h3]; simp⟩
theorem splice_mid {off : Nat} {A C B vs : List AV} (h : off + vs.length ≤ C.length) : splice (A ++ C ++ B) (A.length + off) vs = A ++ splice C off vs ++ B := by
  unfold splice
  rw [List.append_assoc A C B, List.take_append, List.drop_append]
  rw [List.take_of_length_le (by omega), Nat.add_sub_cancel_left, List.take_append_of_le_length (by omega)]
  rw [List.drop_eq_nil_of_le (by omega), show A.length + off + vs.length - A.length = off + vs.length by omega, List.drop_append_of_le_length h]
  simp
/-- Nothing. -/
def Slk.nil {sz : Nat} : Slk sz := ⟨[], 0, by simp, rfl⟩
/-- A list as an object: what was ahead of it, the list, what stands behind, up to its capacity. -/
def lob {α : Type} {sz : Nat} (pl : Slk sz) (f : α → AV) (xs : List α) (sl : Slk sz) : List AV := pl.l ++ flt f xs ++ sl.l
/-- Such a list's value. -/
abbrev hdM {α : Type} {sz : Nat} (id : Nat) (pl : Slk sz) (xs : List α) (sl : Slk sz) : AV := .gsl id (pl.n * sz) xs.length (xs.length + sl.n)
theorem lob_len {α : Type} {f : α → AV} {sz : Nat} (hf : EncOK f sz) (pl : Slk sz) (xs : List α) (sl : Slk sz) : (lob pl f xs sl).length = (pl.n + xs.length + sl.n) * sz := by
  unfold lob
  rw [List.length_append, List.length_append, flt_len hf, pl.len, sl.len, Nat.add_mul, Nat.add_mul]
theorem lob_all {α : Type} {f : α → AV} {sz : Nat} (hf : EncOK f sz) (pl : Slk sz) (xs : List α) (sl : Slk sz) : (lob pl f xs sl).all AV.scalar = true := by
  unfold lob
  rw [List.all_append, List.all_append, (flt_all hf xs).1, pl.sc, sl.sc]; rfl
theorem lob_at {α : Type} {f : α → AV} {sz : Nat} (hf : EncOK f sz) (pl sl : Slk sz) {xs : List α} {k : Nat} {x : α} (h : xs[k]? = some x) : ∃ A B, lob pl f xs sl = A ++ (f x).cells ++ B ∧ A.length = pl.n * sz + k * sz ∧ ∀ x', lob pl f (xs.set k x') sl = A ++ (f x').cells ++ B := by
  obtain ⟨A, B, h1, h2, h3⟩ := flt_at hf h
  refine ⟨pl.l ++ A, B ++ sl.l, by unfold lob; rw [h1]; simp, by rw [List.length_append, pl.len, h2], fun x' => by unfold lob; rw [h3]; simp⟩
theorem lob_ne {α : Type} {f : α → AV} {sz : Nat} (hf : EncOK f sz) (h0 : sz ≠ 0) (pl sl : Slk sz) {xs : List α} {k : Nat} {x : α} (h : xs[k]? = some x) : lob pl f xs sl ≠ [] := by
  intro e
  have h1 := congrArg List.length e
  rw [lob_len hf] at h1
  have h2 := (List.getElem?_eq_some_iff.1 h).1
  have : 1 ≤ (pl.n + xs.length + sl.n) * sz := Nat.mul_le_mul (show 1 ≤ pl.n + xs.length + sl.n by omega) (show 1 ≤ sz by omega)
  simp at h1
  omega

section
variable {P : Program} {n : Nat} {s : St} {e e' : Es} {ops : Array Oper} {l rest : List Oper} {o : Oper} {Q : Es → Prop} {QE : Exit → Es → Prop} {d : Nat} {T : Tab} {Z : Zt} {v : AV} {C : Cnd} {t t' E : Nat} {x y : Operand} {k : IntKind} {i : Int}
theorem RelSt.evM' {G : Gh} {a : Act} {w : World} {id of m cp : Nat} (h : RelSt P G n s a w) (hx : s.eval x = .gsl id of m cp) : RelV P G w (.gsl id of m cp) (a.eval x) := by
  obtain ⟨p, hp⟩ := h.ev x (fun v cs e1 e2 => by subst e1; subst e2; simp [St.eval, ofConst] at hx)
  rw [hx] at hp
  exact hp
/-- Such a list's length. -/
theorem Reader.lenM {id of m cp : Nat} {c : Call} (ho : o.op = .call c) (hc : c.callee = .builtin .len) (ha : c.args = #[x]) (ht : c.argTypes = #[t]) (hu : P.underlying t = some (.slice E)) (hx : s.eval x = .gsl id of m cp) :
    Reader P n s o d (.lit (.int .i64 (m : Int))) := by
  intro G a w h
  have hp := h.evM' hx
  have hv : ∃ b cap, a.eval x = .slice b m cap := by
    generalize a.eval x = v at hp
    cases hp with
    | gsl => exact ⟨_, _, rfl⟩
    | gsl0 => exact ⟨_, _, rfl⟩
    | gslz => exact ⟨_, _, rfl⟩
  obtain ⟨b, cap, hv⟩ := hv
  refine ⟨_, lit_toS _, fun w' _ => ?_⟩
  simp [execOp, ho, resolve, hc, ha, ht, hv, invoke, builtin, Builtin.len_, run_underlying hu, goInt]
/-- An element's address, in such a list. -/
theorem Reader.indexM {id of m cp j size : Nat} (ho : o.op = .indexAddr t x y) (hu : P.underlying t = some (.slice E)) (hs : SizeOf P E size) (hx : s.eval x = .gsl id of m cp) (hy : s.eval y = .lit (.int k i)) (hi : i = j) (hm : j < m) :
    Reader P n s o d (.gptr id (of + j * size)) := by
  intro G a w h
  have hp := h.evM' hx
  generalize hav : a.eval x = v at hp
  cases hp with
  | gsl _ _ _ _ b hb hc hmx =>
    refine ⟨_, RelV.gptr id (of + j * size) b hb, fun w' _ => ?_⟩
    subst hi
    simp [execOp, ho, Instr.indexAt, Instr.sureAddr, asIntOf, hav, h.evLit hy, run_underlying hu, run_size hs, hm, add_at]
  | gsl0 => omega
  | gslz => omega
theorem rLenM [I : HasTab P] {id of m cp z : Nat} {c : Call} (ho : o.op = .call c := by rfl) (hc : c.callee = .builtin .len := by rfl) (ha : c.args = #[x] := by rfl) (ht : c.argTypes = #[t] := by rfl) (h1 : (HasTab.T P).look t = some (.slice E, z) := by rfl) (hx : evE e.fr C x = .gsl id of m cp := by rfl) :
    Reader P n (e.st C) o d (.lit (.int .i64 (m : Int))) := by
  obtain ⟨⟨D, hD, hk⟩, _⟩ := Tab.ok I.tok h1
  have := kOf_slice hk; subst this
  exact Reader.lenM ho hc ha ht hD (ev_st hx)
theorem rIxM [I : HasTab P] {α : Type} {xs : List α} {c : α} {id of cp sz z : Nat} {kk : TK} (he : idx xs i = some c) (ho : o.op = .indexAddr t x y := by rfl) (h1 : (HasTab.T P).look t = some (.slice E, z) := by rfl) (h2 : (HasTab.T P).look E = some (kk, sz) := by rfl)
    (hx : evE e.fr C x = .gsl id of xs.length cp := by rfl) (hy : evE e.fr C y = .lit (.int k i) := by rfl) : Reader P n (e.st C) o d (.gptr id (of + i.toNat * sz)) := by
  obtain ⟨⟨D, hD, hk⟩, _⟩ := Tab.ok I.tok h1
  have := kOf_slice hk; subst this
  obtain ⟨m, rfl, hc⟩ := idx_of he
  rw [Int.toNat_natCast]
  exact Reader.indexM ho hD (Tab.ok I.tok h2).2 (ev_st hx) (ev_st hy) rfl (List.getElem?_eq_some_iff.1 hc).1
/-- An element is written. -/
theorem cStM [I : HasTab P] {α : Type} {f : α → AV} {xs : List α} {c : α} {sz off : Nat} {pl sl : Slk sz} {fr : Fr} {loc : List (Nat × List AV)} {objs objs' : Ob} {base : Nat → Option (List AV)} {id : Nat} (j : Nat) (hf : EncOK f sz) (he : idx xs i = some c) (c' : α)
    (g : COps P n ops rest ⟨fr, [], loc, objs', base⟩ Q) (hj : objs[j]? = some (id, lob pl f xs sl) := by rfl) (ho : o.op = .store t x y := by rfl) (hx : evE fr [] x = .gptr id (pl.n * sz + i.toNat * sz + off) := by rfl) (hs : vStore (HasTab.T P) (evE fr []) t y (f c).cells off = some (f c').cells := by rfl)
    (ho' : objs.set j (id, lob pl f (xs.set i.toNat c') sl) = objs' := by rfl) (hC : cndOf ops fr o = some [] := by rfl) (hd : o.dst = none := by rfl) (h0 : sz ≠ 0 := by decide) : COps P n ops (o :: rest) ⟨fr, [], loc, objs, base⟩ Q := by
  obtain ⟨m, hm, hc⟩ := idx_of he
  have hm' : i.toNat = m := by omega
  rw [hm'] at hx ho'
  obtain ⟨A, B, a1, a2, a3⟩ := lob_at hf pl sl hc
  rw [evE_fun ⟨fr, [], loc, objs, base⟩ []] at hs
  obtain ⟨size, u, g1, g2, g3, g4, g5, g6, g7, g8⟩ := vStore_ok I.tok hs
  have hsp : splice (lob pl f xs sl) (pl.n * sz + m * sz + off) u.cells = lob pl f (xs.set m c') sl := by
    rw [a1, ← a2, splice_mid (by omega), ← g8, a3]
  have hfit : pl.n * sz + m * sz + off + size ≤ (lob pl f xs sl).length := by
    rw [a1]
    simp only [List.length_append]
    omega
  refine COps.nd fun hnd => COps.eff0 (e := ⟨fr, [], loc, objs, base⟩) (add := []) (objs' := objs') rfl (fun Q' hk => AOps.storeG (wants0 (e := ⟨fr, [], loc, objs, base⟩) _ hC) hd ho (ev_st (e := ⟨fr, [], loc, objs, base⟩) hx) (lay_nth hnd.1 hj) g1 g2 g3 g4 g5 g6 hfit ?_ hk (lob_all hf pl xs sl) (lob_ne hf h0 pl sl hc)) (fun h => ?_) g
  · rw [hsp, ← ho']; exact lay_set hnd.1 hj
  · rw [← ho']; exact ndO_set h (map_set_fst hj)
/-! Frozen: the list is nobody's any more, and is read like any other. -/
theorem RelSt.frzObj {α : Type} {f : α → AV} {xs : List α} {sz id E : Nat} {pl sl : Slk sz} (hf : EncOK f sz) (hE : SizeOf P E sz) {G : Gh} {a : Act} {w : World} {M' : Nat → Option (List AV)} (hr : RelSt P G n s a w) (hm : s.mem id = some (lob pl f xs sl)) (hM : ∀ i c, M' i = some c → i ≠ id ∧ s.mem i = some c) (h0 : sz ≠ 0) :
    ∃ G', RelSt P G' n { s with mem := M' } a w ∧ Keep G w G' w ∧ ∀ v, RelV P G' w (hdM id pl xs sl) v → RelV P G' w (.list false E (xs.map f)) v := by
  obtain ⟨b0, hb0, hX⟩ := hr.mem.obj id _ hm
  have hall := lob_all hf pl xs sl
  have hlob := lob_len hf pl xs sl
  have hnil : xs.length = 0 → xs = [] := List.eq_nil_of_length_eq_zero
  by_cases hne : lob pl f xs sl = []
  · have hx0 : xs = [] := by
      rw [hne] at hlob
      rcases Nat.eq_zero_or_pos xs.length with h | h
      · exact hnil h
      · have h1 : 1 * 1 ≤ (pl.n + xs.length + sl.n) * sz := Nat.mul_le_mul (by omega) (by omega)
        simp at hlob
        omega
    subst hx0
    refine ⟨G, ⟨hr.size, hr.defers, hr.slot, hr.loc, hr.mem.sub fun i c h => (hM i c h).2⟩, Keep.refl _ _, fun v hv => ?_⟩
    generalize hdd : hdM id pl ([] : List α) sl = hd at hv
    cases hv with
    | gsl _ _ _ cap b hb hc hmx =>
      simp only [hdM, AV.gsl.injEq, List.length_nil] at hdd
      obtain ⟨_, _, rfl, _⟩ := hdd
      exact .row false E [] b _ cap sz (fun _ => undef) hE (fun x hx => by cases hx) (fun x hx => by cases hx) (Nat.zero_le _) hmx (fun h => by cases h) (fun j hj => by simp at hj) (fun j c hj => by simp at hj)
    | gsl0 => exact .nil _ _
    | gslz _ _ a => exact .zero _ _
    | _ => cases hdd
  · obtain ⟨⟨arr, T, hh, hsz, ho, ht, hsc, hrr⟩, _⟩ := hX.cells hall hne
    have hlt := (Array.getElem?_eq_some_iff.1 hh).1
    have hlen : (flt f xs).length = xs.length * sz := flt_len hf xs
    let G' : Gh := { G with owner := fun b => if b = b0 then none else G.owner b, tip := fun b => if b = b0 then pl.n * sz + xs.length * sz else G.tip b }
    have st : Stab G w G' w := ⟨fun b => by
      show G.tip b ≤ if b = b0 then pl.n * sz + xs.length * sz else G.tip b
      split
      · rename_i e; rw [e, ht]; exact Nat.zero_le _
      · exact Nat.le_refl _, fun _ _ _ => rfl, fun _ _ h => h⟩
    have hmv : ∀ (q : Pos) (b : Nat), q ≠ .mb id → G.owner b = some q → G'.owner b = some q ∧ w.heap[b]? = w.heap[b]? ∧ G'.tip b = G.tip b := by
      intro q b hq hb
      have hne : b ≠ b0 := fun e => by subst e; rw [ho] at hb; exact hq (Option.some.inj hb).symm
      exact ⟨by show (if b = b0 then none else G.owner b) = _; rw [if_neg hne]; exact hb, rfl, by show (if b = b0 then pl.n * sz + xs.length * sz else G.tip b) = _; rw [if_neg hne]⟩
    have hfar : ∀ b, w.heap.size ≤ b → G'.tip b = 0 ∧ G'.owner b = none := fun b hb => by
      have hne : b ≠ b0 := by omega
      exact ⟨by show (if b = b0 then pl.n * sz + xs.length * sz else G.tip b) = _; rw [if_neg hne]; exact (hr.mem.far b hb).1, by show (if b = b0 then none else G.owner b) = _; rw [if_neg hne]; exact (hr.mem.far b hb).2⟩
    refine ⟨G', ⟨hr.size, hr.defers, fun i => (hr.slot i).move st (Nat.le_refl _) (fun _ _ _ => rfl) (fun c b _ h2 => hmv _ b (by intro h; cases h) h2), fun k1 c1 h1 => ?_, ⟨fun i c1 h1 => ?_, hfar, hr.mem.fin⟩⟩, ⟨rfl, rfl, rfl, Nat.le_refl _, fun b hb hn => ?_, st⟩, fun v hv => ?_⟩
    · have h0 := hr.loc k1 c1 h1
      obtain ⟨a1, a2, a3⟩ := hmv _ _ (by intro h; cases h) h0.own
      exact h0.move st (Nat.le_refl _) rfl (a1.trans h0.own.symm) a3 (fun c b _ h2 => hmv _ b (by intro h; cases h) h2)
    · obtain ⟨hni, h1⟩ := hM i c1 h1
      obtain ⟨b, hb, hh1⟩ := hr.mem.obj i c1 h1
      exact ⟨b, hb, hh1.move st (Nat.le_refl _) (fun _ hw => by
        obtain ⟨a1, a2, a3⟩ := hmv _ _ (by intro h; injection h with h; exact hni h) hw
        exact ⟨rfl, a1.trans hw.symm, a3⟩) (fun c b _ h2 => hmv _ b (by intro h; cases h) h2)⟩
    · have hne : b ≠ b0 := fun e => by subst e; rw [ho] at hn; cases hn
      exact ⟨by show (if b = b0 then none else G.owner b) = none; rw [if_neg hne]; exact hn, rfl, by show (if b = b0 then pl.n * sz + xs.length * sz else G.tip b) = _; rw [if_neg hne]⟩
    · generalize hdd : hdM id pl xs sl = hd at hv
      cases hv with
      | gsl _ _ _ cap b hb hc hmx =>
        simp only [hdM, AV.gsl.injEq] at hdd
        obtain ⟨rfl, rfl, rfl, rfl⟩ := hdd
        have hb' : G.mb id = some b := hb
        rw [hb0] at hb'
        cases hb'
        rw [show Value.slice (some ⟨b0, pl.n * sz, none⟩) xs.length (xs.length + sl.n) = .slice (some ⟨b0, pl.n * sz, none⟩) (xs.map f).length (xs.length + sl.n) by rw [List.length_map]]
        have hin : ∀ j, j < xs.length * sz → pl.n * sz + j < arr.size := fun j hj => by
          rw [hsz]
          unfold lob
          rw [List.length_append, List.length_append, hlen, pl.len]; omega
        have hge : ∀ j, j < xs.length * sz → arr[pl.n * sz + j]? = some (arr.getD (pl.n * sz + j) undef) := fun j hj => by
          rw [Array.getD_eq_getD_getElem?, Array.getElem?_eq_getElem (hin j hj)]; rfl
        refine .row false E (xs.map f) b0 (pl.n * sz) _ sz (fun j => arr.getD (pl.n * sz + j) undef) hE (fun x hx => ?_) (fun x hx c hc => ?_) (by rw [List.length_map]; exact hc) hmx (fun _ => ?_) (fun j hj => ?_) (fun j c hj => ?_)
        · obtain ⟨y, _, rfl⟩ := List.mem_map.1 hx; exact (hf y).1
        · obtain ⟨y, _, rfl⟩ := List.mem_map.1 hx; exact List.all_eq_true.1 (hf y).2.1 c hc
        · show pl.n * sz + (xs.map f).length * sz ≤ if b0 = b0 then pl.n * sz + xs.length * sz else G.tip _
          rw [if_pos rfl, List.length_map]; exact Nat.le_refl _
        · rw [List.length_map] at hj
          simp only [World.cell?, hh, Option.isSome_none, Bool.false_eq_true, if_false]; exact hge j hj
        · replace hj : (flt f xs)[j]? = some c := hj
          have hjl := (List.getElem?_eq_some_iff.1 hj).1
          rw [hlen] at hjl
          have hj1 : (lob pl f xs sl)[pl.n * sz + j]? = some c := by
            unfold lob
            rw [List.append_assoc, List.getElem?_append_right (by rw [pl.len]; omega), pl.len, Nat.add_sub_cancel_left, List.getElem?_append_left (by rw [hlen]; exact hjl)]
            exact hj
          have h1 := (hrr _ c _ hj1 (hge j hjl)).un (hsc c (List.mem_of_getElem? hj1))
          have hcf : c.flat = true := List.all_eq_true.1 (flt_all hf xs).2 c (List.mem_of_getElem? hj)
          have : c.un = c := by
            cases c with
            | list o E xs => cases o with
              | true => cases hcf
              | false => rfl
            | tuple cs => cases hcf
            | pin x v => cases hcf
            | _ => rfl
          rw [this] at h1
          exact h1.stab st
      | gsl0 =>
        simp only [hdM, AV.gsl.injEq] at hdd
        rw [hnil hdd.2.2.1]; exact .nil _ _
      | gslz _ _ a =>
        simp only [hdM, AV.gsl.injEq] at hdd
        rw [hnil hdd.2.2.1]; exact .zero _ _
      | _ => cases hdd
/-- A slot is read otherwise. -/
theorem RelSt.reSlot {G : Gh} {a : Act} {w : World} {t : Nat} {v v' : AV} (hr : RelSt P G n s a w) (hv : s.get t = v) (h : ∀ u, RelS P G w (.slot t) v u → RelS P G w (.slot t) v' u) : RelSt P G n { s with fr := (t, v') :: s.fr } a w := by
  refine ⟨hr.size, hr.defers, fun i => ?_, hr.loc, hr.mem⟩
  show RelS P G w (.slot i) (look .any ((t, v') :: s.fr) i) _
  simp only [look]
  by_cases e : t = i
  · subst e
    rw [if_pos rfl]
    have := hr.slot t
    rw [hv] at this
    exact h _ this
  · rw [if_neg e]; exact hr.slot i
def setC : List (Nat × List AV) → Nat → Nat → AV → List (Nat × List AV)
  | [], _, _, _ => []
  | (k, cs) :: r, i, c, v => bif Nat.beq k i then (k, cs.set c v) :: r else (k, cs) :: setC r i c v
theorem setC_at : ∀ {loc : List (Nat × List AV)} {i c : Nat} {v : AV} {k : Nat} {cs : List AV}, lookL (setC loc i c v) k = some cs → (k = i ∧ ∃ cs0, lookL loc k = some cs0 ∧ cs = cs0.set c v) ∨ (k ≠ i ∧ lookL loc k = some cs)
  | [], i, c, v, k, cs, h => by cases h
  | (k0, cs0) :: r, i, c, v, k, cs, h => by
    unfold setC at h
    cases hb : Nat.beq k0 i with
    | true =>
      rw [hb] at h
      have e := Nat.eq_of_beq_eq_true hb
      subst e
      simp only [cond_true, lookL] at h ⊢
      by_cases hk : k0 = k
      · subst hk
        rw [if_pos rfl] at h ⊢
        cases h
        exact .inl ⟨rfl, cs0, rfl, rfl⟩
      · rw [if_neg hk] at h ⊢
        exact .inr ⟨fun e => hk e.symm, h⟩
    | false =>
      rw [hb] at h
      have e := beq_ne hb
      simp only [cond_false, lookL] at h ⊢
      by_cases hk : k0 = k
      · subst hk
        rw [if_pos rfl] at h ⊢
        exact .inr ⟨e, h⟩
      · rw [if_neg hk] at h ⊢
        exact setC_at h
/-- A block's cell is read otherwise. -/
theorem RelSt.reCell {G : Gh} {a : Act} {w : World} {i c : Nat} {v v' : AV} {cs0 : List AV} (hr : RelSt P G n s a w) (hl : lookL s.loc i = some cs0) (hv : cs0[c]? = some v) (hs : v'.scalar = true) (h : ∀ u, RelO P G w (.lc i c) v u → RelO P G w (.lc i c) v' u) : RelSt P G n { s with loc := setC s.loc i c v' } a w := by
  refine ⟨hr.size, hr.defers, hr.slot, fun k cs hk => ?_, hr.mem⟩
  rcases setC_at hk with ⟨rfl, cs1, h1, rfl⟩ | ⟨_, h1⟩
  · rw [hl] at h1
    cases h1
    obtain ⟨arr, T, k1, k2, k3, k4, k5, k6⟩ := hr.loc k cs0 hl
    refine ⟨arr, T, k1, by simpa using k2, k3, k4, fun x hx => ?_, fun j x u hj hu => ?_⟩
    · rcases List.mem_or_eq_of_mem_set hx with hx | rfl
      · exact k5 x hx
      · exact hs
    · rw [List.getElem?_set] at hj
      split at hj
      · rename_i e
        subst e
        split at hj
        · cases hj; exact h u (k6 c v u hv hu)
        · cases hj
      · exact k6 j x u hj hu
  · exact hr.loc k cs h1
def frzS (L : AV) : List Nat → Fr → Fr
  | [], fr => fr
  | t :: r, fr => (t, [], L) :: frzS L r fr
def frzC (L : AV) : List (Nat × Nat) → List (Nat × List AV) → List (Nat × List AV)
  | [], loc => loc
  | (k, c) :: r, loc => setC (frzC L r loc) k c L
def areS (v L : AV) : List Nat → Fr → Prop
  | [], _ => True
  | t :: r, fr => getV (frzS L r fr) [] t = v ∧ areS v L r fr
def areC (v L : AV) : List (Nat × Nat) → List (Nat × List AV) → Prop
  | [], _ => True
  | (k, c) :: r, loc => (∃ cs, lookL (frzC L r loc) k = some cs ∧ cs[c]? = some v) ∧ areC v L r loc
end
end
section
open Go.RowKit

/-- A type's zero has plain cells. -/
def oneZ (P : Program) (E : TypeId) : Bool := match P.info? E with
  | some i => match i.zero with
    | some z => z.cells.toList.all (fun c => c.oneCell')
    | none => false
  | none => false
section
variable {P : Program} {n : Nat} {s : St} {ops : Array Oper} {o : Oper} {rest : List Oper} {Q : St → Prop} {d : Nat} {t tx E : TypeId} {x y : Operand}

theorem RelSt.named {G G1 : Gh} {a : Act} {w w' : World} {u : Value} {id b0 of m cp : Nat} {cells : List AV} (hr : RelSt P G n s a w) (hn : d < n) (hT1 : RelSt P G1 n (s.put d (.lit u)) (a.put (some d) u) w') (hmb : G1.mb id = none) (hN : ∃ N, ∀ id, N ≤ id → G1.mb id = none)
    (hv : ∀ G2 : Gh, G2.mb id = some b0 → RelV P G2 w' (.gsl id of m cp) u) (hX : ∀ G2 : Gh, Stab G1 w' G2 w' → G2.owner = G1.owner → G2.tip = G1.tip → HoldsX P G2 w' b0 id cells) :
    ∃ G2, RelSt P G2 n { s with fr := (d, .gsl id of m cp) :: s.fr, mem := setM s.mem id cells } (a.put (some d) u) w' ∧ Stab G1 w' G2 w' ∧ G2.owner = G1.owner ∧ G2.tip = G1.tip := by
  obtain ⟨N, hN⟩ := hN
  let G' : Gh := { G1 with mb := fun i => if i = id then some b0 else G1.mb i }
  have hmbG : ∀ i b, G1.mb i = some b → G'.mb i = some b := fun i b h => by
    show (if i = id then some b0 else G1.mb i) = some b
    rw [if_neg (fun e => by subst e; rw [hmb] at h; cases h)]; exact h
  have hid' : G'.mb id = some b0 := by show (if id = id then some b0 else G1.mb id) = _; simp
  have st : Stab G1 w' G' w' := ⟨fun _ => Nat.le_refl _, fun _ _ _ => rfl, hmbG⟩
  have hT2 := hT1.reghost (G' := G') st rfl rfl rfl ⟨N + id + 1, fun i hi => by
    show (if i = id then some b0 else G1.mb i) = none
    rw [if_neg (by omega)]; exact hN i (by omega)⟩
  refine ⟨G', ⟨hT2.size, hT2.defers, fun i => ?_, hT2.loc, ⟨fun i c hi => ?_, hT2.mem.far, hT2.mem.fin⟩⟩, st, rfl, rfl⟩
  · rw [getD_put _ _ _ _ (by rw [hr.size]; exact hn)]
    have h0 := hT2.slot i
    rw [getD_put _ _ _ _ (by rw [hr.size]; exact hn)] at h0
    show RelS P G' _ (.slot i) (look .any ((d, .gsl id of m cp) :: s.fr) i) _
    have h0' : RelS P G' w' (.slot i) (look .any ((d, .lit u) :: s.fr) i) (if i = d then u else a.tmps.getD i undef) := h0
    simp only [look] at h0' ⊢
    by_cases e : i = d
    · subst e
      simp only [if_true]
      exact hv G' hid'
    · rw [if_neg (Ne.symm e), if_neg e] at h0'
      rw [if_neg (Ne.symm e), if_neg e]
      exact h0'
  · by_cases e : i = id
    · subst e
      have hi' : setM s.mem i cells i = some c := hi
      rw [setM_get] at hi'
      cases hi'
      exact ⟨b0, hid', hX G' st rfl rfl⟩
    · have hi' : setM s.mem id cells i = some c := hi
      rw [setM_ne e] at hi'
      exact hT2.mem.obj i c hi'
end
section
variable {P : Program} {n : Nat} {s : St} {e e' : Es} {ops : Array Oper} {l rest : List Oper} {o : Oper} {Q : Es → Prop} {QE : Exit → Es → Prop} {d : Nat} {T : Tab} {Z : Zt} {v : AV} {C : Cnd} {t t' E : Nat} {x y : Operand} {k : IntKind} {i : Int}
/-- A new list object: whatever its name. -/
theorem COps.newV {ι : Type _} {fr : Fr} {loc : List (Nat × List AV)} {objs : Ob} {base : Nat → Option (List AV)} {V : Nat → ι → AV} {cells : ι → List AV} {ok : ι → Prop}
    (h : ∀ Q', (∀ id i, lay objs base id = none → id % 10000 = t → ok i → AOps P n ops rest ⟨(d, V id i) :: ((⟨fr, [], loc, objs, base⟩ : Es).st []).fr, loc, setM (lay objs base) id (cells i)⟩ Q') → AOps P n ops (o :: rest) ((⟨fr, [], loc, objs, base⟩ : Es).st []) Q')
    (g : ∀ id i, id % 10000 = t → ok i → COps P n ops rest ⟨(d, [], V id i) :: fr, [], loc, (id, cells i) :: objs, base⟩ Q) : COps P n ops (o :: rest) ⟨fr, [], loc, objs, base⟩ Q := by
  intro G a w K hr hfx hK
  have hfl : ∀ i, (getE fr i).1 = [] := by
    intro i
    cases hx : (getE fr i).1 with
    | nil => rfl
    | cons p r =>
      have := hr.gs i p (by show p ∈ (getE fr i).1; rw [hx]; exact List.mem_cons_self ..)
      cases this
  have hnd : ndO objs base := hr.nd
  refine h (fun s'' => ∃ e'', e''.st [] = s'' ∧ e''.nd ∧ Q e'') (fun id ix hid ht hok => ?_) G a w K (hr.st condOK_nil) hfx ?_
  · intro G1 a1 w1 K1 hr1 hfx1 hK1
    have hni : id ∉ objs.map (·.1) := fun hm => lay_some hm hid
    have hb : base id = none := by rwa [lay_none hni] at hid
    have hnd' : ndO ((id, cells ix) :: objs) base := ⟨List.nodup_cons.2 ⟨hni, hnd.1⟩, fun i hi => by
      rcases List.mem_cons.1 hi with e | e
      · subst e; exact hb
      · exact hnd.2 i e⟩
    have hf' := addF_get hfl [(d, V id ix)]
    refine g id ix ht hok G1 a1 w1 K1 ⟨hr1.size, hr1.defers, fun i _ => ?_, fun i hne => ?_, fun i p hp => ?_, hr1.loc, hr1.mem, hnd'⟩ hfx1 (fun e2 G2 a2 w2 hq hr2 hk2 => hK1 _ G2 a2 w2 ⟨e2, rfl, hr2.2, hq⟩ hr2.1 hk2)
    · have h3 := hr1.slot i
      have e1 : St.get ⟨(d, V id ix) :: ((⟨fr, [], loc, objs, base⟩ : Es).st []).fr, loc, setM (lay objs base) id (cells ix)⟩ i = valE [] (getE ((d, [], V id ix) :: fr) i) := look_st [] ((d, [], V id ix) :: fr) i
      rw [e1] at h3
      unfold valE at h3
      rw [show (getE ((d, [], V id ix) :: fr) i).1 = [] from hf' i] at h3
      exact h3
    · rw [show (getE ((d, [], V id ix) :: fr) i).1 = [] from hf' i] at hne
      exact absurd condOK_nil hne
    · rw [show (getE ((d, [], V id ix) :: fr) i).1 = [] from hf' i] at hp; cases hp
  · rintro s'' G' a' w' ⟨e'', rfl, hn2, hq⟩ hr' hk
    exact hK e'' G' a' w' hq ⟨hr', hn2⟩ hk
end
end
section
open Go.RowKit

/-- What a call comes to that is handed a list object, and leaves it as it is. -/
def BCall (P : Program) (f : FuncId) (args : List AV) (id : Nat) (cells : List AV) (v : AV) : Prop :=
  ∀ base : Nat → Option (List AV), base id = some cells → ACall P f args base fun r M' => r = v ∧ M' = base
section
variable {P : Program} {n : Nat} {s : St} {e e' : Es} {ops : Array Oper} {l rest : List Oper} {o : Oper} {Q : Es → Prop} {d : Nat} {v : AV} {t t' E : Nat} {x y : Operand}
theorem BCall.all {f : FuncId} {args cells : List AV} {id : Nat} (h : BCall P f args id cells v) : FCall P f args [(id, cells)] (fun u outs => u = v ∧ outs = [(id, cells)]) := by
  intro base hnd
  refine (h (lay [(id, cells)] base) ?_).mono ?_
  · show setM base id cells id = some cells
    rw [setM_get]
  · rintro r M' ⟨rfl, rfl⟩
    exact ⟨_, ⟨rfl, rfl⟩, rfl, hnd⟩
end
end
section
open Go.RowKit

/-- Cells, one by one: the same, or x for y. -/
def LentL (x y : AV) : List AV → List AV → Prop
  | [], [] => True
  | a :: r, b :: s => (a = b ∨ (a = x ∧ b = y)) ∧ LentL x y r s
  | _, _ => False
/-- Arguments: the same, x for y, or structs with x for y. -/
def LentA (x y : AV) : List AV → List AV → Prop
  | [], [] => True
  | a :: r, b :: s => (a = b ∨ (a = x ∧ b = y) ∨ ∃ cs ds, a = .agg cs ∧ b = .agg ds ∧ LentL x y cs ds) ∧ LentA x y r s
  | _, _ => False
section
variable {P : Program} {G G' : Gh} {w : World} {x y : AV}
theorem LentL.len : ∀ {us ws : List AV}, LentL x y us ws → us.length = ws.length
  | [], [], _ => rfl
  | _ :: _, _ :: _, h => by simp [LentL.len h.2]
  | [], _ :: _, h => h.elim
  | _ :: _, [], h => h.elim
theorem LentL.at : ∀ {us ws : List AV}, LentL x y us ws → ∀ {j : Nat} {b : AV}, ws[j]? = some b → ∃ a, us[j]? = some a ∧ (a = b ∨ (a = x ∧ b = y))
  | [], [], _, j, b, hb => by simp at hb
  | a :: r, b' :: s, h, 0, b, hb => by cases hb; exact ⟨a, rfl, h.1⟩
  | a :: r, b' :: s, h, j + 1, b, hb => by
    obtain ⟨a', h1, h2⟩ := LentL.at h.2 (j := j) (b := b) (by simpa using hb)
    exact ⟨a', by simpa using h1, h2⟩
  | [], _ :: _, h, _, _, _ => h.elim
  | _ :: _, [], h, _, _, _ => h.elim
theorem LentA.len : ∀ {us ws : List AV}, LentA x y us ws → us.length = ws.length
  | [], [], _ => rfl
  | _ :: _, _ :: _, h => by simp [LentA.len h.2]
  | [], _ :: _, h => h.elim
  | _ :: _, [], h => h.elim
theorem LentA.at : ∀ {us ws : List AV}, LentA x y us ws → ∀ {j : Nat} {b : AV}, ws[j]? = some b → ∃ a, us[j]? = some a ∧ (a = b ∨ (a = x ∧ b = y) ∨ ∃ cs ds, a = .agg cs ∧ b = .agg ds ∧ LentL x y cs ds)
  | [], [], _, j, b, hb => by simp at hb
  | a :: r, b' :: s, h, 0, b, hb => by cases hb; exact ⟨a, rfl, h.1⟩
  | a :: r, b' :: s, h, j + 1, b, hb => by
    obtain ⟨a', h1, h2⟩ := LentA.at h.2 (j := j) (b := b) (by simpa using hb)
    exact ⟨a', by simpa using h1, h2⟩
  | [], _ :: _, h, _, _, _ => h.elim
  | _ :: _, [], h, _, _, _ => h.elim
theorem lent_rel (st : Stab G w G' w) (hx : ∀ v, RelV P G w x v → RelV P G' w y v) {a b : AV} (h : a = b ∨ (a = x ∧ b = y) ∨ ∃ cs ds, a = .agg cs ∧ b = .agg ds ∧ LentL x y cs ds) {v : Value} (hv : RelV P G w a v) : RelV P G' w b v := by
  rcases h with rfl | ⟨rfl, rfl⟩ | ⟨cs, ds, rfl, rfl, hl⟩
  · exact hv.stab st
  · exact hx v hv
  · cases hv with
    | agg _ vs h1 h2 =>
      refine .agg ds vs (h1.trans hl.len) fun j c u hc hu => ?_
      obtain ⟨a, ha, he⟩ := hl.at hc
      have := h2 j a u ha hu
      rcases he with rfl | ⟨rfl, rfl⟩
      · exact this.stab st
      · exact hx u this
end
section
variable {P : Program} {E : Nat}
end
end
section
open Go.RowKit
section
variable {P : Program} {n : Nat} {e e' : Es} {ops : Array Oper} {l l' rest : List Oper} {o : Oper} {Q : Es → Prop} {QE : Exit → Es → Prop} {d : Nat} {v : AV} {ρ : Type _} {t r : ρ}
theorem kCall [I : HasTab P] {fr : Fr} {loc : List (Nat × List AV)} {objs : Ob} {base : Nat → Option (List AV)} {f : FuncId} {c : Call} {args : List AV} {A B A' : Ob} (sel : List Nat) (he : Enters P f) (h : FCall P f args A (fun u outs => u = v ∧ outs = A')) (hs : pickO sel objs = some (A, B)) (ha : vArgs (HasTab.T P) (evE fr []) c.args.toList c.argTypes.toList = some args)
    (g : COps P n ops rest ⟨(d, [], v) :: fr, [], loc, A' ++ B, base⟩ Q)
    (hC : cndOf ops fr o = some [] := by rfl) (hd : o.dst = some d := by rfl) (hn : Nat.blt d n = true := by rfl) (ho : o.op = .call c := by rfl) (hc : c.callee = .value (.func f) := by rfl) : COps P n ops (o :: rest) ⟨fr, [], loc, objs, base⟩ Q :=
  cCall sel he h hs ha (by rintro _ _ ⟨rfl, rfl⟩; exact g) hC hd hn ho hc
end
end
section
open Go.RowKit

section
variable {P : Program} {n : Nat} {e e' : Es} {ops : Array Oper} {l rest : List Oper} {o : Oper} {Q : Es → Prop} {d : Nat} {x y : Operand} {t E : Nat} {i : Int} {k : IntKind} {v : AV} {C : Cnd}
/-- A call in which all objects go along. -/
theorem cCallA [I : HasTab P] {fr : Fr} {loc : List (Nat × List AV)} {objs : Ob} {base : Nat → Option (List AV)} {f : FuncId} {c : Call} {args : List AV} {R : AV → Ob → Prop} (he : Enters P f) (h : FCall P f args objs R) (ha : vArgs (HasTab.T P) (evE fr []) c.args.toList c.argTypes.toList = some args) (g : ∀ v outs, R v outs → COps P n ops rest ⟨(d, [], v) :: fr, [], loc, outs, base⟩ Q)
    (hC : cndOf ops fr o = some [] := by rfl) (hd : o.dst = some d := by rfl) (hn : Nat.blt d n = true := by rfl) (ho : o.op = .call c := by rfl) (hc : c.callee = .value (.func f) := by rfl) : COps P n ops (o :: rest) ⟨fr, [], loc, objs, base⟩ Q := by
  intro G a w K hr hfx hK
  have hfl : ∀ i, (getE fr i).1 = [] := by
    intro i
    cases hx : (getE fr i).1 with
    | nil => rfl
    | cons p r =>
      have := hr.gs i p (by show p ∈ (getE fr i).1; rw [hx]; exact List.mem_cons_self ..)
      cases this
  rw [show evE fr [] = ((⟨fr, [], loc, objs, base⟩ : Es).st []).eval from evE_fun ⟨fr, [], loc, objs, base⟩ []] at ha
  obtain ⟨h1, h2⟩ := vArgs_ok ha
  have key := AOps.call (P := P) (n := n) (ops := ops) (o := o) (rest := rest) (s := (⟨fr, [], loc, objs, base⟩ : Es).st []) (Q := fun s'' => ∃ e'', e''.st [] = s'' ∧ e''.nd ∧ Q e'') (wants0 (e := ⟨fr, [], loc, objs, base⟩) _ hC) hd (Nat.le_of_ble_eq_true hn) ho hc he (args_ok h2) (by simpa using h1.len) (fun j x v hj hv => h1.at j x v (by simpa using hj) hv)
    (R := fun r M' => ∃ outs, R r outs ∧ M' = lay outs base ∧ ndO outs base) (h base hr.nd) ?_
  · refine key G a w K (hr.st condOK_nil) hfx ?_
    rintro s'' G' a' w' ⟨e'', rfl, hn2, hq⟩ hr' hk
    exact hK e'' G' a' w' hq ⟨hr', hn2⟩ hk
  · rintro r M' ⟨outs, hR, rfl, hno⟩ G1 a1 w1 K1 hr1 hfx1 hK1
    refine g r outs hR G1 a1 w1 K1 ⟨hr1.size, hr1.defers, fun i _ => ?_, fun i hne => ?_, fun i p hp => ?_, hr1.loc, hr1.mem, hno⟩ hfx1 (fun e2 G2 a2 w2 hq hr2 hk2 => hK1 _ G2 a2 w2 ⟨e2, rfl, hr2.2, hq⟩ hr2.1 hk2)
    · have h3 := hr1.slot i
      have e1 : St.get { ((⟨fr, [], loc, objs, base⟩ : Es).st []).put d r with mem := lay outs base } i = valE [] (getE ((d, [], r) :: fr) i) := look_st [] ((d, [], r) :: fr) i
      rw [e1] at h3
      unfold valE at h3
      rw [show (getE ((d, [], r) :: fr) i).1 = [] from addF_get hfl [(d, r)] i] at h3
      exact h3
    · rw [show (getE ((d, [], r) :: fr) i).1 = [] from addF_get hfl [(d, r)] i] at hne
      exact absurd condOK_nil hne
    · rw [show (getE ((d, [], r) :: fr) i).1 = [] from addF_get hfl [(d, r)] i] at hp; cases hp
end
end
section
open Go.RowKit

theorem setRow_self {w : World} {g : Nat} {cur : Array Value} {T : TypeId} {fr : Nat × Nat} (hg : w.heap[g]? = some (.cells cur T fr)) : w.setRow g cur = w := by
  have hlt : g < w.heap.size := (Array.getElem?_eq_some_iff.1 hg).1
  have hv : w.heap[g] = .cells cur T fr := (Array.getElem?_eq_some_iff.1 hg).2
  have : (w.setRow g cur).heap = w.heap := by
    unfold World.setRow
    apply Array.ext
    · simp
    · intro k h1 h2
      simp only [Array.getElem_modify]
      split
      · rename_i hk
        subst hk
        simp [hv]
      · rfl
  cases w
  simp only [World.setRow] at this ⊢
  rw [this]
theorem setCells_row {g : Nat} {T : TypeId} {fr : Nat × Nat} : ∀ (vs : List Value) (o : Nat) (w : World) (cur : Array Value), w.heap[g]? = some (.cells cur T fr) → o + vs.length ≤ cur.size → w.setCells g o vs = w.setRow g (cur.toList.take o ++ vs ++ cur.toList.drop (o + vs.length)).toArray
  | [], o, w, cur, hg, _ => by
    simp only [World.setCells, List.append_nil, List.length_nil, Nat.add_zero, List.take_append_drop, Array.toArray_toList]
    exact (setRow_self hg).symm
  | v :: r, o, w, cur, hg, h => by
    simp only [List.length_cons] at h
    rw [World.setCells, setCell_eq_setRow w g o cur T fr v hg]
    rw [setCells_row r (o + 1) _ (cur.setIfInBounds o v) (setRow_heap w g cur _ T fr hg) (by simp; omega), setRow_setRow]
    congr 1
    apply Array.ext'
    simp only [Array.toList_setIfInBounds, List.length_cons]
    have hl : o < cur.toList.length := by simp; omega
    rw [List.take_set, List.drop_set_of_lt (by omega), List.take_succ_eq_append_getElem hl, List.set_append_right _ _ (by simp [List.length_take]; omega)]
    simp only [List.length_take]
    rw [Nat.min_eq_left (by omega), Nat.sub_self]
    simp only [List.set_cons_zero, List.append_assoc, List.cons_append, List.nil_append]
    rw [show o + 1 + r.length = o + (r.length + 1) by omega]
section
variable {P : Program} {n : Nat} {s : St} {ops : Array Oper} {o : Oper} {rest : List Oper} {Q : St → Prop} {d : Nat} {t tx E : TypeId} {x y : Operand}
/-- A part of an object is written. -/
theorem RelSt.writeM {G : Gh} {a : Act} {w : World} {cells ys : List AV} {us : List Value} {id off b0 : Nat} (hr : RelSt P G n s a w) (hc : s.mem id = some cells) (hb0 : G.mb id = some b0) (hL : RelL P G w ys us) (hscy : ∀ c ∈ ys, c.scalar = true) (hfl : ∀ c ∈ ys, c.flat = true) (hfit : off + ys.length ≤ cells.length) (hall : cells.all AV.scalar = true) (hne : cells ≠ []) :
    RelSt P G n { s with mem := setM s.mem id (splice cells off ys) } a (w.setCells b0 off us) ∧ Keep G w G (w.setCells b0 off us) := by
  obtain ⟨b', hb', hX⟩ := hr.mem.obj id cells hc
  obtain ⟨hH, arr0, hty⟩ := hX.cells hall hne
  rw [hb0] at hb'
  cases hb'
  have hH0 := hH
  obtain ⟨cur, T, hh, hcs, ho1, ht1, _, _⟩ := hH0
  have hul : us.length = ys.length := hL.1
  have hrun := setCells_row us off w cur hh (by omega)
  obtain ⟨W', hW⟩ : ∃ W', W' = w.setRow b0 (cur.toList.take off ++ us ++ cur.toList.drop (off + us.length)).toArray := ⟨_, rfl⟩
  rw [hrun, ← hW]
  have st : Stab G w G W' := by
    refine ⟨fun _ => Nat.le_refl _, fun b oo hoo => ?_, fun _ _ h => h⟩
    have hne : b ≠ b0 := fun e => by rw [e, ht1] at hoo; omega
    subst hW
    exact World.cell?_of_block (w := w) (a := ⟨b, oo, none⟩) (setRow_other w _ b _ hne)
  have other : ∀ q b, G.owner b = some q → q ≠ .mb id → W'.heap[b]? = w.heap[b]? := by
    intro q b h1 h2
    subst hW
    refine setRow_other w _ b _ (fun e => h2 ?_)
    rw [e, ho1] at h1
    exact (Option.some.inj h1).symm
  have hzz : W'.heap.size = w.heap.size := by rw [hW]; simp
  have hz : w.heap.size ≤ W'.heap.size := by omega
  refine ⟨⟨hr.size, hr.defers, fun i => ?_, fun k1 cells1 hk1 => ?_, ⟨fun i cs hi => ?_, fun b hb => hr.mem.far b (by omega), hr.mem.fin⟩⟩, ⟨by rw [hW]; rfl, by rw [hW]; rfl, by rw [hW]; rfl, hz, fun b hb hn => ⟨hn, ?_, rfl⟩, st⟩⟩
  · exact (hr.slot i).move st hz (fun _ _ _ => rfl) (fun c b _ h2 => ⟨h2, other _ b h2 (by intro h; cases h), rfl⟩)
  · have h0 := hr.loc k1 cells1 hk1
    exact h0.move st hz (other _ _ h0.own (by intro h; cases h)) rfl rfl (fun c b _ h2 => ⟨h2, other _ b h2 (by intro h; cases h), rfl⟩)
  · have hi' : setM s.mem id (splice cells off ys) i = some cs := hi
    by_cases e : i = id
    · subst e
      rw [setM_get] at hi'
      cases hi'
      refine ⟨b0, hb0, .inl ⟨hH.set hh hL hscy hfl (by omega) _ (by rw [hW, hul]) st hz (fun c b' _ h2 => other _ b' h2 (by intro h; cases h)), ?_⟩⟩
      rw [hh] at hty
      injection hty with hty
      injection hty with _ hT _
      exact ⟨_, by rw [hW, setRow_heap w b0 cur _ T _ hh, hT]⟩
    · rw [setM_ne e] at hi'
      obtain ⟨b2, hb2, hh2⟩ := hr.mem.obj i cs hi'
      exact ⟨b2, hb2, hh2.move st hz (fun _ hw => ⟨other _ _ hw (by intro h; injection h with h; exact e h), rfl, rfl⟩) (fun c b _ h2 => ⟨h2, other _ b h2 (by intro h; cases h), rfl⟩)⟩
  · subst hW
    refine setRow_other w _ b _ (fun e => ?_)
    rw [e, ho1] at hn; cases hn
/-- What a view of an object reads as: a slice. -/
theorem RelV.gslCases {G : Gh} {w : World} {id of len cap : Nat} {v : Value} (h : RelV P G w (.gsl id of len cap) v) : (∃ b, G.mb id = some b ∧ v = .slice (some ⟨b, of, none⟩) len cap ∧ len ≤ cap ∧ cap ≤ maxLen) ∨ (len = 0 ∧ cap = 0 ∧ ∃ b, v = .slice b 0 0) := by
  generalize hg : AV.gsl id of len cap = g at h
  cases h with
  | gsl id of len cap b h hc hm => cases hg; exact .inl ⟨b, h, rfl, hc, hm⟩
  | gsl0 => cases hg; exact .inr ⟨rfl, rfl, none, rfl⟩
  | gslz _ _ a => cases hg; exact .inr ⟨rfl, rfl, some a, rfl⟩
  | _ => cases hg
/-- A new row, which becomes an object. -/
theorem RelSt.newRowW {G : Gh} {a : Act} {w w1 : World} {avs : List AV} {vals : List Value} {len cap id : Nat} (hr : RelSt P G n s a w) (hw : w1 = w ∨ w1 = w.drew) (hn : d < n) (hL : RelL P G w avs vals) (hsc : ∀ c ∈ avs, c.scalar = true) (hfl : ∀ c ∈ avs, c.flat = true) (hlc : len ≤ cap) (hcm : cap ≤ maxLen) (hid : id % 10000 = E) (hmb : G.mb id = none) :
    ∃ G2, RelSt P G2 n { s with fr := (d, .gsl id 0 len cap) :: s.fr, mem := setM s.mem id avs } (a.put (some d) (.slice (some ⟨w.heap.size, 0, none⟩) len cap)) (w1.alloc (.cells vals.toArray E)) ∧ Keep G w G2 (w1.alloc (.cells vals.toArray E)) := by
  have hs1 : w1.heap.size = w.heap.size := by rcases hw with rfl | rfl <;> rfl
  have hh1 : ∀ k : Nat, w1.heap[k]? = w.heap[k]? := by rcases hw with rfl | rfl <;> exact fun _ => rfl
  have ho1 : w1.os = w.os ∧ w1.tape = w.tape ∧ w1.output = w.output := by rcases hw with rfl | rfl <;> exact ⟨rfl, rfl, rfl⟩
  obtain ⟨N, hN⟩ := hr.mem.fin
  have hfar := hr.mem.far
  obtain ⟨kp, how, hfar'⟩ := grown_new (G := G) (w := w) (w' := w1.alloc (.cells vals.toArray E)) (_v' := .slice none 0 0) (.mb id) 0 (by rw [size_alloc, hs1]) (fun k hk => (heap_alloc_old w1 _ (by rw [hs1]; exact hk)).trans (hh1 k)) hfar ho1.1 ho1.2.1 ho1.2.2
  have hT := hr.turn (G' := G.new w.heap.size (.mb id) 0) (d := d) (v := .lit (.slice (some ⟨w.heap.size, 0, none⟩) len cap)) (u := .slice (some ⟨w.heap.size, 0, none⟩) len cap) hn kp.stab (by rw [size_alloc, hs1]; omega) (fun _ _ => rfl)
    (fun q b h1 h2 _ => how q b h1 h2) hfar' rfl (lit_toS _)
  have hnew : (w1.alloc (.cells vals.toArray E)).heap[w.heap.size]? = some (.cells vals.toArray E (0, 0)) := by rw [← hs1]; exact heap_new w1 _
  have hX : ∀ G2 : Gh, Stab (G.new w.heap.size (.mb id) 0) (w1.alloc (.cells vals.toArray E)) G2 (w1.alloc (.cells vals.toArray E)) → G2.owner = (G.new w.heap.size (.mb id) 0).owner → G2.tip = (G.new w.heap.size (.mb id) 0).tip → HoldsX P G2 (w1.alloc (.cells vals.toArray E)) w.heap.size id avs := by
    intro G2 st ho ht
    refine .inl ⟨⟨vals.toArray, E, hnew, by simpa using hL.1, ?_, ?_, hsc, fun j c u h1 h2 => ?_⟩, vals.toArray, by rw [hid]; exact hnew⟩
    · rw [ho]; show (if w.heap.size = w.heap.size then _ else _) = _; simp
    · rw [ht]; show (if w.heap.size = w.heap.size then _ else _) = _; simp
    · exact (((hL.2 j c u h1 (by simpa using h2)).stab kp.stab).stab st).toO (hfl c (List.mem_of_getElem? h1))
  obtain ⟨G2, h1, h2, h3, h4⟩ := hr.named hn hT (hmb : (G.new w.heap.size (.mb id) 0).mb id = none) ⟨N, hN⟩ (b0 := w.heap.size) (of := 0) (m := len) (cp := cap) (fun G2 hG => .gsl id 0 len cap _ hG hlc hcm) hX
  exact ⟨G2, h1, ⟨kp.os, kp.tape, kp.output, kp.size, fun b hb hn => by
      obtain ⟨a1, a2, a3⟩ := kp.free b hb hn
      exact ⟨by rw [h3]; exact a1, a2, by rw [h4]; exact a3⟩, kp.stab.trans h2⟩⟩
theorem RelSt.newRow {G : Gh} {a : Act} {w : World} {avs : List AV} {vals : List Value} {len cap id : Nat} (hr : RelSt P G n s a w) (hn : d < n) (hL : RelL P G w avs vals) (hsc : ∀ c ∈ avs, c.scalar = true) (hfl : ∀ c ∈ avs, c.flat = true) (hlc : len ≤ cap) (hcm : cap ≤ maxLen) (hid : id % 10000 = E) (hmb : G.mb id = none) :
    ∃ G2, RelSt P G2 n { s with fr := (d, .gsl id 0 len cap) :: s.fr, mem := setM s.mem id avs } (a.put (some d) (.slice (some ⟨w.heap.size, 0, none⟩) len cap)) (w.drew.alloc (.cells vals.toArray E)) ∧ Keep G w G2 (w.drew.alloc (.cells vals.toArray E)) := hr.newRowW (.inr rfl) hn hL hsc hfl hlc hcm hid hmb
/-- A view's cells, as the machine has them. -/
theorem RelSt.viewM {G : Gh} {a : Act} {w : World} {cells : List AV} {id b0 : Nat} (hr : RelSt P G n s a w) (hc : s.mem id = some cells) (hb0 : G.mb id = some b0) (hall : cells.all AV.scalar = true) (hne : cells ≠ []) :
    ∃ (arr : Array Value) (T : TypeId), w.heap[b0]? = some (.cells arr T (0, 0)) ∧ arr.size = cells.length ∧ ∀ (j : Nat) (c : AV) (u : Value), cells[j]? = some c → arr[j]? = some u → RelV P G w c.un u := by
  obtain ⟨b', hb', hX⟩ := hr.mem.obj id cells hc
  obtain ⟨hH, arr0, hty⟩ := hX.cells hall hne
  rw [hb0] at hb'
  cases hb'
  obtain ⟨cur, T, hh, hcs, ho1, ht1, hsc, hrr⟩ := hH
  exact ⟨cur, T, hh, hcs, fun j c u h1 h2 => (hrr j c u h1 h2).un (hsc c (List.mem_of_getElem? h1))⟩
theorem relL_app {G : Gh} {w : World} {A B : List AV} {U V : List Value} (h : RelL P G w A U) (k : RelL P G w B V) : RelL P G w (A ++ B) (U ++ V) := by
  refine ⟨by simp [h.1, k.1], fun j c u h1 h2 => ?_⟩
  rcases Nat.lt_or_ge j A.length with hj | hj
  · rw [List.getElem?_append_left hj] at h1
    rw [List.getElem?_append_left (by rw [h.1]; exact hj)] at h2
    exact h.2 j c u h1 h2
  · rw [List.getElem?_append_right hj] at h1
    rw [List.getElem?_append_right (by rw [h.1]; exact hj), h.1] at h2
    exact k.2 _ c u h1 h2
theorem relL_lit {G : Gh} {w : World} (vs : List Value) : RelL P G w (vs.map .lit) vs := ⟨by simp, fun j c u h1 h2 => by
  rw [List.getElem?_map, h2] at h1
  cases h1
  exact RelV.lit u⟩
theorem flat_unEq {c : AV} (h : c.flat = true) : c.un = c := by
  cases c with
  | list o E xs => cases o <;> first | rfl | cases h
  | _ => first | rfl | cases h
/-- A list is appended to a list object: in place, or a new object. -/
theorem AOps.appG {α : Type} {f : α → AV} {xs m : List α} {sz id bytes : Nat} {pl sl : Slk sz} {i : TypeInfo} {z : Value} {c : Call} (hf : EncOK f sz) (h0 : sz ≠ 0) (hg : Wants ops s o) (hd : o.dst = some d) (hn : d < n) (ho : o.op = .call c) (hc : c.callee = .builtin .append) (ha : c.args = #[x, y]) (hat : c.argTypes = #[t, tx])
    (ht : P.underlying t = some (.slice E)) (hi : P.info? E = some i) (hz : i.zero = some z) (hsz : i.size = sz) (hby : i.bytes = bytes) (hzs : z.cells.size = sz) (hz1 : z.cells.toList.all (fun c => c.oneCell') = true) (hE : E < 10000)
    (hx : s.eval x = hdM id pl xs sl) (hm : s.mem id = some (lob pl f xs sl))
    (hsrc : ∀ (G : Gh) (a : Act) (w : World), RelSt P G n s a w → ∃ news, Src P sz tx (a.eval y) m.length news w ∧ RelL P G w (flt f m) news)
    (h63 : xs.length + m.length ≤ maxLen) (hb : (xs.length + m.length) * bytes ≤ 140737488355328)
    (k : ∀ id' (pl' sl' : Slk sz), (id' = id ∧ pl' = pl ∧ sl'.n + m.length = sl.n ∧ sl'.l = sl.l.drop (m.length * sz)) ∨ (s.mem id' = none ∧ sl.n < m.length) → AOps P n ops rest { s with fr := (d, hdM id' pl' (xs ++ m) sl') :: s.fr, mem := setM (fun j => if j = id then none else s.mem j) id' (lob pl' f (xs ++ m) sl') } Q) : AOps P n ops (o :: rest) s Q := by
  subst hsz
  subst hby
  intro G a w K hr hfx hK
  obtain ⟨news, hsr, hnr⟩ := hsrc G a w hr
  have hnl := hsr.newsLen
  have hscm : ∀ c ∈ flt f m, c.scalar = true := List.all_eq_true.1 (flt_all hf m).1
  have hflm : ∀ c ∈ flt f m, c.flat = true := List.all_eq_true.1 (flt_all hf m).2
  have hsmall : xs.length + m.length ≤ 9223372036854775807 := by simp only [maxLen] at h63; omega
  obtain ⟨N, hN⟩ := hr.mem.fin
  have hidE : (10000 * N + E) % 10000 = E := by rw [Nat.mul_add_mod]; exact Nat.mod_eq_of_lt hE
  have hge : N ≤ 10000 * N + E := Nat.le_trans (Nat.le_mul_of_pos_left N (by decide)) (Nat.le_add_right _ _)
  generalize 10000 * N + E = idn at hidE hge
  have hmb : G.mb idn = none := hN idn hge
  have hM : s.mem idn = none := by
    cases hx : s.mem idn with
    | none => rfl
    | some c => obtain ⟨b, hb, _⟩ := hr.mem.obj idn c hx; rw [hmb] at hb; cases hb
  have hne : idn ≠ id := fun e => by subst e; rw [hm] at hM; cases hM
  have hlob := lob_all hf pl xs sl
  have hll := lob_len hf pl xs sl
  -- a new row
  have grow : ∀ (base : Option Addr) (cap : Nat) (olds : List Value), sl.n < m.length → a.eval x = .slice base xs.length cap → (Builtin.firstCells i.size xs.length (.slice base xs.length cap)).run P w.drew = .ok olds.toArray w.drew → RelL P G w (flt f xs) olds → cap < xs.length + m.length → wpList P ops K (o :: rest) a w := by
    intro base cap olds hlt0 hval hold hro hg'
    have hge' := grownCap_ge w (xs.length + m.length) cap E
    have hcm := grownCap_le_maxLen w (xs.length + m.length) cap E h63
    have hr0 := run_append_grow_src (P := P) w t tx o.type E i z ht hi hz base xs.length cap olds hold (a.eval y) m.length news hsr hg' (by omega) (growslice_fits hg' hb)
    have hpz : ∀ u ∈ (Builtin.zeroCells z.cells (grownCap w (xs.length + m.length) cap E - (xs.length + m.length))).toList, u.oneCell' = true := by
      intro u hu
      unfold Builtin.zeroCells at hu
      simp only [Array.toList_map, List.mem_map, Array.mem_toList_iff, Array.mem_range] at hu
      obtain ⟨j, hj, rfl⟩ := hu
      have hzp : 0 < z.cells.size := by
        rcases Nat.eq_zero_or_pos z.cells.size with h | h
        · rw [h] at hj; omega
        · exact h
      have hlt : j % z.cells.size < z.cells.size := Nat.mod_lt _ hzp
      rw [getElem!_pos z.cells (j % z.cells.size) hlt]
      exact List.all_eq_true.1 hz1 _ (Array.mem_toList_iff.2 (Array.getElem_mem hlt))
    have hzl : (Builtin.zeroCells z.cells (grownCap w (xs.length + m.length) cap E - (xs.length + m.length))).toList.length = (grownCap w (xs.length + m.length) cap E - (xs.length + m.length)) * i.size := by
      rw [Array.length_toList, size_zeroCells, hzs]
    generalize hzc : Builtin.zeroCells z.cells (grownCap w (xs.length + m.length) cap E - (xs.length + m.length)) = zc at hr0 hpz hzl
    generalize hcap : grownCap w (xs.length + m.length) cap E = cap' at *
    obtain ⟨G2, q1, q2⟩ := hr.newRow (d := d) (E := E) (avs := flt f xs ++ flt f m ++ zc.toList.map .lit) (vals := olds ++ news ++ zc.toList) (len := xs.length + m.length) (cap := cap') (id := idn) hn (relL_app (relL_app hro hnr) (relL_lit _))
      (fun c hc => by
        rcases List.mem_append.1 hc with hc | hc
        · rcases List.mem_append.1 hc with hc | hc
          · exact List.all_eq_true.1 (flt_all hf xs).1 c hc
          · exact hscm c hc
        · obtain ⟨u, hu, rfl⟩ := List.mem_map.1 hc; exact hpz u hu)
      (fun c hc => by
        rcases List.mem_append.1 hc with hc | hc
        · rcases List.mem_append.1 hc with hc | hc
          · exact List.all_eq_true.1 (flt_all hf xs).2 c hc
          · exact hflm c hc
        · obtain ⟨u, hu, rfl⟩ := List.mem_map.1 hc; rfl)
      hge' hcm hidE hmb
    refine AOps.step1 hg hd hr hfx hK ⟨.slice (some ⟨w.heap.size, 0, none⟩) (xs.length + m.length) cap', _, G2, ?_, ?_, q2⟩ (k idn Slk.nil ⟨zc.toList.map .lit, cap' - (xs.length + m.length), by rw [List.length_map, hzl], by rw [List.all_map]; exact List.all_eq_true.2 fun u hu => hpz u hu⟩ (.inr ⟨hM, hlt0⟩))
    · have e : ((olds ++ news).toArray ++ zc) = (olds ++ news ++ zc.toList).toArray := by apply Array.ext'; simp
      rw [e] at hr0
      simp [execOp, ho, resolve, hc, ha, hat, invoke, builtin, hval, hr0]
    · refine ⟨q1.size, q1.defers, fun j => ?_, q1.loc, q1.mem.sub fun j c hj => ?_⟩
      · have := q1.slot j
        simp only [hdM, Slk.nil, Nat.zero_mul, List.length_append]
        rw [show xs.length + m.length + (cap' - (xs.length + m.length)) = cap' by omega]
        exact this
      · by_cases e : j = idn
        · subst e
          have hj' : setM (fun j => if j = id then none else s.mem j) j (lob Slk.nil f (xs ++ m) ⟨zc.toList.map .lit, cap' - (xs.length + m.length), _, _⟩) j = some c := hj
          rw [setM_get] at hj'
          show setM s.mem j _ j = some c
          rw [setM_get, ← hj']
          simp [lob, Slk.nil, flt_app]
        · have hj' : setM (fun j => if j = id then none else s.mem j) idn (lob Slk.nil f (xs ++ m) ⟨zc.toList.map .lit, cap' - (xs.length + m.length), _, _⟩) j = some c := hj
          rw [setM_ne e] at hj'
          show setM s.mem idn _ j = some c
          rw [setM_ne e]
          by_cases e2 : j = id
          · rw [if_pos e2] at hj'; cases hj'
          · rw [if_neg e2] at hj'; exact hj'
  have hv := hr.evM' hx
  rcases hv.gslCases with ⟨b, hb0, hval, hle, hmax⟩ | ⟨h1, h2, b, hval⟩
  · by_cases hem : pl.n + xs.length + sl.n = 0
    · have e1 : pl.n = 0 := by omega
      have e2 : xs.length = 0 := by omega
      have e3 : sl.n = 0 := by omega
      have ex : xs = [] := List.eq_nil_of_length_eq_zero e2
      subst ex
      by_cases hm0 : m = []
      · subst hm0
        have hn0 : news = [] := List.eq_nil_of_length_eq_zero (by simpa using hnl)
        subst hn0
        refine AOps.step1 hg hd hr hfx hK ⟨_, w, G, ?_, hr.put hn (show RelS P G w (.slot d) (hdM id pl ([] ++ []) sl) (a.eval x) from hv.toS rfl), Keep.refl _ _⟩ ?_
        · have := run_append_nothing (P := P) w t tx o.type E i ht hi (some ⟨b, pl.n * i.size, none⟩) 0 sl.n (by omega) (a.eval y) hsr
          simp [execOp, ho, resolve, hc, ha, hat, invoke, builtin, hval, this]
        · have := k id pl sl (.inl ⟨rfl, rfl, rfl, by simp⟩)
          refine cast ?_ this
          congr 1
          have : (setM (fun j => if j = id then none else s.mem j) id (lob pl f ([] ++ []) sl)) = s.mem := by
            funext j
            by_cases e : j = id
            · subst e; rw [setM_get, hm]; rfl
            · rw [setM_ne e, if_neg e]
          rw [this]; rfl
      · exact grow _ _ [] (by have := List.length_pos_iff.2 hm0; omega) hval (run_firstCells_some w.drew i.size 0 _ 0 _ [] (by simp) (fun j u h => by simp at h)) ⟨by simp [flt], fun j c u h => by simp [flt] at h⟩ (by have := List.length_pos_iff.2 hm0; simp; omega)
    · have hne' : lob pl f xs sl ≠ [] := fun e => by
        have := congrArg List.length e
        rw [hll] at this
        simp only [List.length_nil, Nat.mul_eq_zero] at this
        omega
      obtain ⟨arr, T, hh, has, harr⟩ := hr.viewM hm hb0 hlob hne'
      by_cases hroom : m.length ≤ sl.n
      · -- in place
        have hlen : (flt f m).length = m.length * i.size := flt_len hf m
        have hlx : (flt f xs).length = xs.length * i.size := flt_len hf xs
        have hsize : pl.n * i.size + xs.length * i.size + m.length * i.size ≤ (lob pl f xs sl).length := by
          rw [hll, ← Nat.add_mul, ← Nat.add_mul]
          exact Nat.mul_le_mul_right _ (by omega)
        have hcell : ∀ j, j < news.length → (w.cell? ⟨b, pl.n * i.size + xs.length * i.size + j, none⟩).isSome = true := by
          intro j hj
          rw [hnl] at hj
          simp only [World.cell?, hh, Option.isSome_none, Bool.false_eq_true, if_false]
          rw [Array.getElem?_eq_getElem (by omega)]; rfl
        have hr0 := run_append_room_src (P := P) w t tx o.type E i ht hi b (pl.n * i.size) xs.length (xs.length + sl.n) (a.eval y) m.length news hsr (by omega) hcell (fun j _ => frozen_of_row w b _ arr T hh)
        obtain ⟨w1, w2⟩ := hr.writeM hm hb0 hnr hscm hflm (off := pl.n * i.size + xs.length * i.size) (by rw [hlen]; exact hsize) hlob hne'
        have hgt : G.mb id = some b := hb0
        let sl' : Slk i.size := ⟨sl.l.drop (m.length * i.size), sl.n - m.length, by rw [List.length_drop, sl.len, ← Nat.sub_mul], List.all_eq_true.2 fun c hc => List.all_eq_true.1 sl.sc c (List.mem_of_mem_drop hc)⟩
        have hsp : splice (lob pl f xs sl) (pl.n * i.size + xs.length * i.size) (flt f m) = lob pl f (xs ++ m) sl' := by
          unfold splice lob
          have e1 : (pl.l ++ flt f xs).length = pl.n * i.size + xs.length * i.size := by rw [List.length_append, pl.len, hlx]
          rw [← e1, List.take_left, ← List.drop_drop, List.drop_left, hlen, flt_app]
          simp [List.append_assoc, sl']
        refine AOps.step1 hg hd hr hfx hK ⟨.slice (some ⟨b, pl.n * i.size, none⟩) (xs.length + m.length) (xs.length + sl.n), _, G, ?_, w1.put hn (show RelS P G _ (.slot d) (hdM id pl (xs ++ m) sl') _ from ?_), w2⟩ ?_
        · simp [execOp, ho, resolve, hc, ha, hat, invoke, builtin, hval, hr0]
        · have : RelV P G (w.setCells b (pl.n * i.size + xs.length * i.size) news) (.gsl id (pl.n * i.size) (xs.length + m.length) (xs.length + sl.n)) (.slice (some ⟨b, pl.n * i.size, none⟩) (xs.length + m.length) (xs.length + sl.n)) := .gsl id _ _ _ b hb0 (by omega) hmax
          have e : hdM id pl (xs ++ m) sl' = .gsl id (pl.n * i.size) (xs.length + m.length) (xs.length + sl.n) := by
            simp only [hdM, List.length_append, sl']
            rw [show xs.length + m.length + (sl.n - m.length) = xs.length + sl.n by omega]
          rw [e]
          exact this
        · have := k id pl sl' (.inl ⟨rfl, rfl, Nat.sub_add_cancel hroom, rfl⟩)
          refine cast ?_ this
          congr 1
          have : (setM (fun j => if j = id then none else s.mem j) id (lob pl f (xs ++ m) sl')) = setM s.mem id (splice (lob pl f xs sl) (pl.n * i.size + xs.length * i.size) (flt f m)) := by
            rw [hsp]
            funext j
            by_cases e : j = id
            · subst e; rw [setM_get, setM_get]
            · rw [setM_ne e, setM_ne e, if_neg e]
          rw [this]; rfl
      · have hcells : ∀ j c, (flt f xs)[j]? = some c → (lob pl f xs sl)[pl.n * i.size + j]? = some c := by
          intro j c hj
          have hjl := (List.getElem?_eq_some_iff.1 hj).1
          unfold lob
          rw [List.append_assoc, List.getElem?_append_right (by rw [pl.len]; omega), pl.len, Nat.add_sub_cancel_left, List.getElem?_append_left hjl]
          exact hj
        have hlx : (flt f xs).length = xs.length * i.size := flt_len hf xs
        have hin : ∀ j, j < xs.length * i.size → pl.n * i.size + j < arr.size := by
          intro j hj
          have h5 : (pl.n + xs.length) * i.size ≤ (pl.n + xs.length + sl.n) * i.size := Nat.mul_le_mul_right _ (by omega)
          rw [← hll, ← has, Nat.add_mul] at h5
          omega
        refine grow _ _ ((List.range (xs.length * i.size)).map fun j => arr.getD (pl.n * i.size + j) undef) (by omega) hval (run_firstCells_some w.drew i.size xs.length _ _ _ _ (by simp) (fun j u h => ?_)) ⟨by rw [hlx]; simp, fun j c u h1 h2 => ?_⟩ (by omega)
        · rw [List.getElem?_map] at h
          cases hj : (List.range (xs.length * i.size))[j]? with
          | none => rw [hj] at h; cases h
          | some j' =>
            rw [hj] at h
            cases h
            obtain ⟨hjl, hje⟩ := List.getElem?_eq_some_iff.1 hj
            simp only [List.length_range] at hjl
            rw [List.getElem_range] at hje
            subst hje
            have := hin j hjl
            have e : arr[pl.n * i.size + j]? = some (arr.getD (pl.n * i.size + j) undef) := by rw [Array.getD_eq_getD_getElem?, Array.getElem?_eq_getElem this]; rfl
            have hh' : w.drew.heap[b]? = some (.cells arr T (0, 0)) := hh
            simp only [Addr.add_lit, World.cell?, hh', Option.isSome_none, Bool.false_eq_true, if_false]
            exact e
        · have hjl := (List.getElem?_eq_some_iff.1 h1).1
          rw [hlx] at hjl
          rw [List.getElem?_map, List.getElem?_range hjl] at h2
          cases h2
          have hlt := hin j hjl
          have e : arr[pl.n * i.size + j]? = some (arr.getD (pl.n * i.size + j) undef) := by rw [Array.getD_eq_getD_getElem?, Array.getElem?_eq_getElem hlt]; rfl
          have := harr _ c _ (hcells j c h1) e
          rwa [flat_unEq (List.all_eq_true.1 (flt_all hf xs).2 c (List.mem_of_getElem? h1))] at this
  · have ex : xs = [] := List.eq_nil_of_length_eq_zero h1
    subst ex
    have hval' : a.eval x = .slice b ([] : List α).length 0 := hval
    by_cases hm0 : m = []
    · subst hm0
      have hn0 : news = [] := List.eq_nil_of_length_eq_zero (by simpa using hnl)
      subst hn0
      refine AOps.step1 hg hd hr hfx hK ⟨_, w, G, ?_, hr.put hn (show RelS P G w (.slot d) (hdM id pl ([] ++ []) sl) (a.eval x) from hv.toS rfl), Keep.refl _ _⟩ ?_
      · have := run_append_nothing (P := P) w t tx o.type E i ht hi b 0 0 (by omega) (a.eval y) hsr
        simp [execOp, ho, resolve, hc, ha, hat, invoke, builtin, hval, this]
      · have := k id pl sl (.inl ⟨rfl, rfl, rfl, by simp⟩)
        refine cast ?_ this
        congr 1
        have : (setM (fun j => if j = id then none else s.mem j) id (lob pl f ([] ++ []) sl)) = s.mem := by
          funext j
          by_cases e : j = id
          · subst e; rw [setM_get, hm]; rfl
          · rw [setM_ne e, if_neg e]
        rw [this]; rfl
    · refine grow b 0 [] (by have := List.length_pos_iff.2 hm0; simp only [List.length_nil] at h2; omega) hval' ?_ ⟨by simp [flt], fun j c u h => by simp [flt] at h⟩ (by have := List.length_pos_iff.2 hm0; simp; omega)
      cases b with
      | none => exact run_firstCells_none w.drew i.size 0 0 0
      | some ad => exact run_firstCells_some w.drew i.size 0 ad 0 0 [] (by simp) (fun j u h => by simp at h)
end
theorem lay_rep {base : Nat → Option (List AV)} : ∀ {objs : Ob} {j id id' : Nat} {cs cs' : List AV}, (objs.map (·.1)).Nodup → objs[j]? = some (id, cs) → base id = none → (id' = id ∨ id' ∉ objs.map (·.1)) → setM (fun k => if k = id then none else lay objs base k) id' cs' = lay (objs.set j (id', cs')) base
  | [], _, _, _, _, _, _, h, _, _ => by simp at h
  | (i0, c0) :: r, 0, id, id', cs, cs', hn, h, hb, hor => by
    simp only [List.getElem?_cons_zero, Option.some.injEq, Prod.mk.injEq] at h
    obtain ⟨rfl, rfl⟩ := h
    simp only [List.map_cons, List.nodup_cons] at hn
    funext k
    show setM (fun k => if k = i0 then none else setM (lay r base) i0 c0 k) id' cs' k = setM (lay r base) id' cs' k
    by_cases e : k = id'
    · subst e; rw [setM_get, setM_get]
    · rw [setM_ne e, setM_ne e]
      by_cases e2 : k = i0
      · subst e2; rw [if_pos rfl, lay_none hn.1, hb]
      · rw [if_neg e2, setM_ne e2]
  | (i0, c0) :: r, j + 1, id, id', cs, cs', hn, h, hb, hor => by
    simp only [List.map_cons, List.nodup_cons] at hn
    have h' : r[j]? = some (id, cs) := by simpa using h
    have hir : id ∈ r.map (·.1) := List.mem_map.2 ⟨_, List.mem_of_getElem? h', rfl⟩
    have hne : i0 ≠ id := fun e => hn.1 (e ▸ hir)
    have hne' : i0 ≠ id' := fun e => by
      rcases hor with h | h
      · exact hne (e.trans h)
      · exact h (by rw [List.map_cons, e]; exact List.mem_cons_self ..)
    have ih := lay_rep (cs' := cs') hn.2 h' hb (hor.imp (fun h => h) fun h => fun hm => h (List.mem_cons_of_mem _ hm))
    funext k
    show setM (fun k => if k = id then none else setM (lay r base) i0 c0 k) id' cs' k = setM (lay (r.set j (id', cs')) base) i0 c0 k
    rw [← ih]
    by_cases e : k = i0
    · subst e
      rw [setM_get, setM_ne hne', if_neg hne, setM_get]
    · rw [setM_ne e]
      by_cases e2 : k = id'
      · subst e2; rw [setM_get, setM_get]
      · rw [setM_ne e2, setM_ne e2, setM_ne e]
theorem ndO_rep {objs : Ob} {base : Nat → Option (List AV)} {j id id' : Nat} {cs cs' : List AV} (h : ndO objs base) (hj : objs[j]? = some (id, cs)) (hor : id' = id ∨ lay objs base id' = none) : ndO (objs.set j (id', cs')) base := by
  rcases hor with rfl | hor
  · exact ndO_set h (map_set_fst hj)
  · have hni : id' ∉ objs.map (·.1) := fun hm => lay_some hm hor
    have hb : base id' = none := by rwa [lay_none hni] at hor
    have e : (objs.set j (id', cs')).map (·.1) = (objs.map (·.1)).set j id' := by rw [List.map_set]
    refine ⟨?_, fun i hi => ?_⟩
    · rw [e]
      have hjl : j < objs.length := (List.getElem?_eq_some_iff.1 hj).1
      have key : ∀ (l : List Nat) (j : Nat), l.Nodup → id' ∉ l → (l.set j id').Nodup := by
        intro l
        induction l with
        | nil => intro j _ _; simp
        | cons a r ih =>
          intro j hn hm
          simp only [List.nodup_cons, List.mem_cons, not_or] at hn hm
          cases j with
          | zero => simp only [List.set_cons_zero, List.nodup_cons]; exact ⟨hm.2, hn.2⟩
          | succ j =>
            simp only [List.set_cons_succ, List.nodup_cons]
            refine ⟨fun h => ?_, ih j hn.2 hm.2⟩
            rcases List.mem_or_eq_of_mem_set h with h | h
            · exact hn.1 h
            · exact hm.1 h.symm
      exact key _ _ h.1 hni
    · rw [e] at hi
      rcases List.mem_or_eq_of_mem_set hi with h' | h'
      · exact h.2 i h'
      · rw [h']; exact hb
section
variable {P : Program} {n : Nat} {s : St} {e e' : Es} {ops : Array Oper} {l rest : List Oper} {o : Oper} {Q : Es → Prop} {d : Nat} {v : AV} {C : Cnd} {t t' tx E : Nat} {x y : Operand} {k : IntKind} {i : Int}
/-- An object gives way to another, which may be itself. -/
theorem COps.repV {ι : Type _} {fr : Fr} {loc : List (Nat × List AV)} {objs : Ob} {base : Nat → Option (List AV)} {V : Nat → ι → AV} {cells : ι → List AV} {ok : Nat → ι → Prop} {j id : Nat} {c0 : List AV} (hj : objs[j]? = some (id, c0))
    (h : ∀ Q', (∀ id' i, (id' = id ∨ lay objs base id' = none) → ok id' i → AOps P n ops rest ⟨(d, V id' i) :: ((⟨fr, [], loc, objs, base⟩ : Es).st []).fr, loc, setM (fun k => if k = id then none else lay objs base k) id' (cells i)⟩ Q') → AOps P n ops (o :: rest) ((⟨fr, [], loc, objs, base⟩ : Es).st []) Q')
    (g : ∀ id' i, ok id' i → COps P n ops rest ⟨(d, [], V id' i) :: fr, [], loc, objs.set j (id', cells i), base⟩ Q) : COps P n ops (o :: rest) ⟨fr, [], loc, objs, base⟩ Q := by
  intro G a w K hr hfx hK
  have hfl : ∀ i, (getE fr i).1 = [] := by
    intro i
    cases hx : (getE fr i).1 with
    | nil => rfl
    | cons p r =>
      have := hr.gs i p (by show p ∈ (getE fr i).1; rw [hx]; exact List.mem_cons_self ..)
      cases this
  have hnd : ndO objs base := hr.nd
  have hbi : base id = none := hnd.2 id (List.mem_map.2 ⟨_, List.mem_of_getElem? hj, rfl⟩)
  refine h (fun s'' => ∃ e'', e''.st [] = s'' ∧ e''.nd ∧ Q e'') (fun id' ix hor hok => ?_) G a w K (hr.st condOK_nil) hfx ?_
  · intro G1 a1 w1 K1 hr1 hfx1 hK1
    have hlay := lay_rep (cs' := cells ix) hnd.1 hj hbi (hor.imp (fun h => h) fun h hm => lay_some hm h)
    have hf' := addF_get hfl [(d, V id' ix)]
    rw [hlay] at hr1
    refine g id' ix hok G1 a1 w1 K1 ⟨hr1.size, hr1.defers, fun i _ => ?_, fun i hne => ?_, fun i p hp => ?_, hr1.loc, hr1.mem, ndO_rep hnd hj hor⟩ hfx1 (fun e2 G2 a2 w2 hq hr2 hk2 => hK1 _ G2 a2 w2 ⟨e2, rfl, hr2.2, hq⟩ hr2.1 hk2)
    · have h3 := hr1.slot i
      have e1 : St.get ⟨(d, V id' ix) :: ((⟨fr, [], loc, objs, base⟩ : Es).st []).fr, loc, lay (objs.set j (id', cells ix)) base⟩ i = valE [] (getE ((d, [], V id' ix) :: fr) i) := look_st [] ((d, [], V id' ix) :: fr) i
      rw [e1] at h3
      unfold valE at h3
      rw [show (getE ((d, [], V id' ix) :: fr) i).1 = [] from hf' i] at h3
      exact h3
    · rw [show (getE ((d, [], V id' ix) :: fr) i).1 = [] from hf' i] at hne
      exact absurd condOK_nil hne
    · rw [show (getE ((d, [], V id' ix) :: fr) i).1 = [] from hf' i] at hp; cases hp
  · rintro s'' G' a' w' ⟨e'', rfl, hn2, hq⟩ hr' hk
    exact hK e'' G' a' w' hq ⟨hr', hn2⟩ hk
/-- What is appended: a list. -/
theorem srcL {α : Type} {f : α → AV} {m : List α} {sz : Nat} {o2 : Bool} {s : St} (hu : P.underlying tx = some (.slice E)) (hs : SizeOf P E sz) (hy : s.eval y = .list o2 E (m.map f)) (G : Gh) (a : Act) (w : World) (hr : RelSt P G n s a w) : ∃ news, Src P sz tx (a.eval y) m.length news w ∧ RelL P G w (flt f m) news := by
  obtain ⟨news, h1, h2⟩ := src_list hu hs hy G a w hr
  obtain ⟨a1, a2, _⟩ := list_cells hs hy G a w hr
  rw [List.length_map] at h1
  exact ⟨news, h1, by rw [h1.newsLen]; have := flat_len a1; rw [List.length_map] at this; exact this.symm, h2⟩
/-- A list is appended to a list object. -/
theorem cAppG [I : HasTab P] {fr : Fr} {loc : List (Nat × List AV)} {objs : Ob} {base : Nat → Option (List AV)} {α : Type} {f : α → AV} {sz : Nat} {xs m r : List α} {o2 : Bool} {id t tx z1 z2 : Nat} {pl sl : Slk sz} {kk : TK} {c : Call} (j : Nat) (hf : EncOK f sz) (he : appO xs m = some r)
    (g : ∀ id' (pl' sl' : Slk sz), COps P n ops rest ⟨(d, [], hdM id' pl' r sl') :: fr, [], loc, objs.set j (id', lob pl' f r sl'), base⟩ Q)
    (hj : objs[j]? = some (id, lob pl f xs sl) := by rfl) (hC : cndOf ops fr o = some [] := by rfl) (hd : o.dst = some d := by rfl) (hn : Nat.blt d n = true := by rfl) (ho : o.op = .call c := by rfl) (hc : c.callee = .builtin .append := by rfl) (ha : c.args = #[x, y] := by rfl) (hat : c.argTypes = #[t, tx] := by rfl)
    (h1 : (HasTab.T P).look t = some (.slice E, z1) := by rfl) (h2 : (HasTab.T P).look tx = some (.slice E, z2) := by rfl) (h3 : (HasTab.T P).look E = some (kk, sz) := by rfl) (hB : memN E (HasTab.B P) = true := by rfl) (hz1 : oneZ P E = true := by kernel_rfl) (hE : Nat.blt E 10000 = true := by rfl) (h0 : sz ≠ 0 := by decide) (hx : evE fr [] x = hdM id pl xs sl := by rfl) (hy : evE fr [] y = .list o2 E (m.map f) := by rfl) : COps P n ops (o :: rest) ⟨fr, [], loc, objs, base⟩ Q := by
  obtain ⟨⟨D, hD, hk⟩, _⟩ := Tab.ok I.tok h1
  have := kOf_slice hk; subst this
  obtain ⟨⟨D2, hD2, hk2⟩, _⟩ := Tab.ok I.tok h2
  have := kOf_slice hk2; subst this
  have hs := (Tab.ok I.tok h3).2
  obtain ⟨ti, z, hi, hz, hzs, hb⟩ := BtOK.at I.bok hB
  have hsz : ti.size = sz := by unfold SizeOf at hs; rw [hi] at hs; simpa using hs
  obtain ⟨hl, hrm⟩ := appO_ok he
  subst hrm
  have hone : z.cells.toList.all (fun c => c.oneCell') = true := by
    unfold oneZ at hz1
    rw [hi] at hz1
    simp only [hz] at hz1
    exact hz1
  refine COps.nd fun hnd => COps.repV (ι := Slk sz × Slk sz) (V := fun id' p => hdM id' p.1 (xs ++ m) p.2) (cells := fun p => lob p.1 f (xs ++ m) p.2) (ok := fun _ _ => True) hj (fun Q' hk => ?_) (fun id' p _ => g id' p.1 p.2)
  exact AOps.appG hf h0 (wants0 (e := ⟨fr, [], loc, objs, base⟩) _ hC) hd (Nat.le_of_ble_eq_true hn) ho hc ha hat hD hi hz hsz rfl (by rw [hzs, hsz]) hone (Nat.le_of_ble_eq_true hE) (ev_st (e := ⟨fr, [], loc, objs, base⟩) hx) (lay_nth hnd.1 hj) (srcL hD2 hs (ev_st (e := ⟨fr, [], loc, objs, base⟩) hy)) (Nat.le_trans hl (by decide)) (Nat.le_trans (Nat.mul_le_mul hl hb) (by decide))
    (fun id' pl' sl' hor => hk id' (pl', sl') (hor.imp (fun h => h.1) fun h => h.1) trivial)
end
section
variable {P : Program} {n : Nat} {s : St} {ops : Array Oper} {o : Oper} {rest : List Oper} {Q : St → Prop} {d : Nat} {t tx E : TypeId} {x y : Operand}
end
section
variable {P : Program} {n : Nat} {s : St} {e e' : Es} {ops : Array Oper} {l rest : List Oper} {o : Oper} {Q : Es → Prop} {d : Nat} {v : AV} {C : Cnd} {t t' tx E : Nat} {x y : Operand} {k : IntKind} {i : Int}
end
section
variable {P : Program} {n : Nat} {s : St} {ops : Array Oper} {o : Oper} {rest : List Oper} {Q : St → Prop} {d : Nat} {t tx E : TypeId} {x y : Operand}
end
section
variable {P : Program} {n : Nat} {s : St} {e e' : Es} {ops : Array Oper} {l rest : List Oper} {o : Oper} {Q : Es → Prop} {d : Nat} {v : AV} {C : Cnd} {t t' tx E : Nat} {x y : Operand} {k : IntKind} {i : Int}
/-- Slots and cells told otherwise, which are the same. -/
theorem cRe {L : AV} {fr fr' : Fr} {gs : List Nat} {loc loc' : List (Nat × List AV)} {objs : Ob} {base : Nat → Option (List AV)} (ts : List Nat) (cs : List (Nat × Nat)) (hv : v = L)
    (g : COps P n ops l ⟨fr', [], loc', objs, base⟩ Q) (h1 : areS v L ts fr := by exact ⟨rfl, trivial⟩) (h2 : areC v L cs loc := by trivial)
    (hs : frzS L ts fr = fr' := by rfl) (hl : frzC L cs loc = loc' := by rfl) (hfl : flatB fr' = true := by rfl) (hsc : L.scalar = true := by rfl) : COps P n ops l ⟨fr, gs, loc, objs, base⟩ Q := by
  subst hv hs hl
  intro G a w K hr hfx hK
  have hnd := hr.nd
  have keyS : ∀ ts, areS v v ts fr → RelSt P G n ⟨(frzS v ts fr).map fun p => (p.1, valE [] p.2), loc, lay objs base⟩ a w := by
    intro ts
    induction ts with
    | nil => intro _; exact hr.st condOK_nil
    | cons t r ih =>
      rintro ⟨ha, hb⟩
      exact (ih hb).reSlot (t := t) (v := v) ((st_get (⟨frzS v r fr, [], loc, [], lay objs base⟩ : Es) [] t).trans ha) (fun _ h => h)
  have keyC : ∀ cs, areC v v cs loc → RelSt P G n ⟨(frzS v ts fr).map fun p => (p.1, valE [] p.2), frzC v cs loc, lay objs base⟩ a w := by
    intro cs
    induction cs with
    | nil => intro _; exact keyS ts h1
    | cons p r ih =>
      obtain ⟨k, c⟩ := p
      rintro ⟨⟨cs0, ha, hb⟩, hc⟩
      exact (ih hc).reCell ha hb hsc (fun _ h => h)
  exact g G a w K (RelE.of (keyC cs h2) hfl hnd) hfx hK
theorem hdM_set {α : Type} {sz id : Nat} {pl sl : Slk sz} {xs : List α} {k : Nat} {c : α} : hdM id pl xs sl = hdM id pl (xs.set k c) sl := by simp [hdM]
end
end
section
open Go.RowKit

section
variable {P : Program} {n : Nat} {s : St} {ops : Array Oper} {o : Oper} {rest : List Oper} {Q : St → Prop}
theorem AOps.toG {id : Nat} {T : List (List UInt8 × AV)} {l : List Oper} (hc : s.mem id = some (mapA T)) (h : AOps P n ops l { s with mem := setM s.mem id (mapG (T.map fun p => (keS p.1, p.2))) } Q) : AOps P n ops l s Q :=
  fun G a w K hr hfx hK => h G a w K (hr.toG hc) hfx hK
end
section
variable {P : Program} {n : Nat} {e e' : Es} {ops : Array Oper} {l rest : List Oper} {o : Oper} {Q : Es → Prop} {QE : Exit → Es → Prop} {d : Nat} {v : AV} {C : Cnd} {t t' E kt kt' et : Nat} {x y z : Operand} {k : IntKind} {i j : Int}
/-- A new object: whatever its name. -/
theorem COps.newP {pv : Nat → AV} {fr : Fr} {loc : List (Nat × List AV)} {objs : Ob} {base : Nat → Option (List AV)} {cells : List AV}
    (h : ∀ Q', (∀ id, lay objs base id = none → AOps P n ops rest ⟨(d, pv id) :: ((⟨fr, [], loc, objs, base⟩ : Es).st []).fr, loc, setM (lay objs base) id cells⟩ Q') → AOps P n ops (o :: rest) ((⟨fr, [], loc, objs, base⟩ : Es).st []) Q')
    (g : ∀ id, COps P n ops rest ⟨(d, [], pv id) :: fr, [], loc, (id, cells) :: objs, base⟩ Q) : COps P n ops (o :: rest) ⟨fr, [], loc, objs, base⟩ Q := by
  intro G a w K hr hfx hK
  have hfl : ∀ i, (getE fr i).1 = [] := by
    intro i
    cases hx : (getE fr i).1 with
    | nil => rfl
    | cons p r =>
      have := hr.gs i p (by show p ∈ (getE fr i).1; rw [hx]; exact List.mem_cons_self ..)
      cases this
  have hnd : ndO objs base := hr.nd
  refine h (fun s'' => ∃ e'', e''.st [] = s'' ∧ e''.nd ∧ Q e'') (fun id hid => ?_) G a w K (hr.st condOK_nil) hfx ?_
  · intro G1 a1 w1 K1 hr1 hfx1 hK1
    have hni : id ∉ objs.map (·.1) := fun hm => lay_some hm hid
    have hb : base id = none := by rwa [lay_none hni] at hid
    have hnd' : ndO ((id, cells) :: objs) base := ⟨List.nodup_cons.2 ⟨hni, hnd.1⟩, fun i hi => by
      rcases List.mem_cons.1 hi with e | e
      · subst e; exact hb
      · exact hnd.2 i e⟩
    have hf' := addF_get hfl [(d, pv id)]
    refine g id G1 a1 w1 K1 ⟨hr1.size, hr1.defers, fun i _ => ?_, fun i hne => ?_, fun i p hp => ?_, hr1.loc, hr1.mem, hnd'⟩ hfx1 (fun e2 G2 a2 w2 hq hr2 hk2 => hK1 _ G2 a2 w2 ⟨e2, rfl, hr2.2, hq⟩ hr2.1 hk2)
    · have h3 := hr1.slot i
      have e1 : St.get ⟨(d, pv id) :: ((⟨fr, [], loc, objs, base⟩ : Es).st []).fr, loc, setM (lay objs base) id cells⟩ i = valE [] (getE ((d, [], pv id) :: fr) i) := look_st [] ((d, [], pv id) :: fr) i
      rw [e1] at h3
      unfold valE at h3
      rw [show (getE ((d, [], pv id) :: fr) i).1 = [] from hf' i] at h3
      exact h3
    · rw [show (getE ((d, [], pv id) :: fr) i).1 = [] from hf' i] at hne
      exact absurd condOK_nil hne
    · rw [show (getE ((d, [], pv id) :: fr) i).1 = [] from hf' i] at hp; cases hp
  · rintro s'' G' a' w' ⟨e'', rfl, hn2, hq⟩ hr' hk
    exact hK e'' G' a' w' hq ⟨hr', hn2⟩ hk


variable {κ β : Type} [DecidableEq κ] {ke : κ → Value} {vf : β → AV} {S : List (κ × β)} {fr : Fr} {loc : List (Nat × List AV)} {objs : Ob} {base : Nat → Option (List AV)} {id : Nat}
omit [DecidableEq κ] in
/-- A new map. -/
theorem cMap (ke : κ → Value) (vf : β → AV) (g : ∀ id, COps P n ops rest ⟨(d, [], .gmap id) :: fr, [], loc, (id, mapO ke vf []) :: objs, base⟩ Q)
    (hC : cndOf ops fr o = some [] := by rfl) (hd : o.dst = some d := by rfl) (hn : Nat.blt d n = true := by rfl) (ho : o.op = .makeMap t none := by rfl) : COps P n ops (o :: rest) ⟨fr, [], loc, objs, base⟩ Q := by
  refine COps.newP (pv := .gmap) (fun Q' hk => ?_) g
  refine AOps.newMap (wants0 (e := ⟨fr, [], loc, objs, base⟩) _ hC) hd (Nat.le_of_ble_eq_true hn) ho fun id hid => ?_
  refine AOps.toG (T := []) setM_get ?_
  have := hk id hid
  show AOps P n ops rest ⟨_, _, setM (setM (lay objs base) id (mapA [])) id (mapG [])⟩ Q'
  rw [setM_setM]
  exact this
theorem keyStr {G : Gh} {a : Act} {w : World} {k : List UInt8} (hy : evE fr [] y = .str k) : RelSt P G n ((⟨fr, [], loc, objs, base⟩ : Es).st []) a w → a.eval y = keS k :=
  fun hr => hr.evStr (ev_st (e := ⟨fr, [], loc, objs, base⟩) hy)
/-- A map is asked. -/
theorem cAskG (q : Nat) {k : κ} (z1 : β) {z0 : Value} (K : KeyT P kt ke) (ht : P.underlying t = some (.map kt et)) (hz : (P.info? et).map (·.zero) = some (some z0)) (hzv : ∀ G w, RelV P G w (vf z1) z0) (hfl : ∀ v, (vf v).flat = true) (hy : ∀ (G : Gh) a w, RelSt P G n ((⟨fr, [], loc, objs, base⟩ : Es).st []) a w → a.eval y = ke k)
    (g : COps P n ops rest ⟨(d, [], .tuple [vf ((getL k S).getD z1), .lit (.bool (getL k S).isSome)]) :: fr, [], loc, objs, base⟩ Q) (hj : objs[q]? = some (id, mapO ke vf S) := by rfl) (ho : o.op = .lookup t x y true := by rfl) (hx : evE fr [] x = .gmap id := by rfl)
    (hC : cndOf ops fr o = some [] := by rfl) (hd : o.dst = some d := by rfl) (hn : Nat.blt d n = true := by rfl) : COps P n ops (o :: rest) ⟨fr, [], loc, objs, base⟩ Q :=
  COps.nd fun hnd => rd (Reader.askG K ht hz hzv hfl (lay_nth hnd.1 hj) hy ho (ev_st (e := ⟨fr, [], loc, objs, base⟩) hx)) g hC hd hn rfl
theorem cGetG (q : Nat) {k : κ} (z1 : β) {z0 : Value} (K : KeyT P kt ke) (ht : P.underlying t = some (.map kt et)) (hz : (P.info? et).map (·.zero) = some (some z0)) (hzv : ∀ G w, RelV P G w (vf z1) z0) (hfl : ∀ v, (vf v).flat = true) (hy : ∀ (G : Gh) a w, RelSt P G n ((⟨fr, [], loc, objs, base⟩ : Es).st []) a w → a.eval y = ke k)
    (g : COps P n ops rest ⟨(d, [], vf ((getL k S).getD z1)) :: fr, [], loc, objs, base⟩ Q) (hj : objs[q]? = some (id, mapO ke vf S) := by rfl) (ho : o.op = .lookup t x y false := by rfl) (hx : evE fr [] x = .gmap id := by rfl)
    (hC : cndOf ops fr o = some [] := by rfl) (hd : o.dst = some d := by rfl) (hn : Nat.blt d n = true := by rfl) : COps P n ops (o :: rest) ⟨fr, [], loc, objs, base⟩ Q :=
  COps.nd fun hnd => rd (Reader.getG K ht hz hzv hfl (lay_nth hnd.1 hj) hy ho (ev_st (e := ⟨fr, [], loc, objs, base⟩) hx)) g hC hd hn rfl
/-- A key's value is written. -/
theorem cPutG [_I : HasTab P] (q : Nat) {k : κ} (v : β) (K : KeyT P kt ke) (ht : P.underlying t = some (.map kt et)) (hfl : ∀ v, (vf v).flat = true) (hy : ∀ (G : Gh) a w, RelSt P G n ((⟨fr, [], loc, objs, base⟩ : Es).st []) a w → a.eval y = ke k)
    (g : COps P n ops rest ⟨fr, [], loc, objs.set q (id, mapO ke vf (setL k v S)), base⟩ Q) (hj : objs[q]? = some (id, mapO ke vf S) := by rfl) (ho : o.op = .mapUpdate t x y z ∨ o.op = .insert t x y z := by exact .inl rfl) (hx : evE fr [] x = .gmap id := by rfl) (hz : (evE fr [] z).un = vf v := by rfl) (hok : Operand.ok z = true := by rfl)
    (hC : cndOf ops fr o = some [] := by rfl) (hd : o.dst = none := by rfl) : COps P n ops (o :: rest) ⟨fr, [], loc, objs, base⟩ Q :=
  COps.nd fun hnd => COps.eff0 (e := ⟨fr, [], loc, objs, base⟩) (add := []) (objs' := objs.set q (id, mapO ke vf (setL k v S))) rfl (fun Q' hk => AOps.putG (v := v) K (wants0 (e := ⟨fr, [], loc, objs, base⟩) _ hC) hd ho ht (ev_st (e := ⟨fr, [], loc, objs, base⟩) hx) (lay_nth hnd.1 hj) hy (.inl ⟨by rw [ev_st (e := ⟨fr, [], loc, objs, base⟩) (x := z) rfl]; exact hz, hfl v⟩) hok (lay_set hnd.1 hj) hk) (fun h => ndO_set h (map_set_fst hj)) g
end
end
section
open Go.RowKit
section
variable {P : Program} {n : Nat} {e e' : Es} {ops : Array Oper} {l rest : List Oper} {o : Oper} {Q : Es → Prop} {d : Nat} {x y : Operand} {t : Nat} {v c0 : AV}
theorem nth_split {α : Type} {l : List α} {k : Nat} {c : α} (h : l[k]? = some c) : ∃ A B, l = A ++ ([c] ++ B) ∧ A.length = k ∧ ∀ c', l.set k c' = A ++ ([c'] ++ B) := by
  obtain ⟨hk, rfl⟩ := List.getElem?_eq_some_iff.1 h
  refine ⟨l.take k, l.drop (k + 1), ?_, by simp; omega, fun c' => ?_⟩
  · rw [List.singleton_append, ← List.drop_eq_getElem_cons hk, List.take_append_drop]
  · rw [List.set_eq_take_append_cons_drop, if_pos hk, List.singleton_append]
/-- A store. -/
theorem cStF [I : HasTab P] {c1 : AV} {cells : List AV} {p : Nat} {fr : Fr} {loc : List (Nat × List AV)} {objs objs' : Ob} {base : Nat → Option (List AV)} {id : Nat} (j : Nat) (cells' : List AV) (hp : cells[p]? = some c0) (hc' : cells.set p c1 = cells')
    (g : COps P n ops rest ⟨fr, [], loc, objs', base⟩ Q) (hj : objs[j]? = some (id, cells) := by rfl) (ho : o.op = .store t x y := by rfl) (hs : vStore (HasTab.T P) (evE fr []) t y [c0] 0 = some [c1] := by rfl) (hx : evE fr [] x = .gptr id p := by rfl)
    (ho' : objs.set j (id, cells') = objs' := by rfl) (hsc : scl cells = true := by rfl) (hC : cndOf ops fr o = some [] := by rfl) (hd : o.dst = none := by rfl) : COps P n ops (o :: rest) ⟨fr, [], loc, objs, base⟩ Q := by
  obtain ⟨A, B, a1, a2, a3⟩ := nth_split hp
  rw [evE_fun ⟨fr, [], loc, objs, base⟩ []] at hs
  obtain ⟨size, u, g1, g2, g3, g4, g5, g6, g7, g8⟩ := vStore_ok I.tok hs
  have hsp2 : splice cells p u.cells = cells' := by
    rw [← hc', a3, a1, ← a2]
    have := splice_mid (off := 0) (A := A) (B := B) (C := [c0]) (vs := u.cells) (by rw [g6]; simpa using g7)
    rw [← g8, List.append_assoc, List.append_assoc] at this
    exact this
  have hfit : p + size ≤ cells.length := by
    rw [a1]; simp only [List.length_append, List.length_singleton]; simp only [List.length_singleton, Nat.zero_add] at g7; omega
  refine COps.nd fun hnd => COps.eff0 (e := ⟨fr, [], loc, objs, base⟩) (add := []) (objs' := objs') rfl (fun Q' hk => AOps.storeG (wants0 (e := ⟨fr, [], loc, objs, base⟩) _ hC) hd ho (ev_st (e := ⟨fr, [], loc, objs, base⟩) hx) (lay_nth hnd.1 hj) g1 g2 g3 g4 g5 g6 hfit ?_ hk (scl_ok hsc).1 (scl_ok hsc).2) (fun h => ?_) g
  · rw [hsp2, ← ho']; exact lay_set hnd.1 hj
  · rw [← ho']; exact ndO_set h (map_set_fst hj)
end
end
section
open Go.RowKit
section
variable {P : Program} {n : Nat} {s : St} {e e' : Es} {ops : Array Oper} {l rest : List Oper} {o : Oper} {Q : Es → Prop} {d : Nat} {v : AV} {E : Nat}
/-- An object's nil becomes an empty list object. -/
theorem cNilCell {α : Type} {sz : Nat} {fr : Fr} {loc : List (Nat × List AV)} {objs : Ob} {base : Nat → Option (List AV)} {id : Nat} {cells : List AV} (f : α → AV) (j c E : Nat) (g : ∀ m, COps P n ops l ⟨fr, [], loc, (m, lob (Slk.nil (sz := sz)) f [] (Slk.nil (sz := sz))) :: objs.set j (id, cells.set c (hdM m (Slk.nil (sz := sz)) ([] : List α) (Slk.nil (sz := sz)))), base⟩ Q)
    (hj : objs[j]? = some (id, cells) := by rfl) (hc : cells[c]? = some (.lit (.slice none 0 0)) := by rfl) (hs : cells.all AV.scalar = true := by rfl) (hf : flatB fr = true := by rfl) : COps P n ops l ⟨fr, [], loc, objs, base⟩ Q := by
  intro G a w K hr hfx hK
  have hS := hr.st condOK_nil
  have hnd : ndO objs base := hr.nd
  obtain ⟨N, hN⟩ := hS.mem.fin
  have hge : N ≤ 10000 * N + E := Nat.le_trans (Nat.le_mul_of_pos_left N (by decide)) (Nat.le_add_right _ _)
  have g := g (10000 * N + E)
  generalize 10000 * N + E = m at hge g
  have hmb : G.mb m = none := hN m hge
  have hM : lay objs base m = none := by
    cases hx : lay objs base m with
    | none => rfl
    | some c => obtain ⟨b, hb, _⟩ := hS.mem.obj m c hx; rw [hmb] at hb; cases hb
  let G' : Gh := { G with mb := fun i => if i = m then some 0 else G.mb i }
  have hmbG : ∀ i b, G.mb i = some b → G'.mb i = some b := fun i b h => by
    show (if i = m then some 0 else G.mb i) = some b
    rw [if_neg (fun e => by subst e; rw [hmb] at h; cases h)]; exact h
  have st : Stab G w G' w := ⟨fun _ => Nat.le_refl _, fun _ _ _ => rfl, hmbG⟩
  have hT := hS.reghost (G' := G') st rfl rfl rfl ⟨N + m + 1, fun i hi => by
    show (if i = m then some 0 else G.mb i) = none
    rw [if_neg (by omega)]; exact hN i (by omega)⟩
  have kp : Keep G w G' w := ⟨rfl, rfl, rfl, Nat.le_refl _, fun b hb h => ⟨h, rfl, rfl⟩, st⟩
  have hne : m ∉ objs.map (·.1) ∧ base m = none := by
    have hni : m ∉ objs.map (·.1) := fun hm => lay_some hm hM
    exact ⟨hni, by rwa [lay_none hni] at hM⟩
  have hmap : (objs.set j (id, cells.set c (.gsl m 0 0 0))).map (·.1) = objs.map (·.1) := map_set_fst hj
  have hnd1 : ndO (objs.set j (id, cells.set c (.gsl m 0 0 0))) base := ndO_set hnd hmap
  have hnd2 : ndO ((m, []) :: objs.set j (id, cells.set c (.gsl m 0 0 0))) base := ⟨List.nodup_cons.2 ⟨by show m ∉ List.map _ _; rw [hmap]; exact hne.1, hnd1.1⟩, fun i hi => by
    rcases List.mem_cons.1 hi with e | e
    · subst e; exact hne.2
    · exact hnd1.2 i e⟩
  have mem : RelM P G' w (lay ((m, []) :: objs.set j (id, cells.set c (.gsl m 0 0 0))) base) := by
    refine ⟨fun i cs h => ?_, hT.mem.far, hT.mem.fin⟩
    have h' : setM (lay (objs.set j (id, cells.set c (.gsl m 0 0 0))) base) m [] i = some cs := h
    by_cases e : i = m
    · subst e
      rw [setM_get] at h'
      cases h'
      exact ⟨0, by show (if i = i then some 0 else _) = _; simp, .inr (.inr (.inl rfl))⟩
    · rw [setM_ne e, ← lay_set hnd.1 hj] at h'
      by_cases e2 : i = id
      · subst e2
        rw [setM_get] at h'
        cases h'
        obtain ⟨b, hb, hX⟩ := hT.mem.obj i cells (lay_nth hnd.1 hj)
        obtain ⟨⟨arr, T, h1, h2, h3, h4, h5, h6⟩, h7⟩ := hX.cells hs (by intro e; rw [e] at hc; simp at hc)
        refine ⟨b, hb, .inl ⟨⟨arr, T, h1, by simpa using h2, h3, h4, fun x hcm => ?_, fun k x u hk hu => ?_⟩, h7⟩⟩
        · rcases List.mem_or_eq_of_mem_set hcm with h | rfl
          · exact h5 x h
          · rfl
        · rw [List.getElem?_set] at hk
          split at hk
          · rename_i ejk
            subst ejk
            split at hk
            · cases hk
              have h8 := h6 c _ u hc hu
              have e8 : u = .slice none 0 0 := by
                have h9 : RelV P G' w (.lit (.slice none 0 0)) u := h8
                cases h9; rfl
              subst e8
              exact RelV.gsl0 m 0
            · cases hk
          · exact h6 k x u hk hu
      · rw [setM_ne e2] at h'
        exact hT.mem.obj i cs h'
  simp only [hdM, lob, Slk.nil, Nat.zero_mul, List.length_nil, Nat.add_zero, List.append_nil, flt, List.map_nil, List.flatMap_nil] at g
  exact g G' a w K (RelE.of ⟨hT.size, hT.defers, hT.slot, hT.loc, mem⟩ hf hnd2) (hfx.keep kp) fun e2 G2 a2 w2 hq hr2 hk2 => hK e2 G2 a2 w2 hq hr2 (kp.trans hk2)

/-- What is told the same of whatever memory: texts, numbers; new lists of such. -/
def grd1 : AV → Bool
  | .lit _ | .str _ => true
  | _ => false
def grdA (v : AV) : Bool := v.cells.all grd1
def grdL : AV → Bool
  | .list true _ ys => ys.all grdA
  | .list false _ _ => false
  | x => grdA x
def grd : AV → Bool
  | .tuple cs => cs.all grdL
  | x => grdL x
theorem grd1_rel {G G' : Gh} {w w' : World} {c : AV} {u : Value} (h : grd1 c = true) (hr : RelV P G w c u) : RelV P G' w' c u := by
  cases hr with
  | lit u => exact .lit u
  | str l => exact .str l
  | _ => cases h
theorem grdA_rel {G G' : Gh} {w w' : World} {c : AV} {u : Value} (h : grdA c = true) (hr : RelV P G w c u) : RelV P G' w' c u := by
  cases hr with
  | agg cs vs hl hr => exact .agg cs vs hl fun j c v h1 h2 => grd1_rel (List.all_eq_true.1 h c (List.mem_of_getElem? h1)) (hr j c v h1 h2)
  | lit u => exact .lit u
  | str l => exact .str l
  | any => exact absurd h (by simp [grdA, AV.cells, grd1])
  | fn => exact absurd h (by simp [grdA, AV.cells, grd1])
  | tuple => exact absurd h (by simp [grdA, AV.cells, grd1])
  | _ => exact absurd h (by simp [grdA, AV.cells, grd1])
end
end
section
open Go.RowKit
section
variable {P : Program} {n : Nat} {s : St} {ops : Array Oper} {o : Oper} {l rest : List Oper} {Q : St → Prop} {d r f : Nat} {t t' E T : TypeId} {x y : Operand} {k : IntKind} {i j : Int}
end
section
variable {P : Program} {n : Nat} {e e' : Es} {ops : Array Oper} {l rest : List Oper} {o : Oper} {Q : Es → Prop} {QE : Exit → Es → Prop} {d : Nat} {v : AV} {C : Cnd} {t t' E : Nat} {x y : Operand}
theorem FCall.frame {f : FuncId} {args : List AV} {A : Ob} {R : AV → Ob → Prop} (h : FCall P f args A R) (B : Ob) : FCall P f args (A ++ B) (fun v outs => ∃ o, R v o ∧ outs = o ++ B) := by
  intro base hnd
  obtain ⟨hA, hB⟩ := ndO_app hnd
  rw [lay_app]
  refine (h (lay B base) hA).mono ?_
  rintro r M' ⟨outs, hR, rfl, hn⟩
  exact ⟨outs ++ B, ⟨outs, hR, rfl⟩, (lay_app base outs B).symm, ndO_join hn hB⟩
end
end
section
open Go.RowKit

/-- Texts and numbers: what is told the same of whatever memory. -/
def grdT : AV → Bool
  | .tuple cs => cs.all fun c => c.cells.all grd1
  | .lit _ | .str _ => true
  | _ => false
theorem grdT_rel {P : Program} {G G' : Gh} {w w' : World} {p : Nat → Pos} {c : AV} {u : Value} (h : grdT c = true) (hr : RelS P G w p c u) : RelS P G' w' p c u := by
  cases c with
  | tuple cs =>
    obtain ⟨vs, h1, h2, h3⟩ := hr
    refine ⟨vs, h1, h2, fun j c u hc hu => ?_⟩
    have hg := List.all_eq_true.1 h c (List.mem_of_getElem? hc)
    have h4 := h3 j c u hc hu
    cases c with
    | list b E ys => exact absurd hg (by simp [AV.cells, grd1])
    | _ => exact grdA_rel hg h4
  | lit u => exact grdA_rel (c := .lit u) (by simp [grdA, AV.cells, grd1]) hr
  | str u => exact grdA_rel (c := .str u) (by simp [grdA, AV.cells, grd1]) hr
  | _ => cases h
section
variable {P : Program} {E : Nat}
theorem BCall.lendT {α : Type} {f : α → AV} {xs : List α} {sz id : Nat} {pl sl : Slk sz} {F : FuncId} {v0 : AV} {us ws : List AV} (hf : EncOK f sz) (hE : SizeOf P E sz) (h0 : sz ≠ 0) (hab : LentA (hdM id pl xs sl) (.list false E (xs.map f)) us ws) (h : PCall P F ws v0) (hg : grdT v0 = true) : BCall P F us id (lob pl f xs sl) v0 := by
  intro base hb G w vs hm hfx hlen hargs
  let a0 : Act := { tmps := #[], defers := [] }
  have hr : RelSt P G 0 ⟨[], [], base⟩ a0 w := ⟨rfl, rfl, fun i => RelV.any _, fun k c hc => (by cases hc), hm⟩
  obtain ⟨G', r1, r2, r3⟩ := hr.frzObj hf hE hb (M' := fun _ => none) (fun i c hc => by cases hc) h0
  let G2 : Gh := { G' with owner := fun _ => none }
  have st2 : Stab G' w G2 w := ⟨fun _ => Nat.le_refl _, fun _ _ _ => rfl, fun _ _ h => h⟩
  have hfar := r1.mem.far
  have hfx2 : Fix G2 w := by
    obtain ⟨F0, h1, h2⟩ := hfx.keep r2
    exact ⟨F0, fun b o e => ⟨(h1 b o e).1, (h1 b o e).2.1, rfl⟩, h2⟩
  have hvs : ∀ (j : Nat) (x : AV) (v : Value), ws[j]? = some x → vs[j]? = some v → RelV P G2 w x v := by
    intro j b v hx hv
    obtain ⟨a, ha, hab'⟩ := hab.at hx
    exact lent_rel (r2.stab.trans st2) (fun v hv => (r3 v (hv.stab r2.stab)).stab st2) hab' (hargs j a v ha hv)
  refine ((h.all (fun _ => none)) G2 w vs ⟨fun i c hc => (by cases hc), fun b hb => ⟨(hfar b hb).1, rfl⟩, r1.mem.fin⟩ hfx2 (by rw [hlen, hab.len]) hvs).mono ?_
  rintro e w' ⟨r, M1, G3, u, he, ⟨rfl, _⟩, hl, hres, _, k⟩
  have hsame : ∀ b, b < w.heap.size → w'.heap[b]? = w.heap[b]? := fun b hb => (k.free b hb rfl).2.1
  have st : Stab G w G w' := ⟨fun _ => Nat.le_refl _, fun b oo hoo => by
    have hb : b < w.heap.size := by
      rcases Nat.lt_or_ge b w.heap.size with h | h
      · exact h
      · rw [(hm.far b h).1] at hoo; omega
    exact World.cell?_of_block (w := w) (a := ⟨b, oo, none⟩) (hsame b hb), fun _ _ h => h⟩
  refine ⟨_, base, G, u, he, ⟨rfl, rfl⟩, hl, ?_, ⟨fun i c hc => ?_, fun b hb => hm.far b (Nat.le_trans k.size hb), hm.fin⟩, ⟨k.os, k.tape, k.output, k.size, fun b hb ho => ⟨ho, hsame b hb, rfl⟩, st⟩⟩
  · exact grdT_rel hg hres
  · obtain ⟨b, hb, hX⟩ := hm.obj i c hc
    exact ⟨b, hb, hX.move st k.size (fun h1 _ => ⟨hsame b h1, rfl, rfl⟩) (fun c b h1 h2 => ⟨h2, hsame b h1, rfl⟩)⟩
end
/-- A cell that is told the same of whatever memory has the same objects. -/
def grdC : AV → Bool
  | .lit _ | .str _ | .gsl _ _ _ _ | .gptr _ _ | .gmap _ => true
  | _ => false
def grdR : AV → Bool
  | .tuple cs => cs.all fun c => c.cells.all grdC
  | .agg cs => cs.all grdC
  | x => grdC x
section
variable {P : Program} {G G' : Gh} {w w' : World}
theorem grdC_rel {c : AV} {u : Value} (hmb : ∀ id b, G.mb id = some b → G'.mb id = some b) (h : grdC c = true) (hr : RelV P G w c u) : RelV P G' w' c u := by
  cases hr with
  | lit u => exact .lit u
  | str l => exact .str l
  | gptr id off b h1 => exact .gptr id off b (hmb id b h1)
  | gmap id b h1 => exact .gmap id b (hmb id b h1)
  | gsl id off len cap b h1 hc hm => exact .gsl id off len cap b (hmb id b h1) hc hm
  | gsl0 id off => exact .gsl0 id off
  | gslz id off a => exact .gslz id off a
  | _ => cases h
theorem grdCs_rel {c : AV} {u : Value} (hmb : ∀ id b, G.mb id = some b → G'.mb id = some b) (h : c.cells.all grdC = true) (hr : RelV P G w c u) : RelV P G' w' c u := by
  cases hr with
  | agg cs vs hl hr => exact .agg cs vs hl fun j c v h1 h2 => grdC_rel hmb (List.all_eq_true.1 h c (List.mem_of_getElem? h1)) (hr j c v h1 h2)
  | any => exact absurd h (by simp [AV.cells, grdC])
  | fn => exact absurd h (by simp [AV.cells, grdC])
  | fnm => exact absurd h (by simp [AV.cells, grdC])
  | tuple => exact absurd h (by simp [AV.cells, grdC])
  | nil => exact absurd h (by simp [AV.cells, grdC])
  | zero => exact absurd h (by simp [AV.cells, grdC])
  | row => exact absurd h (by simp [AV.cells, grdC])
  | lit u => exact .lit u
  | str l => exact .str l
  | gptr id off b h1 => exact .gptr id off b (hmb id b h1)
  | gmap id b h1 => exact .gmap id b (hmb id b h1)
  | gsl id off len cap b h1 hc hm => exact .gsl id off len cap b (hmb id b h1) hc hm
  | gsl0 id off => exact .gsl0 id off
  | gslz id off a => exact .gslz id off a
theorem grdO_rel {p : Pos} {c : AV} {u : Value} (hmb : ∀ id b, G.mb id = some b → G'.mb id = some b) (h : c.cells.all grdC = true) (hr : RelO P G w p c u) : RelO P G' w' p c u := by
  cases c with
  | list b E ys => exact absurd h (by simp [AV.cells, grdC])
  | _ => exact grdCs_rel hmb h hr
theorem grdR_rel {c : AV} {u : Value} (hmb : ∀ id b, G.mb id = some b → G'.mb id = some b) (h : grdR c = true) (hr : RelS P G w .res c u) : RelS P G' w' .res c u := by
  cases c with
  | tuple cs =>
    obtain ⟨vs, h1, h2, h3⟩ := hr
    exact ⟨vs, h1, h2, fun j c u hc hu => grdO_rel hmb (List.all_eq_true.1 h c (List.mem_of_getElem? hc)) (h3 j c u hc hu)⟩
  | lit u => exact grdCs_rel (c := .lit u) hmb (by simp [AV.cells, grdC]) hr
  | str u => exact grdCs_rel (c := .str u) hmb (by simp [AV.cells, grdC]) hr
  | agg cs => exact grdCs_rel (c := .agg cs) hmb h hr
  | gptr i o => exact grdCs_rel (c := .gptr i o) hmb (by simp [AV.cells, grdC]) hr
  | gmap i => exact grdCs_rel (c := .gmap i) hmb (by simp [AV.cells, grdC]) hr
  | gsl i o m c => exact grdCs_rel (c := .gsl i o m c) hmb (by simp [AV.cells, grdC]) hr
  | _ => exact absurd h (by simp [grdR, grdC])
theorem lay_mem {M M' : Nat → Option (List AV)} : ∀ {O : Ob} {i : Nat}, i ∈ O.map (·.1) → lay O M i = lay O M' i
  | [], _, h => by cases h
  | (id, c) :: r, i, h => by
    show setM (lay r M) id c i = setM (lay r M') id c i
    by_cases e : i = id
    · subst e; rw [setM_get, setM_get]
    · rw [setM_ne e, setM_ne e]
      exact lay_mem ((List.mem_cons.1 h).resolve_left e)
theorem lay_in {M : Nat → Option (List AV)} {c : List AV} : ∀ {O : Ob} {i : Nat}, lay O M i = some c → i ∈ O.map (·.1) → ∃ x, x ∈ O ∧ x.2 = c
  | [], _, _, h => by cases h
  | (id, c') :: r, i, hc, h => by
    have hc' : setM (lay r M) id c' i = some c := hc
    by_cases e : i = id
    · subst e; rw [setM_get] at hc'; exact ⟨_, List.mem_cons_self .., Option.some.inj hc'⟩
    · rw [setM_ne e] at hc'
      obtain ⟨x, h1, h2⟩ := lay_in hc' ((List.mem_cons.1 h).resolve_left e)
      exact ⟨x, List.mem_cons_of_mem _ h1, h2⟩
/-- A call of a function that touches no object, while the caller's own things stand still: what it answers, and its new objects. -/
theorem lendCore {F : FuncId} {args' : List AV} {M : Nat → Option (List AV)} {R R' : AV → Ob → Prop} {vs : List Value} (h : FCall P F args' [] R) (hR : ∀ v outs G w B, R v outs → ndO outs B → RelM P G w (lay outs B) → ∃ outs', R' v outs' ∧ outs'.map (·.1) = outs.map (·.1) ∧ RelM P G w (lay outs' B) ∧ grdR v = true ∧ outs'.all (fun o => o.2.all grdC && o.2.all AV.scalar) = true)
    (hm : RelM P G w M) (hfx : Fix G w) (hlen : vs.length = args'.length) (G1 : Gh) (s1 : Stab G w G1 w) (hfin : ∃ N, ∀ id, N ≤ id → G1.mb id = none) (hfar : ∀ b, w.heap.size ≤ b → G1.tip b = 0)
    (hvs : ∀ (j : Nat) (x : AV) (v : Value), args'[j]? = some x → vs[j]? = some v → RelV P G1 w x v) :
    Calls P F vs.toArray w fun e w' => ∃ r M' G' u, e = .returned u ∧ (∃ outs, R' r outs ∧ M' = lay outs M ∧ ndO outs M) ∧ r.isL = false ∧ RelS P G' w' .res r u ∧ RelM P G' w' M' ∧ Keep G w G' w' := by
  let G2 : Gh := { G1 with owner := fun _ => none }
  have st2 : Stab G1 w G2 w := ⟨fun _ => Nat.le_refl _, fun _ _ _ => rfl, fun _ _ h => h⟩
  have hfx2 : Fix G2 w := by
    obtain ⟨F0, h1, h2⟩ := hfx
    exact ⟨F0, fun b o e => ⟨(h1 b o e).1, (h1 b o e).2.1, rfl⟩, h2⟩
  let B : Nat → Option (List AV) := fun i => (M i).map fun _ => []
  have hB : ∀ i, B i = none ↔ M i = none := fun i => by show Option.map _ _ = none ↔ _; simp
  have hM2 : RelM P G2 w B := by
    refine ⟨fun i c hc => ?_, fun b hb => ⟨hfar b hb, rfl⟩, hfin⟩
    cases hMi : M i with
    | none => rw [show B i = none from (hB i).2 hMi] at hc; cases hc
    | some cs =>
      have : c = [] := by
        have : B i = some [] := by show Option.map _ _ = _; rw [hMi]; rfl
        rw [this] at hc; exact (Option.some.inj hc).symm
      subst this
      obtain ⟨b, hb, _⟩ := hm.obj i cs hMi
      exact ⟨b, s1.mb i b hb, .inr (.inr (.inl rfl))⟩
  have hnd : ndO [] B := ⟨List.nodup_nil, fun i hi => by cases hi⟩
  refine (h B hnd G2 w vs hM2 hfx2 hlen (fun j x v hx hv => (hvs j x v hx hv).stab st2)).mono ?_
  rintro e w' ⟨r, M1, G3, u, he, ⟨outs0, hRr, rfl, hno⟩, hl, hres, hM3, k⟩
  obtain ⟨outs, hRr, hids, hM3, g1, g2⟩ := hR r outs0 G3 w' B hRr hno hM3
  have hno : ndO outs B := ⟨by show (List.map _ _).Nodup; rw [hids]; exact hno.1, fun i hi => hno.2 i (by rw [← hids]; exact hi)⟩
  have hsame : ∀ b, b < w.heap.size → w'.heap[b]? = w.heap[b]? := fun b hb => (k.free b hb rfl).2.1
  let G4 : Gh := { G3 with tip := fun b => if b < w.heap.size then G.tip b else G3.tip b, owner := fun b => if b < w.heap.size then G.owner b else G3.owner b }
  have t4 : ∀ b, b < w.heap.size → G4.tip b = G.tip b := fun b hb => if_pos hb
  have o4 : ∀ b, b < w.heap.size → G4.owner b = G.owner b := fun b hb => if_pos hb
  have mb4 : ∀ id b, G.mb id = some b → G4.mb id = some b := fun id b hb => k.stab.mb id b (st2.mb id b (s1.mb id b hb))
  have st : Stab G w G4 w' := ⟨fun b => by
      rcases Nat.lt_or_ge b w.heap.size with hb | hb
      · rw [t4 b hb]; exact Nat.le_refl _
      · rw [(hm.far b hb).1]; exact Nat.zero_le _, fun b oo hoo => by
    have hb : b < w.heap.size := by
      rcases Nat.lt_or_ge b w.heap.size with h | h
      · exact h
      · rw [(hm.far b h).1] at hoo; omega
    exact World.cell?_of_block (w := w) (a := ⟨b, oo, none⟩) (hsame b hb), mb4⟩
  have mb34 : ∀ id b, G3.mb id = some b → G4.mb id = some b := fun _ _ h => h
  have hno' : ndO outs M := ⟨hno.1, fun i hi => (hB i).1 (hno.2 i hi)⟩
  refine ⟨r, lay outs M, G4, u, he, ⟨outs, hRr, rfl, hno'⟩, hl, grdR_rel (G := G3) (G' := G4) mb34 g1 hres, ⟨fun i c hc => ?_, fun b hb => ?_, hM3.fin⟩, ⟨k.os, k.tape, k.output, k.size, fun b hb ho => ⟨by rw [o4 b hb]; exact ho, hsame b hb, t4 b hb⟩, st⟩⟩
  · by_cases hi : i ∈ outs.map (·.1)
    · have hc3 : lay outs B i = some c := by rw [← hc]; exact lay_mem hi
      obtain ⟨b, hb, hX⟩ := hM3.obj i c hc3
      refine ⟨b, hb, ?_⟩
      have hall : c.all grdC = true ∧ c.all AV.scalar = true := by
        obtain ⟨⟨i', c'⟩, hm1, hm2⟩ := lay_in hc hi
        have hq := List.all_eq_true.1 g2 _ hm1
        simp only [Bool.and_eq_true] at hq
        have e : c' = c := hm2
        subst e; exact hq
      by_cases hne : c = []
      · subst hne; exact .inr (.inr (.inl rfl))
      · obtain ⟨⟨arr, T, x1, x2, x3, x4, x5, x6⟩, x7⟩ := hX.cells hall.2 hne
        have hbl : ¬ b < w.heap.size := fun hlt => by
          have := (k.free b hlt rfl).1
          rw [this] at x3; cases x3
        have ob : G4.owner b = G3.owner b := if_neg hbl
        have tb : G4.tip b = G3.tip b := if_neg hbl
        refine .inl ⟨⟨arr, T, x1, x2, ob.trans x3, tb.trans x4, x5, fun j c0 u0 hj hu => grdO_rel (G := G3) (G' := G4) mb34 ?_ (x6 j c0 u0 hj hu)⟩, x7⟩
        have := List.all_eq_true.1 hall.1 c0 (List.mem_of_getElem? hj)
        cases c0 with
        | agg => cases this
        | _ => simp only [AV.cells, List.all_cons, List.all_nil, Bool.and_true]; exact this
    · rw [lay_none hi] at hc
      obtain ⟨b, hb, hX⟩ := hm.obj i c hc
      exact ⟨b, mb4 i b hb, hX.move st k.size (fun h1 _ => ⟨hsame b h1, o4 b h1, t4 b h1⟩) (fun c b h1 h2 => ⟨by rw [o4 b h1]; exact h2, hsame b h1, t4 b h1⟩)⟩
  · have hb' : ¬ b < w.heap.size := by have := k.size; omega
    have := hM3.far b hb
    exact ⟨(show G4.tip b = G3.tip b from if_neg hb').trans this.1, (show G4.owner b = G3.owner b from if_neg hb').trans this.2⟩
end
section
variable {P : Program} {E : Nat}
theorem zU8_flat (l : List UInt8) : (l.map zU8).flatMap AV.cells = l.map zU8 := by
  induction l with
  | nil => rfl
  | cons a r ih => rw [List.map_cons, List.flatMap_cons, ih]; rfl
theorem lit_all (vs : List Value) (h : ∀ v ∈ vs, v.oneCell' = true) : (vs.map AV.lit).all AV.scalar = true ∧ (vs.map AV.lit).all grdC = true := by
  constructor
  · rw [List.all_map]; exact List.all_eq_true.2 fun v hv => h v hv
  · rw [List.all_map]; exact List.all_eq_true.2 fun v _ => rfl
/-- A new list object's room can be told as the very values that stand there. -/
theorem slack_lit {α : Type} {f : α → AV} {xs : List α} {sz m : Nat} {p s : Slk sz} {B : Nat → Option (List AV)} {G : Gh} {w : World} (hf : EncOK f sz) (hfg : ∀ x, (f x).cells.all grdC = true) (hnd : ndO [(m, lob p f xs s)] B) (hM : RelM P G w (lay [(m, lob p f xs s)] B)) :
    ∃ p' s' : Slk sz, p'.n = p.n ∧ s'.n = s.n ∧ RelM P G w (lay [(m, lob p' f xs s')] B) ∧ (lob p' f xs s').all grdC = true := by
  have hm : lay [(m, lob p f xs s)] B m = some (lob p f xs s) := by show setM B m _ m = _; rw [setM_get]
  have hall := lob_all hf p xs s
  obtain ⟨b, hb, hX⟩ := hM.obj m _ hm
  have hfl : (flt f xs).all grdC = true := by
    unfold flt
    exact List.all_eq_true.2 fun c hc => by
      obtain ⟨y, hy, hcy⟩ := List.mem_flatMap.1 hc
      obtain ⟨x, _, rfl⟩ := List.mem_map.1 hy
      exact List.all_eq_true.1 (hfg x) c hcy
  by_cases hne : lob p f xs s = []
  · have h1 : p.l = [] ∧ flt f xs = [] ∧ s.l = [] := by
      unfold lob at hne
      simp only [List.append_eq_nil_iff] at hne
      exact ⟨hne.1.1, hne.1.2, hne.2⟩
    exact ⟨p, s, rfl, rfl, hM, by unfold lob; rw [h1.1, h1.2.1, h1.2.2]; rfl⟩
  · obtain ⟨⟨arr, T, x1, x2, x3, x4, x5, x6⟩, x7⟩ := hX.cells hall hne
    have hlen : (lob p f xs s).length = p.l.length + (flt f xs).length + s.l.length := by unfold lob; simp; omega
    have hone : ∀ v ∈ arr.toList, v.oneCell' = true := by
      intro v hv
      obtain ⟨j, hj, hjv⟩ := List.getElem_of_mem hv
      have hj' : j < (lob p f xs s).length := by rw [← x2]; simpa using hj
      have hs5 := x5 _ (List.getElem_mem hj')
      have hx6 : RelO P G w (.mc m j) _ v := x6 j _ v (List.getElem?_eq_getElem hj') (by rw [← Array.getElem?_toList, List.getElem?_eq_getElem hj, hjv])
      generalize (lob p f xs s)[j] = c at hs5 hx6
      refine (hx6.un hs5).oneCell ?_
      cases c with
      | list => rfl
      | pin => cases hs5
      | _ => exact hs5
    have hA : ∀ v ∈ arr.toList.take p.l.length, v.oneCell' = true := fun v hv => hone v (List.mem_of_mem_take hv)
    have hC : ∀ v ∈ arr.toList.drop (p.l.length + (flt f xs).length), v.oneCell' = true := fun v hv => hone v (List.mem_of_mem_drop hv)
    have hal : arr.toList.length = p.l.length + (flt f xs).length + s.l.length := by rw [← hlen, ← x2]; simp
    let p' : Slk sz := ⟨(arr.toList.take p.l.length).map .lit, p.n, by rw [List.length_map, List.length_take, ← p.len]; omega, (lit_all _ hA).1⟩
    let s' : Slk sz := ⟨(arr.toList.drop (p.l.length + (flt f xs).length)).map .lit, s.n, by rw [List.length_map, List.length_drop, ← s.len]; omega, (lit_all _ hC).1⟩
    have hl' : (lob p' f xs s').length = (lob p f xs s).length := by
      rw [lob_len hf, lob_len hf]
    refine ⟨p', s', rfl, rfl, ⟨fun i c hc => ?_, hM.far, hM.fin⟩, ?_⟩
    · have hc' : setM B m (lob p' f xs s') i = some c := hc
      by_cases e : i = m
      · subst e
        rw [setM_get] at hc'
        cases hc'
        refine ⟨b, hb, .inl ⟨⟨arr, T, x1, x2.trans hl'.symm, x3, x4, fun c hc => List.all_eq_true.1 (lob_all hf p' xs s') c hc, fun j c u hj hu => ?_⟩, x7⟩⟩
        have hpl : p'.l.length = p.l.length := by rw [p'.len, p.len]
        have hu' : arr.toList[j]? = some u := by rw [Array.getElem?_toList]; exact hu
        have hj0 : (p'.l ++ flt f xs ++ s'.l)[j]? = some c := hj
        rw [List.append_assoc] at hj0
        rcases Nat.lt_or_ge j p'.l.length with h1 | h1
        · rw [List.getElem?_append_left h1] at hj0
          have hj1 : ((arr.toList.take p.l.length).map AV.lit)[j]? = some c := hj0
          rw [List.getElem?_map, List.getElem?_take_of_lt (by omega), hu'] at hj1
          cases hj1
          exact RelV.lit u
        · rw [List.getElem?_append_right h1] at hj0
          rcases Nat.lt_or_ge (j - p'.l.length) (flt f xs).length with h2 | h2
          · rw [List.getElem?_append_left h2] at hj0
            refine x6 j c u ?_ hu
            show (p.l ++ flt f xs ++ s.l)[j]? = _
            rw [List.append_assoc, List.getElem?_append_right (by omega), List.getElem?_append_left (by omega), ← hpl]
            exact hj0
          · rw [List.getElem?_append_right h2] at hj0
            have hj1 : ((arr.toList.drop (p.l.length + (flt f xs).length)).map AV.lit)[j - p'.l.length - (flt f xs).length]? = some c := hj0
            rw [List.getElem?_map, List.getElem?_drop, show p.l.length + (flt f xs).length + (j - p'.l.length - (flt f xs).length) = j by omega, hu'] at hj1
            cases hj1
            exact RelV.lit u
      · rw [setM_ne e] at hc'
        refine hM.obj i c ?_
        show setM B m _ i = some c
        rw [setM_ne e]; exact hc'
    · unfold lob
      rw [List.all_append, List.all_append, hfl, (lit_all _ hA).2, (lit_all _ hC).2]; rfl
/-- What lendB wants of an answer with one new list object. -/
theorem lend1 {α : Type} {f : α → AV} {xs : List α} {sz : Nat} {V : Nat → Slk sz → Slk sz → AV} (hf : EncOK f sz) (hfg : ∀ x, (f x).cells.all grdC = true) (hV : ∀ m p s p' s', p.n = p'.n → s.n = s'.n → V m p s = V m p' s') (hg : ∀ m p s, grdR (V m p s) = true) :
    ∀ v outs G w B, (∃ (m : Nat) (p s : Slk sz), v = V m p s ∧ outs = [(m, lob p f xs s)]) → ndO outs B → RelM P G w (lay outs B) → ∃ outs', (∃ (m : Nat) (p s : Slk sz), v = V m p s ∧ outs' = [(m, lob p f xs s)]) ∧ outs'.map (·.1) = outs.map (·.1) ∧ RelM P G w (lay outs' B) ∧ grdR v = true ∧ outs'.all (fun o => o.2.all grdC && o.2.all AV.scalar) = true := by
  rintro v outs G w B ⟨m, p, s, rfl, rfl⟩ hnd hM
  obtain ⟨p', s', h1, h2, h3, h4⟩ := slack_lit hf hfg hnd hM
  refine ⟨_, ⟨m, p', s', hV m p s p' s' h1.symm h2.symm, rfl⟩, rfl, h3, hg m p s, ?_⟩
  simp only [List.all_cons, List.all_nil, h4, lob_all hf p' xs s', Bool.and_self]
/-- A text's bytes lent. -/
theorem FCall.lendB {l : List UInt8} {id cap : Nat} {F : FuncId} {R R' : AV → Ob → Prop} (pre post : List AV) (hE : SizeOf P E 1) (h : FCall P F (pre ++ .list false E (l.map zU8) :: post) [] R) (hR : ∀ v outs G w B, R v outs → ndO outs B → RelM P G w (lay outs B) → ∃ outs', R' v outs' ∧ outs'.map (·.1) = outs.map (·.1) ∧ RelM P G w (lay outs' B) ∧ grdR v = true ∧ outs'.all (fun o => o.2.all grdC && o.2.all AV.scalar) = true) :
    FCall P F (pre ++ .gsl id 0 l.length cap :: post) [(id, bytA (some l) l.length)] fun v outs => ∃ o, R' v o ∧ outs = o ++ [(id, bytA (some l) l.length)] := by
  intro base hnd G w vs hm hfx hlen hargs
  have hid : lay [(id, bytA (some l) l.length)] base id = some (bytA (some l) l.length) := by show setM base id _ id = _; rw [setM_get]
  obtain ⟨b0, hb0, hX⟩ := hm.obj id _ hid
  obtain ⟨arr, T, h1, h2, h3, h4, h5⟩ := hX.byt
  have h3' := (h3 l rfl).2
  have hlt := (Array.getElem?_eq_some_iff.1 h1).1
  let G1 : Gh := { G with tip := fun b => if b = b0 then l.length else G.tip b }
  have s1 : Stab G w G1 w := ⟨fun b => by
    show G.tip b ≤ if b = b0 then l.length else G.tip b
    split
    · rename_i e; subst e; rw [h5]; exact Nat.zero_le _
    · exact Nat.le_refl _, fun _ _ _ => rfl, fun _ _ h => h⟩
  have hfar : ∀ b, w.heap.size ≤ b → G1.tip b = 0 := fun b hb => by
    show (if b = b0 then l.length else G.tip b) = 0
    rw [if_neg (by omega)]; exact (hm.far b hb).1
  have hlen' : vs.length = (pre ++ .list false E (l.map zU8) :: post).length := by rw [hlen]; simp
  refine (lendCore h hR hm hfx hlen' G1 s1 hm.fin hfar ?_).mono ?_
  · intro j x v hx hv
    rcases Nat.lt_or_ge j pre.length with hj | hj
    · rw [List.getElem?_append_left hj] at hx
      exact (hargs j x v (by rw [List.getElem?_append_left hj]; exact hx) hv).stab s1
    · rw [List.getElem?_append_right hj] at hx
      rcases Nat.eq_zero_or_pos (j - pre.length) with e | e
      · rw [e] at hx
        cases hx
        have hg := hargs j _ v (by rw [List.getElem?_append_right hj, e]; rfl) hv
        generalize hg0 : (AV.gsl id 0 l.length cap) = gx at hg
        cases hg with
        | gsl _ _ _ _ b hb hc hmx =>
          cases hg0
          rw [hb0] at hb
          cases hb
          have hr := RelV.row (P := P) (G := G1) (w := w) false E (l.map zU8) b0 0 cap 1 (fun j => .int .u8 (l.getD j 0).toNat) hE (fun x hx => ?_) (fun x hx => ?_) ?_ hmx (fun _ => ?_) (fun j hj => ?_) (fun j c hj => ?_)
          · rw [List.length_map] at hr; exact hr
          · obtain ⟨y, _, rfl⟩ := List.mem_map.1 hx; rfl
          · obtain ⟨y, _, rfl⟩ := List.mem_map.1 hx
            intro c hc
            simp only [zU8, AV.cells, List.mem_singleton] at hc
            subst hc; rfl
          · rw [List.length_map]; exact hc
          · rw [List.length_map, Nat.mul_one, Nat.zero_add]
            show _ ≤ if b0 = b0 then l.length else _
            simp
          · rw [List.length_map, Nat.mul_one] at hj
            rw [Nat.zero_add]
            simp only [World.cell?, h1]
            exact h3' j hj
          · rw [zU8_flat, List.getElem?_map] at hj
            cases hlj : l[j]? with
            | none => rw [hlj] at hj; cases hj
            | some y =>
              rw [hlj] at hj
              cases hj
              rw [List.getD_eq_getElem?_getD, hlj]
              exact .lit _
        | gsl0 =>
          have hl0 : l = [] := by
            simp only [AV.gsl.injEq] at hg0
            exact List.eq_nil_of_length_eq_zero hg0.2.2.1
          subst hl0
          exact .nil _ _
        | gslz _ _ a =>
          have hl0 : l = [] := by
            simp only [AV.gsl.injEq] at hg0
            exact List.eq_nil_of_length_eq_zero hg0.2.2.1
          subst hl0
          exact .zero _ _
        | _ => cases hg0
      · obtain ⟨q, hq⟩ : ∃ q, j - pre.length = q + 1 := ⟨j - pre.length - 1, by omega⟩
        rw [hq] at hx
        exact (hargs j x v (by rw [List.getElem?_append_right hj, hq]; exact hx) hv).stab s1
  · rintro e w' ⟨r, M', G', u, he, ⟨outs, hRr, rfl, hno⟩, hl, hres, hM', k⟩
    refine ⟨r, _, G', u, he, ⟨outs ++ [(id, bytA (some l) l.length)], ⟨outs, hRr, rfl⟩, (lay_app base outs _).symm, ?_⟩, hl, hres, hM', k⟩
    exact ndO_join hno hnd
end
section
variable {P : Program} {n : Nat} {s : St} {ops : Array Oper} {rest : List Oper} {o : Oper} {Q : St → Prop} {d : Nat} {t t' E : TypeId} {x y : Operand}
/-- Bytes out of a text, as an object. -/
theorem AOps.toBytesB {l : List UInt8} (hg : Wants ops s o) (hd : o.dst = some d) (hn : d < n) (ho : o.op = .convert t t' x) (h1 : P.underlying t = some .string) (h2 : P.underlying t' = some (.slice E)) (h3 : P.underlying E = some (.int .u8)) (hx : s.eval x = .str l) (hb : l.length ≤ 140737488355328) (hE : E < 10000)
    (k : ∀ id cap, s.mem id = none → id % 10000 = E → AOps P n ops rest { s with fr := (d, .gsl id 0 l.length cap) :: s.fr, mem := setM s.mem id (bytA (some l) l.length) } Q) : AOps P n ops (o :: rest) s Q := by
  intro G a w K hr hfx hK
  obtain ⟨N, hN⟩ := hr.mem.fin
  have hid : (10000 * N + E) % 10000 = E := by rw [Nat.mul_add_mod]; exact Nat.mod_eq_of_lt hE
  have hge : N ≤ 10000 * N + E := Nat.le_trans (Nat.le_mul_of_pos_left N (by decide)) (Nat.le_add_right _ _)
  generalize 10000 * N + E = id at hid hge
  have hmb : G.mb id = none := hN id hge
  have hM : s.mem id = none := by
    cases hx : s.mem id with
    | none => rfl
    | some c => obtain ⟨b, hb, _⟩ := hr.mem.obj id c hx; rw [hmb] at hb; cases hb
  have hrun := Lib.run_convert_string_bytes (P := P) w t t' E ⟨l.toArray⟩ h1 h2 h3
  have hfar := hr.mem.far
  have hsz := Lib.bytesWorld_size w E ⟨l.toArray⟩
  have hold : ∀ b, b < w.heap.size → (Lib.bytesWorld w E ⟨l.toArray⟩).heap[b]? = w.heap[b]? := fun b hb => Lib.bytesWorld_at_old w E _ b hb
  have hcap := grownCap_ge w l.length 0 E
  have hcm := grownCap_le_maxLen w l.length 0 E (by unfold maxLen; omega)
  have hrun' : (execOp a.eval o).run P w = .ok (.value (.slice (some ⟨w.heap.size, 0, none⟩) l.length (grownCap w l.length 0 E))) (Lib.bytesWorld w E ⟨l.toArray⟩) := by
    simp only [execOp, ho, hr.evStr hx, Sem.run_bind, hrun, Result.andThen_ok]
    rfl
  obtain ⟨W', hW⟩ : ∃ W', W' = Lib.bytesWorld w E ⟨l.toArray⟩ := ⟨_, rfl⟩
  have hcell : ∀ j, j < l.length → W'.cell? ⟨w.heap.size, j, none⟩ = some (.int .u8 (l.getD j 0).toNat) := fun j hj => by rw [hW]; exact Lib.bytesWorld_cell w E ⟨l.toArray⟩ j hj
  have hmark : ∃ arr : Array Value, W'.heap[w.heap.size]? = some (.cells arr E (arr.size, arr.size + 1)) ∧ l.length ≤ arr.size := by
    have hh : W'.heap[w.heap.size]? = some (.cells (Lib.bytesCells w E ⟨l.toArray⟩) E ((Lib.bytesCells w E ⟨l.toArray⟩).size, (Lib.bytesCells w E ⟨l.toArray⟩).size + 1)) := by
      rw [hW]
      have h0 := heap_new w.drew (.cells (Lib.bytesCells w E ⟨l.toArray⟩) E)
      unfold Lib.bytesWorld World.freeze
      rw [if_neg (by decide)]
      show ((w.drew.alloc (.cells (Lib.bytesCells w E ⟨l.toArray⟩) E)).heap.modify w.heap.size _)[w.heap.size]? = _
      rw [Array.getElem?_modify, if_pos rfl, show (w.drew.alloc (.cells (Lib.bytesCells w E ⟨l.toArray⟩) E)).heap[w.heap.size]? = _ from h0]
      rfl
    refine ⟨Lib.bytesCells w E ⟨l.toArray⟩, hh, ?_⟩
    rcases Nat.eq_zero_or_pos l.length with h0 | h0
    · rw [h0]; exact Nat.zero_le _
    · have hc := hcell (l.length - 1) (by omega)
      simp only [World.cell?, hh] at hc
      have := (Array.getElem?_eq_some_iff.1 hc).1
      omega
  rw [← hW] at hrun' hsz hold
  obtain ⟨arr, hnew, harr⟩ := hmark
  have hos : W'.os = w.os ∧ W'.tape = w.tape ∧ W'.output = w.output := by rw [hW]; exact ⟨rfl, rfl, rfl⟩
  obtain ⟨kp, how, hfar'⟩ := grown_new (G := G) (w := w) (w' := W') (_v' := .slice none 0 0) (.mb id) 0 hsz hold hfar hos.1 hos.2.1 hos.2.2
  have hT := hr.turn (G' := G.new w.heap.size (.mb id) 0) (d := d) (v := .lit (.slice (some ⟨w.heap.size, 0, none⟩) l.length (grownCap w l.length 0 E))) (u := .slice (some ⟨w.heap.size, 0, none⟩) l.length (grownCap w l.length 0 E)) hn kp.stab (by omega) (fun _ _ => rfl)
    (fun q b h1 h2 _ => how q b h1 h2) hfar' rfl (lit_toS _)
  have hX : ∀ G2 : Gh, Stab (G.new w.heap.size (.mb id) 0) W' G2 W' → G2.owner = (G.new w.heap.size (.mb id) 0).owner → G2.tip = (G.new w.heap.size (.mb id) 0).tip → HoldsX P G2 W' w.heap.size id (bytA (some l) l.length) := by
    intro G2 st ho ht
    refine .inr (.inr (.inr (.inr ⟨_, _, rfl, arr, E, hnew, harr, fun l' e => ?_, ?_, ?_⟩)))
    · cases e
      refine ⟨rfl, fun j hj => ?_⟩
      have := hcell j hj
      simp only [World.cell?, hnew] at this
      exact this
    · rw [ho]; show (if w.heap.size = w.heap.size then _ else _) = _; simp
    · rw [ht]; show (if w.heap.size = w.heap.size then _ else _) = _; simp
  obtain ⟨G2, q1, q2, q3, q4⟩ := hr.named hn hT (hmb : (G.new w.heap.size (.mb id) 0).mb id = none) ⟨N, hN⟩ (b0 := w.heap.size) (of := 0) (m := l.length) (cp := grownCap w l.length 0 E) (fun G2 hG => .gsl id 0 l.length _ _ hG hcap hcm) hX
  refine AOps.step1 hg hd hr hfx hK ⟨_, W', G2, hrun', q1, ⟨kp.os, kp.tape, kp.output, kp.size, fun b hb hn => ?_, kp.stab.trans q2⟩⟩ (k id _ hM hid)
  obtain ⟨a1, a2, a3⟩ := kp.free b hb hn
  exact ⟨by rw [q3]; exact a1, a2, by rw [q4]; exact a3⟩
/-- One of them is written: what they are isn't told any more. -/
theorem AOps.storeB {id j m : Nat} {u : Value} (hg : Wants ops s o) (hd : o.dst = none) (ho : o.op = .store t x y) (hx : s.eval x = .gptr id j) (hc : s.mem id = some (bytA none m)) (hs : SizeOf P t 1) (hy : s.eval y = .lit u) (h1c : u.oneCell' = true) (hj : j < m)
    (k : AOps P n ops rest s Q) : AOps P n ops (o :: rest) s Q := by
  refine AOps.effect hg hd ?_ k
  intro G a w hr
  obtain ⟨b0, hb0, hav⟩ := hr.evG hx
  obtain ⟨b', hb', hX⟩ := hr.mem.obj id _ hc
  rw [hb0] at hb'
  cases hb'
  obtain ⟨arr, T, hh, hsz, _, ho1, ht1⟩ := hX.byt
  have hev : a.eval y = u := hr.evLit hy
  have huc : u.cells = #[u] := by
    cases u with
    | agg => cases h1c
    | _ => rfl
  have hrun0 := run_storeCells_cells (P := P) b0 j [u] 0 w (fun i hi => by
      have : i = 0 := by simpa using hi
      subst this
      simp [World.cell?, hh]; omega) (fun i hi => by
      have : i = 0 := by simpa using hi
      subst this
      simp [World.frozen?, hh]; omega) (fun v hv => by
      simp only [List.mem_singleton] at hv
      subst hv; exact h1c)
  have hrun : (storeVar t ⟨b0, j, none⟩ u).run P w = .ok () (w.setRow b0 (arr.toList.take j ++ [u] ++ arr.toList.drop (j + 1)).toArray) := by
    have hcs := setCells_row (g := b0) [u] j w arr hh (by simp; omega)
    simp only [Nat.add_zero] at hrun0
    rw [hcs] at hrun0
    simp [storeVar, run_size hs, huc, hrun0, Result.andThen]
  obtain ⟨W', hW⟩ : ∃ W', W' = w.setRow b0 (arr.toList.take j ++ [u] ++ arr.toList.drop (j + 1)).toArray := ⟨_, rfl⟩
  rw [← hW] at hrun
  have st : Stab G w G W' := by
    refine ⟨fun _ => Nat.le_refl _, fun b oo hoo => ?_, fun _ _ h => h⟩
    have hne : b ≠ b0 := fun e => by rw [e, ht1] at hoo; omega
    subst hW
    exact World.cell?_of_block (w := w) (a := ⟨b, oo, none⟩) (setRow_other w _ b _ hne)
  have other : ∀ q b, G.owner b = some q → q ≠ .mb id → W'.heap[b]? = w.heap[b]? := by
    intro q b h1 h2
    subst hW
    refine setRow_other w _ b _ (fun e => h2 ?_)
    rw [e, ho1] at h1
    exact (Option.some.inj h1).symm
  have hzz : W'.heap.size = w.heap.size := by rw [hW]; simp
  have hz : w.heap.size ≤ W'.heap.size := by omega
  refine ⟨W', G, ?_, ⟨hr.size, hr.defers, fun i => ?_, fun k1 cells1 hk1 => ?_, ⟨fun i cs hi => ?_, fun b hb => hr.mem.far b (by omega), hr.mem.fin⟩⟩, ⟨by rw [hW]; rfl, by rw [hW]; rfl, by rw [hW]; rfl, hz, fun b hb hn => ⟨hn, ?_, rfl⟩, st⟩⟩
  · simp [execOp, ho, Instr.storeAt, Instr.sureAddr, hav, hev, hrun]
  · exact (hr.slot i).move st hz (fun _ _ _ => rfl) (fun c b _ h2 => ⟨h2, other _ b h2 (by intro h; cases h), rfl⟩)
  · have h0 := hr.loc k1 cells1 hk1
    exact h0.move st hz (other _ _ h0.own (by intro h; cases h)) rfl rfl (fun c b _ h2 => ⟨h2, other _ b h2 (by intro h; cases h), rfl⟩)
  · by_cases e : i = id
    · subst e
      rw [hc] at hi
      cases hi
      refine ⟨b0, hb0, .inr (.inr (.inr (.inr ⟨none, m, rfl, (arr.toList.take j ++ [u] ++ arr.toList.drop (j + 1)).toArray, T, ?_, ?_, (fun l h => by cases h), ho1, ht1⟩)))⟩
      · have hln : (arr.toList.take j ++ [u] ++ arr.toList.drop (j + 1)).toArray.size = arr.size := by simp; omega
        rw [hln, hW]
        exact setRow_heap w b0 arr _ T _ hh
      · simp; omega
    · obtain ⟨b, hb, hXi⟩ := hr.mem.obj i cs hi
      refine ⟨b, hb, hXi.move st hz (fun _ hw => ⟨other _ b hw (fun h => e (by injection h)), rfl, rfl⟩) (fun c b _ h2 => ⟨h2, other _ b h2 (by intro h; cases h), rfl⟩)⟩
  · subst hW
    refine setRow_other w _ b _ (fun e => ?_)
    rw [e, ho1] at hn
    cases hn
end
section
variable {P : Program} {n : Nat} {s : St} {e e' : Es} {ops : Array Oper} {l rest : List Oper} {o : Oper} {Q : Es → Prop} {d : Nat} {v : AV} {t t' E : Nat} {x y : Operand}
/-- A text's bytes, as an object. -/
theorem cBytesB [I : HasTab P] {fr : Fr} {loc : List (Nat × List AV)} {objs : Ob} {base : Nat → Option (List AV)} {l : List UInt8} {t t' z1 z2 : Nat} (he : l.length ≤ lim) (g : ∀ id cap, COps P n ops rest ⟨(d, [], .gsl id 0 l.length cap) :: fr, [], loc, (id, bytA (some l) l.length) :: objs, base⟩ Q)
    (hC : cndOf ops fr o = some [] := by rfl) (hd : o.dst = some d := by rfl) (hn : Nat.blt d n = true := by rfl) (ho : o.op = .convert t t' x := by rfl) (h1 : (HasTab.T P).look t = some (.str, z1) := by rfl) (h2 : (HasTab.T P).look t' = some (.slice E, z2) := by rfl) (h3 : (HasTab.T P).look E = some (.int .u8, 1) := by rfl)
    (hx : evE fr [] x = .str l := by rfl) (hE : Nat.blt E 10000 = true := by rfl) : COps P n ops (o :: rest) ⟨fr, [], loc, objs, base⟩ Q := by
  obtain ⟨⟨D, hD, hk⟩, _⟩ := Tab.ok I.tok h1
  have := kOf_str hk; subst this
  obtain ⟨⟨D2, hD2, hk2⟩, _⟩ := Tab.ok I.tok h2
  have := kOf_slice hk2; subst this
  obtain ⟨⟨D3, hD3, hk3⟩, _⟩ := Tab.ok I.tok h3
  have := kOf_int hk3; subst this
  refine COps.newV (d := d) (t := E) (ι := Nat) (V := fun id cap => .gsl id 0 l.length cap) (cells := fun _ => bytA (some l) l.length) (ok := fun _ => True) (fun Q' hk => ?_) (fun id cap _ _ => g id cap)
  exact AOps.toBytesB (wants0 (e := ⟨fr, [], loc, objs, base⟩) _ hC) hd (Nat.le_of_ble_eq_true hn) ho hD hD2 hD3 (ev_st (e := ⟨fr, [], loc, objs, base⟩) hx) (Nat.le_trans he (by decide)) (Nat.le_of_ble_eq_true hE) (fun id cap h1 h2 => hk id cap h1 h2 trivial)
/-- A local's nil list becomes an empty list object. -/
theorem CWp.nilLoc {α : Type} {sz : Nat} {fr : Fr} {gs : List Nat} {loc : List (Nat × List AV)} {objs : Ob} {base : Nat → Option (List AV)} {cells : List AV} {c0 : Code} {QE : Exit → Es → Prop} (f : α → AV) (k c : Nat) (g : ∀ m, CWp P n c0 ⟨fr, [], setC loc k c (hdM m (Slk.nil (sz := sz)) ([] : List α) (Slk.nil (sz := sz))), (m, lob (Slk.nil (sz := sz)) f [] (Slk.nil (sz := sz))) :: objs, base⟩ QE)
    (hj : lookL loc k = some cells := by rfl) (hc : cells[c]? = some (.lit (.slice none 0 0)) := by rfl) : CWp P n c0 ⟨fr, gs, loc, objs, base⟩ QE := by
  intro G a w K hr hfx hK
  have hS := hr.1
  have hnd : ndO objs base := hr.2
  obtain ⟨m, hN⟩ := hS.mem.fin
  have hmb : G.mb m = none := hN m (Nat.le_refl _)
  have hM : lay objs base m = none := by
    cases hx : lay objs base m with
    | none => rfl
    | some c => obtain ⟨b, hb, _⟩ := hS.mem.obj m c hx; rw [hmb] at hb; cases hb
  let G' : Gh := { G with mb := fun i => if i = m then some 0 else G.mb i }
  have hmbG : ∀ i b, G.mb i = some b → G'.mb i = some b := fun i b h => by
    show (if i = m then some 0 else G.mb i) = some b
    rw [if_neg (fun e => by subst e; rw [hmb] at h; cases h)]; exact h
  have st : Stab G w G' w := ⟨fun _ => Nat.le_refl _, fun _ _ _ => rfl, hmbG⟩
  have hT := hS.reghost (G' := G') st rfl rfl rfl ⟨m + 1, fun i hi => by
    show (if i = m then some 0 else G.mb i) = none
    rw [if_neg (by omega)]; exact hN i (by omega)⟩
  have kp : Keep G w G' w := ⟨rfl, rfl, rfl, Nat.le_refl _, fun b hb h => ⟨h, rfl, rfl⟩, st⟩
  have hni : m ∉ objs.map (·.1) := fun hm => lay_some hm hM
  have hbm : base m = none := by rwa [lay_none hni] at hM
  have hnd2 : ndO ((m, []) :: objs) base := ⟨List.nodup_cons.2 ⟨hni, hnd.1⟩, fun i hi => by
    rcases List.mem_cons.1 hi with e | e
    · subst e; exact hbm
    · exact hnd.2 i e⟩
  have mem : RelM P G' w (lay ((m, []) :: objs) base) := by
    refine ⟨fun i cs h => ?_, hT.mem.far, hT.mem.fin⟩
    have h' : setM (lay objs base) m [] i = some cs := h
    by_cases e : i = m
    · subst e
      rw [setM_get] at h'
      cases h'
      exact ⟨0, by show (if i = i then some 0 else _) = _; simp, .inr (.inr (.inl rfl))⟩
    · rw [setM_ne e] at h'
      exact hT.mem.obj i cs h'
  have hR : RelSt P G' n ⟨fr.map fun p => (p.1, valE [] p.2), loc, lay ((m, []) :: objs) base⟩ a w := ⟨hT.size, hT.defers, hT.slot, hT.loc, mem⟩
  have hfin := hR.reCell (i := k) (c := c) (v' := .gsl m 0 0 0) hj hc rfl (fun u hu => by
    have e8 : u = .slice none 0 0 := by
      have h9 : RelV P G' w (.lit (.slice none 0 0)) u := hu
      cases h9; rfl
    subst e8
    exact RelV.gsl0 m 0)
  have g := g m
  simp only [hdM, lob, Slk.nil, Nat.zero_mul, List.length_nil, Nat.add_zero, List.append_nil, flt, List.map_nil, List.flatMap_nil] at g
  exact g G' a w K ⟨hfin, hnd2⟩ (hfx.keep kp) fun z s2 G2 a2 w2 hq hr2 hk2 => hK z s2 G2 a2 w2 hq hr2 (kp.trans hk2)
/-- What they are is told no more. -/
theorem cForgetB {fr : Fr} {loc : List (Nat × List AV)} {objs : Ob} {base : Nat → Option (List AV)} {id m : Nat} {ob : Option (List UInt8)} (j : Nat) (g : COps P n ops l ⟨fr, [], loc, objs.set j (id, bytA none m), base⟩ Q) (hj : objs[j]? = some (id, bytA ob m) := by rfl) (hf : flatB fr = true := by rfl) : COps P n ops l ⟨fr, [], loc, objs, base⟩ Q := by
  intro G a w K hr hfx hK
  have hS := hr.st condOK_nil
  have hnd : ndO objs base := hr.nd
  have hmap : (objs.set j (id, bytA none m)).map (·.1) = objs.map (·.1) := map_set_fst hj
  refine g G a w K (RelE.of ⟨hS.size, hS.defers, hS.slot, hS.loc, ⟨fun i cs h => ?_, hS.mem.far, hS.mem.fin⟩⟩ hf (ndO_set hnd hmap)) hfx hK
  have h' : lay (objs.set j (id, bytA none m)) base i = some cs := h
  rw [← lay_set hnd.1 hj] at h'
  by_cases e2 : i = id
  · subst e2
    rw [setM_get] at h'
    cases h'
    obtain ⟨b, hb, hX⟩ := hS.mem.obj i _ (lay_nth hnd.1 hj)
    obtain ⟨arr, T, h1, h2, h3, h4, h5⟩ := hX.byt
    exact ⟨b, hb, .inr (.inr (.inr (.inr ⟨none, m, rfl, arr, T, h1, h2, (fun l h => by cases h), h4, h5⟩)))⟩
  · rw [setM_ne e2] at h'
    exact hS.mem.obj i cs h'
theorem cStB [I : HasTab P] {fr : Fr} {loc : List (Nat × List AV)} {objs : Ob} {base : Nat → Option (List AV)} {l : List UInt8} {c : UInt8} {i : Int} {id : Nat} {kk : TK} {u : Value} (j : Nat) (he : idx l i = some c) (g : COps P n ops rest ⟨fr, [], loc, objs, base⟩ Q) (hj : objs[j]? = some (id, bytA none l.length) := by rfl)
    (ho : o.op = .store t x y := by rfl) (h1 : (HasTab.T P).look t = some (kk, 1) := by rfl) (hx : evE fr [] x = .gptr id (0 + i.toNat * 1) := by rfl) (hy : evE fr [] y = .lit u := by rfl) (hu : u.oneCell' = true := by rfl)
    (hC : cndOf ops fr o = some [] := by rfl) (hd : o.dst = none := by rfl) : COps P n ops (o :: rest) ⟨fr, [], loc, objs, base⟩ Q := by
  obtain ⟨m, hm, hc⟩ := idx_of he
  have hlt := (List.getElem?_eq_some_iff.1 hc).1
  have hm' : i.toNat = m := by omega
  exact COps.nd fun hnd => COps.eff0 (e := ⟨fr, [], loc, objs, base⟩) (add := []) (objs' := objs) rfl (fun Q' hk => AOps.storeB (wants0 (e := ⟨fr, [], loc, objs, base⟩) _ hC) hd ho (ev_st (e := ⟨fr, [], loc, objs, base⟩) hx) (lay_nth hnd.1 hj) (Tab.ok I.tok h1).2 (ev_st (e := ⟨fr, [], loc, objs, base⟩) hy) hu (by omega) hk) (fun h => h) g
theorem tabS [I : HasTab P] {kk : TK} {sz : Nat} (h : (HasTab.T P).look E = some (kk, sz)) : SizeOf P E sz := (Tab.ok I.tok h).2
/-- A function value called that touches no object. -/
theorem pCallV [I : HasTab P] {fr : Fr} {loc : List (Nat × List AV)} {objs : Ob} {base : Nat → Option (List AV)} {f : FuncId} {c : Call} {r : Nat} {ars cap args : List AV} (he : Enters P f) (h : PCall P f args v) (g : COps P n ops rest ⟨(d, [], v) :: fr, [], loc, objs, base⟩ Q)
    (hC : cndOf ops fr o = some [] := by rfl) (hd : o.dst = some d := by rfl) (hn : Nat.blt d n = true := by rfl) (ho : o.op = .call c := by rfl) (hc : c.callee = .value (.tmp r) := by rfl) (hfn : getV fr [] r = .fn f cap := by rfl) (ha : vArgs (HasTab.T P) (evE fr []) c.args.toList c.argTypes.toList = some ars := by rfl) (hall : ars ++ cap = args := by rfl) : COps P n ops (o :: rest) ⟨fr, [], loc, objs, base⟩ Q :=
  cCallV he (FCall.frame h objs) (by rintro _ _ ⟨_, ⟨rfl, rfl⟩, rfl⟩; exact g) hC hd hn ho hc hfn ha hall
end
end
section
open Go.RowKit
theorem ndO_cons {objs : Ob} {base : Nat → Option (List AV)} {id : Nat} {c : List AV} (h : ndO objs base) (hid : lay objs base id = none) : ndO ((id, c) :: objs) base := by
  have hn : id ∉ objs.map (·.1) ∧ base id = none := by
    constructor
    · intro hm
      obtain ⟨p, hp, rfl⟩ := List.mem_map.1 hm
      obtain ⟨k, hk⟩ := List.mem_iff_getElem?.1 hp
      rw [lay_nth h.1 hk] at hid; cases hid
    · by_cases hm : id ∈ objs.map (·.1)
      · exact h.2 id hm
      · rw [lay_none hm] at hid; exact hid
  refine ⟨List.nodup_cons.2 ⟨hn.1, h.1⟩, fun i hi => ?_⟩
  rcases List.mem_cons.1 hi with rfl | hi
  · exact hn.2
  · exact h.2 i hi
section
variable {P : Program} {n : Nat} {ops : Array Oper} {o : Oper} {rest : List Oper} {Q : Es → Prop} {d : Nat} {t kt et : TypeId} {x y z : Operand} {κ β : Type} [DecidableEq κ] {ke : κ → Value} {vf : β → AV} {S S1 : List (κ × β)} {fr : Fr} {loc : List (Nat × List AV)} {objs : Ob} {base : Nat → Option (List AV)} {id : Nat}
/-- A map is asked of which is known what it has where. -/
theorem cAskP (q : Nat) {k : κ} (z1 : β) {z0 : Value} (hS : ∀ k, getL k S = getL k S1) (K : KeyT P kt ke) (ht : P.underlying t = some (.map kt et)) (hz : (P.info? et).map (·.zero) = some (some z0)) (hzv : ∀ G w, RelV P G w (vf z1) z0) (hfl : ∀ v, (vf v).flat = true) (hy : ∀ (G : Gh) a w, RelSt P G n ((⟨fr, [], loc, objs, base⟩ : Es).st []) a w → a.eval y = ke k)
    (g : COps P n ops rest ⟨(d, [], .tuple [vf ((getL k S1).getD z1), .lit (.bool (getL k S1).isSome)]) :: fr, [], loc, objs, base⟩ Q) (hj : objs[q]? = some (id, mapO ke vf S) := by rfl) (ho : o.op = .lookup t x y true := by rfl) (hx : evE fr [] x = .gmap id := by rfl)
    (hC : cndOf ops fr o = some [] := by rfl) (hd : o.dst = some d := by rfl) (hn : Nat.blt d n = true := by rfl) : COps P n ops (o :: rest) ⟨fr, [], loc, objs, base⟩ Q := by
  rw [← hS] at g
  exact cAskG q z1 K ht hz hzv hfl hy g hj ho hx hC hd hn
omit [DecidableEq κ] in
/-- How many keys it has. -/
theorem Reader.lenG {s : St} {c : Call} {id m : Nat} (ho : o.op = .call c) (hcl : c.callee = .builtin .len) (ha : c.args = #[x]) (hat : c.argTypes = #[t]) (ht : P.underlying t = some (.map kt et)) (hx : s.eval x = .gmap id) (hc : s.mem id = some (mapO ke vf S)) (hm : S.length = m) : Reader P n s o d (.lit (.int .i64 (m : Int))) := by
  intro G a w hr
  obtain ⟨b0, hb0, hav⟩ := hr.evM hx
  obtain ⟨b', hb', hX⟩ := hr.mem.obj id _ hc
  rw [hb0] at hb'
  cases hb'
  obtain ⟨es, clock, hh, ho1, ht1, he1, he4⟩ := hX.mapG
  have hsz : es.size = m := by
    have := congrArg List.length he1
    simp [encG] at this
    rw [← hm]; exact this
  refine ⟨_, lit_toS _, fun w' hw => ?_⟩
  have hh' : w'.heap[b0]? = some (.map es clock) := (hw.block b0 (Array.getElem?_eq_some_iff.1 hh).1).trans hh
  have h1 : ∀ ty, (Builtin.len_ #[t] ty #[.map (some b0)]).run P w' = .ok (.int .i64 (m : Int)) w' := by
    intro ty
    simp [Builtin.len_, run_underlying ht, MapKept.run_getObj_map hh', goInt, Result.andThen, hsz]
  simp [execOp, ho, resolve, hcl, ha, hat, hav, invoke, builtin, h1]
omit [DecidableEq κ] in
theorem cLenG (q m : Nat) {c : Call} (ht : P.underlying t = some (.map kt et)) (hm : S.length = m)
    (g : COps P n ops rest ⟨(d, [], .lit (.int .i64 (m : Int))) :: fr, [], loc, objs, base⟩ Q) (hj : objs[q]? = some (id, mapO ke vf S) := by rfl) (ho : o.op = .call c := by rfl) (hcl : c.callee = .builtin .len := by rfl) (ha : c.args = #[x] := by rfl) (hat : c.argTypes = #[t] := by rfl) (hx : evE fr [] x = .gmap id := by rfl)
    (hC : cndOf ops fr o = some [] := by rfl) (hd : o.dst = some d := by rfl) (hn : Nat.blt d n = true := by rfl) : COps P n ops (o :: rest) ⟨fr, [], loc, objs, base⟩ Q :=
  COps.nd fun hnd => rd (Reader.lenG ho hcl ha hat ht (ev_st (e := ⟨fr, [], loc, objs, base⟩) hx) (lay_nth hnd.1 hj) hm) g hC hd hn rfl
end
end
end Go.Proofs.YtdjojfibjbjpdaaGreatDoor
