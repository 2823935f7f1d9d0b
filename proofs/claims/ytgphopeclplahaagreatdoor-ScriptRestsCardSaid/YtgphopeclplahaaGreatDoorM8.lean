/- ScW1, ScR4, LexM2, ScW2, ScW3, ScB1, ScB2, ScO. -/
import Derived.Test.YtgphopeclplahaaGreatDoorM7
import Derived.Test.YtgphopeclplahaaGreatDoorM5
namespace Go.Proofs.YtgphopeclplahaaGreatDoor
section
open Go.RowKit

def I64 (n : Int) : Prop := -9223372036854775808 ≤ n ∧ n ≤ 9223372036854775807
def F64b (x : Nat) : Prop := x < 18446744073709551616
structure V3p {α : Type} (p : α → Prop) (v : V3 α) : Prop where
  a : p v.a
  b : p v.b
  c : p v.c
/-- An act that a machine may hold. -/
structure ActB (a : SAct) : Prop where
  prio : I64 a.pod.prio
  size : I64 a.pod.size
  req : V3p I64 a.pod.req
  lim : V3p I64 a.pod.lim
  pid : a.pod.id.length ≤ BB
  image : a.pod.image.length ≤ BB
  id : a.id.length ≤ BB
  time : I64 a.raw.time
  avail : V3p F64b a.raw.avail
  use : ∀ u ∈ a.raw.use, u.id.length ≤ BB ∧ V3p F64b u.amount
  steps : I64 a.steps
  keep : ∀ n ∈ a.keep, I64 n
  uses : a.raw.use.length ≤ BB
  wells : a.well.length ≤ BB
  keeps : a.keep.length ≤ BB
def mkF (s : List UInt8) : SField := ⟨s, 0, 0⟩
theorem FUEL2 : FUEL = 18446744073709551614 + 1 + 1 := rfl
theorem put1 (l : List SField) (b : Bool) (s : List UInt8) (h : l.length + 1 ≤ lim) : g_script_fields_put ⟨l, b⟩ [s] = some ⟨l ++ [mkF s], b⟩ := by
  unfold g_script_fields_put
  rw [FUEL2, g_script_fields_put_l1]
  rw [dec_t (by simp), show idx [s] 0 = some s from rfl]
  simp only [cond_true, bO_some]
  rw [appO_eq (by rw [List.length_singleton]; exact h)]
  simp only [bO_some]
  rw [show w64 ((0 : Int) + 1) = 1 from rfl, g_script_fields_put_l1, dec_f (by simp)]
  rfl
theorem wword_ok (l : List SField) (b : Bool) (s : List UInt8) (h : l.length + 1 ≤ lim) (hs : s.length ≤ BB) : g_script_fields_word ⟨l, b⟩ s = some ⟨l ++ [mkF s], b || !wordB s⟩ := by
  unfold g_script_fields_word
  cases b with
  | true => simp only [cond_true, bO_some]; rw [put1 l _ s h]; rfl
  | false => simp only [cond_false, (wordB_ok (le_lim hs)).1, bO_some]; rw [put1 l _ s h]; rfl
def inB (n : Int) : Bool := decide (n ≥ -1099511627776) && decide (n ≤ 1099511627776)
theorem itoaO_i {n : Int} (h : I64 n) : itoaO n = some (Lib.itoa n) := if_pos h
theorem wwhole_ok (l : List SField) (b : Bool) (n : Int) (h : l.length + 1 ≤ lim) (hn : I64 n) : g_script_fields_whole ⟨l, b⟩ n = some ⟨l ++ [mkF (Lib.itoa n)], b || !inB n⟩ := by
  unfold g_script_fields_whole
  rw [itoaO_i hn]
  cases b with
  | true => simp only [cond_true, bO_some]; rw [put1 l _ _ h]; rfl
  | false => simp only [cond_false, show g_script_in n = some (inB n) from rfl, bO_some]; rw [put1 l _ _ h]; rfl
def prN (n : Int) : List UInt8 := printV n.toNat
theorem wquants_loop (ns : List Int) (hn : ∀ n ∈ ns, I64 n) (hl : ns.length ≤ BB) : ∀ (m : Nat) (r pre : List Int) (l : List SField) (b : Bool), ns = pre ++ r → r.length < m → l.length + r.length ≤ lim →
    g_script_fields_quantities_l1 ns g_script_fields_quantities_k2 m l b (pre.length : Int) = some ⟨l ++ r.map fun n => mkF (prN n), b || r.any fun n => decide (n < 0)⟩
  | 0, _, _, _, _, _, h, _ => by omega
  | m + 1, [], pre, l, b, he, _, _ => by
    rw [g_script_fields_quantities_l1, he, List.append_nil, dec_f (by omega)]
    simp [g_script_fields_quantities_k2]
  | m + 1, n :: r, pre, l, b, he, hm, hlim => by
    have hlen : ns.length = pre.length + (r.length + 1) := by rw [he]; simp
    unfold BB at hl
    rw [g_script_fields_quantities_l1, dec_t (by omega), idx_nat (show ns[pre.length]? = some n by rw [he]; exact app_get pre n _)]
    simp only [cond_true, bO_some]
    rw [print_ok (hn n (by rw [he]; simp)).2]
    simp only [bO_some]
    rw [put1 l _ _ (by simp only [List.length_cons] at hlim; omega)]
    simp only [bO_some]
    rw [w64_succ (by omega)]
    have ih := wquants_loop ns hn (by unfold BB; exact hl) m r (pre ++ [n]) (l ++ [mkF (printV n.toNat)]) (b || decide (n < 0)) (by rw [he]; simp) (by simp only [List.length_cons] at hm; omega) (by simp only [List.length_cons] at hlim; simp; omega)
    rw [List.length_append, List.length_singleton] at ih
    rw [ih]
    simp [prN, Bool.or_assoc]
theorem wquants_ok (ns : List Int) (l : List SField) (b : Bool) (hn : ∀ n ∈ ns, I64 n) (hl : ns.length ≤ BB) (h : l.length + ns.length ≤ lim) : g_script_fields_quantities ⟨l, b⟩ ns = some ⟨l ++ ns.map fun n => mkF (prN n), b || ns.any fun n => decide (n < 0)⟩ :=
  wquants_loop ns hn hl FUEL ns [] l b rfl (by unfold BB at hl; unfold FUEL; omega) h
theorem weither_ok (l : List SField) (b is : Bool) (y n : List UInt8) (h : l.length + 1 ≤ lim) : g_script_fields_either ⟨l, b⟩ is y n = some ⟨l ++ [mkF (if is then y else n)], b⟩ := by
  unfold g_script_fields_either
  cases is with
  | true => simp only [cond_true]; rw [put1 l _ _ h]; rfl
  | false => simp only [cond_false]; rw [put1 l _ _ h]; rfl
def shT (x : Nat) : List UInt8 := ((g_script_Show x).getD ([], false)).1
def shB (x : Nat) : Bool := ((g_script_Show x).getD ([], false)).2
theorem shV_ok {x : Nat} (h : F64b x) : g_script_Show x = some (shT x, shB x) ∧ g_ref26_Show x = some (shT x, shB x) := by
  obtain ⟨t, b, y, c, h1, h2, _⟩ := show_ok h
  unfold shT shB
  rw [h1, h2]; exact ⟨rfl, rfl⟩
def amsT (v : V3 Nat) : List (List UInt8) := [shT v.a, shT v.b, shT v.c]
def amsB (v : V3 Nat) : Bool := shB v.a && shB v.b && shB v.c
theorem wamounts_ok (l : List SField) (b : Bool) (v : V3 Nat) (h : l.length + 3 ≤ lim) (hv : V3p F64b v) : g_script_fields_amounts ⟨l, b⟩ v = some ⟨l ++ (amsT v).map mkF, b || !amsB v⟩ := by
  unfold g_script_fields_amounts
  rw [(shV_ok hv.a).1, (shV_ok hv.b).1, (shV_ok hv.c).1]
  simp only [bO_some]
  rw [put1 l _ _ (by omega)]
  simp only [bO_some]
  rw [put1 _ _ _ (by simp; omega)]
  simp only [bO_some]
  rw [put1 _ _ _ (by simp; omega)]
  simp [amsT, amsB, Bool.or_assoc]
def lim0 (v : V3 Int) : Bool := q3_Int v ⟨0, 0, 0⟩
def v3l {α : Type} (v : V3 α) : List α := [v.a, v.b, v.c]
def podT (p : SPod) : List (List UInt8) := [p.id, p.image, prN p.size, Lib.itoa p.prio, if p.critical then critW else plainW] ++ (v3l p.req).map prN ++ if lim0 p.lim then [] else (v3l p.lim).map prN
def podG (p : SPod) : Bool := !(((!wordB p.id || !wordB p.image) || decide (p.size < 0) || !inB p.prio) || ((v3l p.req).any fun n => decide (n < 0)) || (!lim0 p.lim && (v3l p.lim).any fun n => decide (n < 0)))
theorem wpod_ok (l : List SField) (b : Bool) (a : SAct) (h : l.length + 11 ≤ lim) (ha : ActB a) : g_script_fields_pod ⟨l, b⟩ a.pod = some ⟨l ++ (podT a.pod).map mkF, b || !podG a.pod⟩ := by
  unfold g_script_fields_pod
  rw [wword_ok l b _ (by omega) ha.pid]
  simp only [bO_some]
  rw [wword_ok _ _ _ (by simp; omega) ha.image]
  simp only [bO_some]
  rw [wquants_ok _ _ _ (by intro n hn; rw [List.mem_singleton.1 hn]; exact ha.size) (by simp [BB]) (by simp; omega)]
  simp only [bO_some]
  rw [wwhole_ok _ _ _ (by simp; omega) ha.prio]
  simp only [bO_some]
  rw [weither_ok _ _ _ _ _ (by simp; omega)]
  simp only [bO_some]
  rw [wquants_ok _ _ _ (by
    intro n hn
    simp only [List.mem_cons, List.mem_nil_iff, or_false] at hn
    rcases hn with rfl | rfl | rfl
    · exact ha.req.a
    · exact ha.req.b
    · exact ha.req.c) (by simp [BB]) (by simp; omega)]
  simp only [bO_some]
  rw [show q3_Int a.pod.lim ⟨0, 0, 0⟩ = lim0 a.pod.lim from rfl]
  cases hl : lim0 a.pod.lim with
  | true =>
    simp only [Bool.not_true, cond_false]
    simp [podT, podG, hl, v3l, critW, plainW, Bool.or_assoc]
  | false =>
    simp only [Bool.not_false, cond_true]
    rw [wquants_ok _ _ _ (by
      intro n hn
      simp only [List.mem_cons, List.mem_nil_iff, or_false] at hn
      rcases hn with rfl | rfl | rfl
      · exact ha.lim.a
      · exact ha.lim.b
      · exact ha.lim.c) (by simp [BB]) (by simp; omega)]
    simp [podT, podG, hl, v3l, critW, plainW, Bool.or_assoc]
/-! What an act's line doesn't tell. -/
def noneB (r : SRaw) : Bool := (kindV r.avail.a == 5) && (kindV r.avail.b == 5) && (kindV r.avail.c == 5) && ((r.time == 0) && ((r.use.length : Int) == 0))
theorem nothing_ok {r : SRaw} (h : V3p F64b r.avail) : g_script_nothing r = some (noneB r) := by
  unfold g_script_nothing noneB
  rw [edge_ok h.a, edge_ok h.b, edge_ok h.c]
  simp only [bO_some, bne]
  cases kindV r.avail.a == 5 <;> cases kindV r.avail.b == 5 <;> cases kindV r.avail.c == 5 <;> rfl
def restV (a : SAct) : Bool := ((((a.do_ == 1 || qSPod a.pod pod0) && (a.do_ == 2 || a.id == [])) && (a.do_ == 4 || noneB a.raw)) && (a.do_ == 5 || (a.well.length : Int) == 0)) && (a.do_ == 6 || (a.steps == 0 && (a.keep.length : Int) == 0))
theorem pod0_eq : (⟨([] : List UInt8), 0, false, (⟨0, 0, 0⟩ : V3 Int), (⟨0, 0, 0⟩ : V3 Int), ([] : List UInt8), 0⟩ : SPod) = pod0 := rfl
theorem rest_ok {a : SAct} (h : V3p F64b a.raw.avail) : g_script_rest a = some (restV a) := by
  unfold g_script_rest restV
  rw [nothing_ok h, pod0_eq]
  cases (a.do_ == 1 || qSPod a.pod pod0) && (a.do_ == 2 || a.id == []) with
  | true => cases a.do_ == 4 <;> rfl
  | false => rfl
theorem bare_ok {a : SAct} (h : V3p F64b a.raw.avail) : g_ref26_bare a = some (restV a) := by
  unfold g_ref26_bare restV
  rw [rkind_ok h.a, rkind_ok h.b, rkind_ok h.c]
  have e1 : ∀ (l : Nat), decide ((l : Int) > 0) = !((l : Int) == 0) := by
    intro l
    by_cases h : l = 0
    · subst h; rfl
    · rw [dec_t (by omega), show ((l : Int) == 0) = false from beq_eq_false_iff_ne.2 (by omega)]; rfl
  rw [e1, e1]
  show (bif (((a.do_ != 1 && !qSPod a.pod pod0) || (a.do_ != 2 && !a.id == [])) || _) || _ then _ else _) = _
  simp only [bne, bO_some, noneB, g_ref26_bare_k1]
  generalize (a.do_ == 1) = d1
  generalize (a.do_ == 2) = d2
  generalize (a.do_ == 4) = d4
  generalize (a.do_ == 5) = d5
  generalize (a.do_ == 6) = d6
  generalize qSPod a.pod pod0 = q
  generalize (a.id == []) = i
  generalize ((a.well.length : Int) == 0) = w
  generalize (a.steps == 0) = s
  generalize ((a.keep.length : Int) == 0) = k
  generalize (kindV a.raw.avail.a == 5) = ka
  generalize (kindV a.raw.avail.b == 5) = kb
  generalize (kindV a.raw.avail.c == 5) = kc
  generalize (a.raw.time == 0) = ti
  generalize ((a.raw.use.length : Int) == 0) = u
  cases d1 <;> cases q <;> cases d2 <;> cases i <;> cases d5 <;> cases w <;> cases d6 <;> cases s <;> cases k <;> first | (simp; done) | (cases d4 <;> cases ka <;> cases kb <;> cases kc <;> simp)
/-! An act's fields. -/
def usesT (l : List SUsage) : List (List UInt8) := l.flatMap fun u => u.id :: amsT u.amount
def usesG (l : List SUsage) : Bool := l.all fun u => wordB u.id && amsB u.amount
def actT (a : SAct) : List (List UInt8) :=
  if a.do_ = 1 then admitW :: podT a.pod else if a.do_ = 2 then [deleteW, a.id] else if a.do_ = 3 then [tickW]
  else if a.do_ = 4 then sampleW :: Lib.itoa a.raw.time :: amsT a.raw.avail ++ usesT a.raw.use
  else if a.do_ = 5 then feedW :: a.well.map fun w => if w then okW else badW
  else if a.do_ = 6 then crashW :: Lib.itoa a.steps :: a.keep.map Lib.itoa else []
def actG (a : SAct) : Bool := restV a &&
  if a.do_ = 1 then podG a.pod else if a.do_ = 2 then wordB a.id else if a.do_ = 3 then true
  else if a.do_ = 4 then inB a.raw.time && amsB a.raw.avail && usesG a.raw.use
  else if a.do_ = 5 then true
  else if a.do_ = 6 then inB a.steps && a.keep.all inB else false
theorem wuse_loop (a : SAct) (ha : ActB a) (k : List SField → Bool → Option (List SField × Bool)) : ∀ (m : Nat) (r pre : List SUsage) (l : List SField) (b : Bool), a.raw.use = pre ++ r → r.length < m → l.length + 4 * r.length ≤ lim →
    g_script_write_l2 a k m l b (pre.length : Int) = k (l ++ (usesT r).map mkF) (b || !usesG r)
  | 0, _, _, _, _, _, h, _ => by omega
  | m + 1, [], pre, l, b, he, _, _ => by
    rw [g_script_write_l2, he, List.append_nil, dec_f (by omega)]
    simp [usesT, usesG]
  | m + 1, u :: r, pre, l, b, he, hm, hl => by
    have hlen : a.raw.use.length = pre.length + (r.length + 1) := by rw [he]; simp
    have hB := ha.uses
    unfold BB at hB
    simp only [List.length_cons] at hl hm
    obtain ⟨u1, u2⟩ := ha.use u (by rw [he]; simp)
    rw [g_script_write_l2, dec_t (by omega), idx_nat (show a.raw.use[pre.length]? = some u by rw [he]; exact app_get pre u _)]
    simp only [cond_true, bO_some]
    rw [wword_ok l b _ (by omega) u1]
    simp only [bO_some]
    rw [wamounts_ok _ _ _ (by simp; omega) u2]
    simp only [bO_some]
    rw [w64_succ (by omega)]
    have ih := wuse_loop a ha k m r (pre ++ [u]) (l ++ [mkF u.id] ++ (amsT u.amount).map mkF) ((b || !wordB u.id) || !amsB u.amount) (by rw [he]; simp) (by omega) (by simp [amsT]; omega)
    rw [List.length_append, List.length_singleton] at ih
    rw [ih]
    simp [usesT, usesG, Bool.or_assoc]
theorem wwell_loop (a : SAct) (ha : ActB a) (k : List SField → Bool → Option (List SField × Bool)) : ∀ (m : Nat) (r pre : List Bool) (l : List SField) (b : Bool), a.well = pre ++ r → r.length < m → l.length + r.length ≤ lim →
    g_script_write_l3 a k m l b (pre.length : Int) = k (l ++ r.map fun w => mkF (if w then okW else badW)) b
  | 0, _, _, _, _, _, h, _ => by omega
  | m + 1, [], pre, l, b, he, _, _ => by
    rw [g_script_write_l3, he, List.append_nil, dec_f (by omega)]
    simp
  | m + 1, u :: r, pre, l, b, he, hm, hl => by
    have hlen : a.well.length = pre.length + (r.length + 1) := by rw [he]; simp
    have hB := ha.wells
    unfold BB at hB
    simp only [List.length_cons] at hl hm
    rw [g_script_write_l3, dec_t (by omega), idx_nat (show a.well[pre.length]? = some u by rw [he]; exact app_get pre u _)]
    simp only [cond_true, bO_some]
    rw [weither_ok l b _ _ _ (by omega)]
    simp only [bO_some]
    rw [w64_succ (by omega)]
    have ih := wwell_loop a ha k m r (pre ++ [u]) (l ++ [mkF (if u then [111, 107] else [98, 97, 100])]) b (by rw [he]; simp) (by omega) (by simp; omega)
    rw [List.length_append, List.length_singleton] at ih
    rw [ih]
    simp [okW, badW]
theorem wkeep_loop (a : SAct) (ha : ActB a) (k : List SField → Bool → Option (List SField × Bool)) : ∀ (m : Nat) (r pre : List Int) (l : List SField) (b : Bool), a.keep = pre ++ r → r.length < m → l.length + r.length ≤ lim →
    g_script_write_l4 a k m l b (pre.length : Int) = k (l ++ r.map fun n => mkF (Lib.itoa n)) (b || !r.all inB)
  | 0, _, _, _, _, _, h, _ => by omega
  | m + 1, [], pre, l, b, he, _, _ => by
    rw [g_script_write_l4, he, List.append_nil, dec_f (by omega)]
    simp
  | m + 1, u :: r, pre, l, b, he, hm, hl => by
    have hlen : a.keep.length = pre.length + (r.length + 1) := by rw [he]; simp
    have hB := ha.keeps
    unfold BB at hB
    simp only [List.length_cons] at hl hm
    rw [g_script_write_l4, dec_t (by omega), idx_nat (show a.keep[pre.length]? = some u by rw [he]; exact app_get pre u _)]
    simp only [cond_true, bO_some]
    rw [wwhole_ok l b _ (by omega) (ha.keep u (by rw [he]; simp))]
    simp only [bO_some]
    rw [w64_succ (by omega)]
    have ih := wkeep_loop a ha k m r (pre ++ [u]) (l ++ [mkF (Lib.itoa u)]) (b || !inB u) (by rw [he]; simp) (by omega) (by simp; omega)
    rw [List.length_append, List.length_singleton] at ih
    rw [ih]
    simp [Bool.or_assoc]
theorem podT_len (p : SPod) : (podT p).length ≤ 11 := by
  unfold podT v3l
  cases p.critical <;> cases lim0 p.lim <;> simp
theorem write_ok {a : SAct} (ha : ActB a) : g_script_write a = some ((actT a).map mkF, actG a) := by
  unfold g_script_write actT actG
  rw [rest_ok ha.avail]
  simp only [bO_some]
  have u1 := ha.uses
  have u2 := ha.wells
  have u3 := ha.keeps
  unfold BB at u1 u2 u3
  by_cases h1 : a.do_ = 1
  · rw [show (a.do_ == 1) = true from beq_iff_eq.2 h1, if_pos h1, if_pos h1]
    simp only [cond_true]
    rw [put1 _ _ _ (by simp [lim])]
    simp only [bO_some]
    rw [wpod_ok _ _ a (by simp [lim]) ha]
    simp [g_script_write_k1, admitW]
  · rw [show (a.do_ == 1) = false from beq_eq_false_iff_ne.2 h1, if_neg h1, if_neg h1]
    simp only [cond_false]
    by_cases h2 : a.do_ = 2
    · rw [show (a.do_ == 2) = true from beq_iff_eq.2 h2, if_pos h2, if_pos h2]
      simp only [cond_true]
      rw [put1 _ _ _ (by simp [lim])]
      simp only [bO_some]
      rw [wword_ok _ _ _ (by simp [lim]) ha.id]
      simp [g_script_write_k1, deleteW]
    · rw [show (a.do_ == 2) = false from beq_eq_false_iff_ne.2 h2, if_neg h2, if_neg h2]
      simp only [cond_false]
      by_cases h3 : a.do_ = 3
      · rw [show (a.do_ == 3) = true from beq_iff_eq.2 h3, if_pos h3, if_pos h3]
        simp only [cond_true]
        rw [put1 _ _ _ (by simp [lim])]
        simp [g_script_write_k1, tickW]
      · rw [show (a.do_ == 3) = false from beq_eq_false_iff_ne.2 h3, if_neg h3, if_neg h3]
        simp only [cond_false]
        by_cases h4 : a.do_ = 4
        · rw [show (a.do_ == 4) = true from beq_iff_eq.2 h4, if_pos h4, if_pos h4]
          simp only [cond_true]
          rw [put1 _ _ _ (by simp [lim])]
          simp only [bO_some]
          rw [wwhole_ok _ _ _ (by simp [lim]) ha.time]
          simp only [bO_some]
          rw [wamounts_ok _ _ _ (by simp [lim]) ha.avail]
          simp only [bO_some]
          have h := wuse_loop a ha g_script_write_k1 FUEL a.raw.use [] (([] ++ [mkF [115, 97, 109, 112, 108, 101]]) ++ [mkF (Lib.itoa a.raw.time)] ++ (amsT a.raw.avail).map mkF) ((!restV a || !inB a.raw.time) || !amsB a.raw.avail) rfl (by unfold FUEL; omega) (by simp [amsT, lim]; omega)
          have h : g_script_write_l2 a g_script_write_k1 FUEL _ _ 0 = _ := h
          rw [h]
          simp [g_script_write_k1, sampleW, Bool.and_assoc]
        · rw [show (a.do_ == 4) = false from beq_eq_false_iff_ne.2 h4, if_neg h4, if_neg h4]
          simp only [cond_false]
          by_cases h5 : a.do_ = 5
          · rw [show (a.do_ == 5) = true from beq_iff_eq.2 h5, if_pos h5, if_pos h5]
            simp only [cond_true]
            rw [put1 _ _ _ (by simp [lim])]
            simp only [bO_some]
            have h := wwell_loop a ha g_script_write_k1 FUEL a.well [] ([] ++ [mkF [102, 101, 101, 100]]) (!restV a) rfl (by unfold FUEL; omega) (by simp [lim]; omega)
            have h : g_script_write_l3 a g_script_write_k1 FUEL _ _ 0 = _ := h
            rw [h]
            simp [g_script_write_k1, feedW, Function.comp_def]
          · rw [show (a.do_ == 5) = false from beq_eq_false_iff_ne.2 h5, if_neg h5, if_neg h5]
            simp only [cond_false]
            by_cases h6 : a.do_ = 6
            · rw [show (a.do_ == 6) = true from beq_iff_eq.2 h6, if_pos h6, if_pos h6]
              simp only [cond_true]
              rw [put1 _ _ _ (by simp [lim])]
              simp only [bO_some]
              rw [wwhole_ok _ _ _ (by simp [lim]) ha.steps]
              simp only [bO_some]
              have h := wkeep_loop a ha g_script_write_k1 FUEL a.keep [] (([] ++ [mkF [99, 114, 97, 115, 104]]) ++ [mkF (Lib.itoa a.steps)]) (!restV a || !inB a.steps) rfl (by unfold FUEL; omega) (by simp [lim]; omega)
              have h : g_script_write_l4 a g_script_write_k1 FUEL _ _ 0 = _ := h
              rw [h]
              simp [g_script_write_k1, crashW, Function.comp_def, Bool.and_assoc]
            · rw [show (a.do_ == 6) = false from beq_eq_false_iff_ne.2 h6, if_neg h6, if_neg h6]
              simp
theorem right_ok {a : SAct} (ha : ActB a) : g_script_Right a = some (actG a) := by
  unfold g_script_Right
  rw [write_ok ha]; rfl
end
section
open Go.RowKit

theorem cut_zero (n : Nat) : Ieee.Toward.even.cut false n 0 = n := by
  unfold Ieee.Toward.cut
  simp [Nat.mod_one]
theorem near_val {n : Nat} (h0 : 1 ≤ n) (h : n < 9007199254740992) : ∃ L : Nat, L ≤ 52 ∧ 2 ^ L ≤ n ∧ n < 2 ^ (L + 1) ∧ FloatKind.f64.nearest (n : Int) = (L + 1022) * 4503599627370496 + n * 2 ^ (52 - L) := by
  have hL1 : 2 ^ n.log2 ≤ n := Nat.log2_self_le (by omega)
  have hL2 : n < 2 ^ (n.log2 + 1) := Nat.lt_log2_self
  have hL : n.log2 ≤ 52 := by
    rcases Nat.lt_or_ge 52 n.log2 with h1 | h1
    · have : 2 ^ 53 ≤ 2 ^ n.log2 := Nat.pow_le_pow_right (by omega) (by omega)
      omega
    · exact h1
  refine ⟨n.log2, hL, hL1, hL2, ?_⟩
  unfold FloatKind.nearest FloatKind.encode Ieee.Format.write
  show Ieee.Format.nearest F64 (decide ((n : Int) < 0)) (n : Int).natAbs 0 = _
  rw [dec_f (by omega), Int.natAbs_natCast]
  unfold Ieee.Format.nearest Ieee.Format.word
  rw [if_neg (by omega)]
  simp only [Bool.false_eq_true, if_false]
  rw [lp_eq, show F64.fractionBits = 52 from rfl, bi_eq, ir_eq]
  rw [show max ((0 : Int) + (n.log2 : Int) - ((52 : Nat) : Int)) (-1074) = (n.log2 : Int) - 52 by omega]
  rw [show ((0 : Int) - ((n.log2 : Int) - 52)).toNat = 52 - n.log2 by omega, show ((n.log2 : Int) - 52 - 0).toNat = 0 by omega, cut_zero, Nat.shiftLeft_eq, show ((n.log2 : Int) - 52 - -1074).toNat = n.log2 + 1022 by omega]
  have h1 : n * 2 ^ (52 - n.log2) ≤ 2 ^ (n.log2 + 1) * 2 ^ (52 - n.log2) := Nat.mul_le_mul_right _ (by omega)
  rw [← Nat.pow_add, show n.log2 + 1 + (52 - n.log2) = 53 by omega] at h1
  have h2 : (n.log2 + 1022) * 4503599627370496 ≤ 1074 * 4503599627370496 := Nat.mul_le_mul_right _ (by omega)
  generalize n * 2 ^ (52 - n.log2) = z at h1
  rw [show (2 : Nat) ^ 53 = 9007199254740992 from rfl] at h1
  clear hL1 hL2
  generalize n.log2 = L at hL h2
  rw [Nat.min_def, if_pos (show (L + 1022) * 4503599627370496 + z ≤ 9218868437227405312 from Nat.le_trans (Nat.add_le_add h2 h1) (by decide))]
theorem near_ok {n : Nat} (h0 : 1 ≤ n) (h : n ≤ 9007199254740992) : rung (FloatKind.f64.nearest (n : Int)) < 9218868437227405312 ∧ rung (FloatKind.f64.nearest (n : Int)) ≠ 0 ∧ sgn (FloatKind.f64.nearest (n : Int)) = false ∧ wholeV (FloatKind.f64.nearest (n : Int)) = n := by
  by_cases hn : n = 9007199254740992
  · subst hn
    rw [show FloatKind.f64.nearest ((9007199254740992 : Nat) : Int) = 4845873199050653696 by kernel_rfl]
    decide +kernel
  · obtain ⟨L, hL, h1, h2, hx⟩ := near_val h0 (show n < 9007199254740992 by omega)
    have g1 : 2 ^ L * 2 ^ (52 - L) ≤ n * 2 ^ (52 - L) := Nat.mul_le_mul_right _ h1
    have g2 : n * 2 ^ (52 - L) < 2 ^ (L + 1) * 2 ^ (52 - L) := Nat.mul_lt_mul_of_pos_right h2 (Nat.two_pow_pos _)
    rw [← Nat.pow_add, show L + (52 - L) = 52 by omega] at g1
    rw [← Nat.pow_add, show L + 1 + (52 - L) = 53 by omega] at g2
    have hx' : FloatKind.f64.nearest (n : Int) = (L + 1023) * 4503599627370496 + (n * 2 ^ (52 - L) - 4503599627370496) := by rw [hx]; omega
    obtain ⟨f, hf⟩ : ∃ f, f = n * 2 ^ (52 - L) - 4503599627370496 := ⟨_, rfl⟩
    rw [← hf] at hx'
    have hf1 : f < 4503599627370496 := by omega
    obtain ⟨x, hxe⟩ : ∃ x, x = (L + 1023) * 4503599627370496 + f := ⟨_, rfl⟩
    rw [← hxe] at hx'
    have hlt : x < 9223372036854775808 := by omega
    have d1 : x % 4503599627370496 = f := by omega
    have d2 : x / 4503599627370496 = L + 1023 := by omega
    have d3 : 4503599627370496 ≤ x := by omega
    have d4 : x < 9218868437227405312 := by omega
    obtain ⟨s1, s2⟩ := small_pos hlt
    have e3 : 4503599627370496 + f = n * 2 ^ (52 - L) := by omega
    clear hxe
    rw [hx', s2, s1]
    refine ⟨d4, by omega, rfl, ?_⟩
    obtain ⟨m1, m2⟩ := mp_norm (x := x) (by rw [s2]; exact d3)
    rw [s2, d1, e3] at m1
    rw [s2, d2] at m2
    unfold wholeV
    rw [m1, m2, show (((L + 1023 : Nat) : Int) - 1075).toNat = 0 by omega, Nat.shiftLeft_zero, show (-(((L + 1023 : Nat) : Int) - 1075)).toNat = 52 - L by omega]
    exact Nat.mul_div_cancel _ (Nat.two_pow_pos _)
theorem show_near {n : Nat} (h : n ≤ 9007199254740992) : g_script_Show (FloatKind.f64.nearest (n : Int)) = some (printV n, true) := by
  by_cases h0 : n = 0
  · subst h0
    rw [show FloatKind.f64.nearest ((0 : Nat) : Int) = 0 by kernel_rfl, show printV 0 = [48] from if_pos rfl]
    have a1 : g_script_Show 0 = some ([48], true) := by kernel_rfl
    exact a1
  · obtain ⟨hr, hz, hs, hw⟩ := near_ok (by omega) h
    have hx := nearest_lt n
    have hx0 := near_le (n := n)
    generalize hX : FloatKind.f64.nearest (n : Int) = x at *
    have hk : kindV x = 6 := by
      unfold kindV
      rw [if_neg (by omega), if_neg (by omega), if_neg hz, hs]; rfl
    unfold g_script_Show
    rw [edge_ok hx, hk]
    simp only [bO_some]
    rw [show ((6 : Int) == 1) = false from rfl, show ((6 : Int) == 7) = false from rfl, show ((6 : Int) == 2) = false from rfl, show ((6 : Int) == 4) = false from rfl]
    simp only [cond_false]
    have hlt : fLt x 0 = false := by
      show (F64.order x 0 == some .lt) = false
      rw [ord_zero hx hr, if_neg hz, hs]; rfl
    rw [hlt, gt_exact hx hr hs, hw, dec_f (by omega)]
    simp only [Bool.or_self, cond_false]
    unfold g_math_Floor
    rw [floor_ok hx hr hs, hw, hX]
    simp only [bO_some]
    rw [ne_floor hx hr hs hx0, dec_t rfl]
    simp only [Bool.not_true, Bool.or_self, cond_false]
    rw [f2i_ok hx hr hs (by omega), hw]
    simp only [bO_some]
    rw [print_ok (by omega), Int.toNat_natCast]; rfl
/-! What is read is right. -/
theorem qnV_b {s : List UInt8} {n : Int} (h : qnV s = some n) : I64 n ∧ 0 ≤ n := by
  unfold qnV quantV at h
  split at h
  · cases h
  · cases h
    have := satN_le (decV (s.takeWhile isD) * unitOf (s.dropWhile isD))
    show I64 ((satN (decV (s.takeWhile isD) * unitOf (s.dropWhile isD)) : Nat) : Int) ∧ 0 ≤ ((satN (decV (s.takeWhile isD) * unitOf (s.dropWhile isD)) : Nat) : Int)
    unfold I64; omega
theorem whV_b {s : List UInt8} {n : Int} (h : whV s = some n) : I64 n ∧ inB n = true ∧ Lib.itoa n = s := by
  obtain ⟨h1, h2, h3⟩ := whV_some.1 h
  refine ⟨by unfold I64; omega, ?_, h1.symm⟩
  unfold inB
  rw [dec_t (show n ≥ -1099511627776 from h2), dec_t h3]; rfl
theorem wdV_b {s w : List UInt8} (h : wdV s = some w) : w = s ∧ wordB w = true := by
  unfold wdV at h
  split at h
  · cases h; exact ⟨rfl, ‹_›⟩
  · cases h
theorem amV_b {s : List UInt8} (hs : s.length ≤ BB) {y : Nat} (h : amV s = some y) : F64b y ∧ shB y = true := by
  have hfb := (amV_lt (le_lim hs) h).1
  refine ⟨hfb, ?_⟩
  have key : ∀ t, g_script_Show y = some (t, true) → shB y = true := fun t e => by unfold shB; rw [e]; rfl
  unfold amV g_script_Amount at h
  rw [show g_math_NaN = some 9221120237041090561 by kernel_rfl, show g_math_Inf 1 = some 9218868437227405312 by kernel_rfl, show g_math_Inf (-1) = some 18442240474082181120 by kernel_rfl, show g_math_Copysign 0 13830554455654793216 = some 9223372036854775808 by kernel_rfl, read_ok (le_lim hs)] at h
  simp only [bO_some] at h
  cases h1 : s == [110, 97, 110] with
  | true =>
    rw [h1] at h
    cases h
    have e : g_script_Show 9221120237041090561 = some ([110, 97, 110], true) := by kernel_rfl
    exact key _ e
  | false =>
    rw [h1] at h
    simp only [cond_false] at h
    cases h2 : s == [105, 110, 102] with
    | true =>
      rw [h2] at h
      cases h
      have e : g_script_Show 9218868437227405312 = some ([105, 110, 102], true) := by kernel_rfl
      exact key _ e
    | false =>
      rw [h2] at h
      simp only [cond_false] at h
      cases h3 : s == [45, 105, 110, 102] with
      | true =>
        rw [h3] at h
        cases h
        have e : g_script_Show 18442240474082181120 = some ([45, 105, 110, 102], true) := by kernel_rfl
        exact key _ e
      | false =>
        rw [h3] at h
        simp only [cond_false] at h
        cases h4 : s == [45, 48] with
        | true =>
          rw [h4] at h
          cases h
          have e : g_script_Show 9223372036854775808 = some ([45, 48], true) := by kernel_rfl
          exact key _ e
        | false =>
          rw [h4] at h
          simp only [cond_false] at h
          cases h5 : ((qe s != 0) || decide ((qv s : Int) > 9007199254740992)) with
          | true => rw [h5] at h; cases h
          | false =>
            rw [h5] at h
            cases h
            rw [Bool.or_eq_false_iff] at h5
            have := of_decide_eq_false h5.2
            exact key _ (show_near (by omega))
theorem thr_b {f : List UInt8 → Option Int} {p : Int → Prop} (hp : ∀ s n, f s = some n → p n) {ts r : List (List UInt8)} {v : V3 Int} (h : threeR f ts = some (v, r)) : V3p p v := by
  unfold threeR at h
  rw [Option.bind_eq_some_iff] at h
  obtain ⟨a, h1, h⟩ := h
  rw [Option.bind_eq_some_iff] at h
  obtain ⟨b, h2, h⟩ := h
  rw [Option.bind_eq_some_iff] at h
  obtain ⟨c, h3, h⟩ := h
  cases h
  have fl : ∀ (ts : List (List UInt8)) (q : Int × List (List UInt8)), fieldR f ts = some q → p q.1 := by
    intro ts q hq
    cases ts with
    | nil => cases hq
    | cons t r =>
      have hq : (f t).map (fun a => (a, r)) = some q := hq
      rw [Option.map_eq_some_iff] at hq
      obtain ⟨z, hz, rfl⟩ := hq
      exact hp _ _ hz
  exact ⟨fl _ _ h1, fl _ _ h2, fl _ _ h3⟩
theorem fieldR_b {α : Type} {f : List UInt8 → Option α} {ts : List (List UInt8)} {q : α × List (List UInt8)} (h : fieldR f ts = some q) : ∃ t, t ∈ ts ∧ f t = some q.1 ∧ ∀ s ∈ q.2, s ∈ ts := by
  cases ts with
  | nil => cases h
  | cons t r =>
    have h : (f t).map (fun a => (a, r)) = some q := h
    rw [Option.map_eq_some_iff] at h
    obtain ⟨z, hz, rfl⟩ := h
    exact ⟨t, List.mem_cons_self .., hz, fun s hs => List.mem_cons_of_mem _ hs⟩
theorem nonneg3 {v : V3 Int} (h : V3p (fun n => I64 n ∧ 0 ≤ n) v) : (v3l v).any (fun n => decide (n < 0)) = false := by
  simp only [v3l, List.any_cons, List.any_nil, Bool.or_false, Bool.or_eq_false_iff, decide_eq_false_iff_not]
  have := h.a.2
  have := h.b.2
  have := h.c.2
  omega
theorem raw0_b : V3p F64b raw0.avail := ⟨by unfold F64b; decide, by unfold F64b; decide, by unfold F64b; decide⟩
theorem i0 : I64 0 := by unfold I64; omega
theorem pod0_b : V3p I64 (⟨0, 0, 0⟩ : V3 Int) := ⟨i0, i0, i0⟩
theorem nil_b {α : Type} : ([] : List α).length ≤ BB := by simp
theorem podR_b {ts r : List (List UInt8)} {p : SPod} (ho : ∀ s ∈ ts, s.length ≤ BB) (h : podR ts = some (p, r)) : ActB (aAdmit p) ∧ podG p = true := by
  unfold podR at h
  rw [Option.bind_eq_some_iff] at h
  obtain ⟨a, h1, h⟩ := h
  rw [Option.bind_eq_some_iff] at h
  obtain ⟨b, h2, h⟩ := h
  rw [Option.bind_eq_some_iff] at h
  obtain ⟨c, h3, h⟩ := h
  rw [Option.bind_eq_some_iff] at h
  obtain ⟨d, h4, h⟩ := h
  rw [Option.bind_eq_some_iff] at h
  obtain ⟨e, h5, h⟩ := h
  rw [Option.bind_eq_some_iff] at h
  obtain ⟨f, h6, h⟩ := h
  obtain ⟨t1, m1, e1, s1⟩ := fieldR_b h1
  obtain ⟨t2, m2, e2, s2⟩ := fieldR_b h2
  obtain ⟨t3, m3, e3, s3⟩ := fieldR_b h3
  obtain ⟨t4, m4, e4, s4⟩ := fieldR_b h4
  obtain ⟨w1, w2⟩ := wdV_b e1
  obtain ⟨x1, x2⟩ := wdV_b e2
  obtain ⟨q1, q2⟩ := qnV_b e3
  obtain ⟨n1, n2, _⟩ := whV_b e4
  have g6 := thr_b (p := fun n => I64 n ∧ 0 ≤ n) (fun s n => qnV_b) (show threeR qnV e.2 = some (f.1, f.2) from h6)
  have fin : ∀ (L : V3 Int), V3p (fun n => I64 n ∧ 0 ≤ n) L → ActB (aAdmit ⟨a.1, d.1, e.1, f.1, L, b.1, c.1⟩) ∧ podG ⟨a.1, d.1, e.1, f.1, L, b.1, c.1⟩ = true := by
    intro L hL
    refine ⟨⟨n1, q1, ⟨g6.a.1, g6.b.1, g6.c.1⟩, ⟨hL.a.1, hL.b.1, hL.c.1⟩, by show a.1.length ≤ BB; rw [w1]; exact ho _ m1, by show b.1.length ≤ BB; rw [x1]; exact ho _ (s1 _ m2), nil_b, i0, raw0_b, (fun u hu => by cases hu), i0, (fun n hn => by cases hn), nil_b, nil_b, nil_b⟩, ?_⟩
    unfold podG
    simp only [w2, x2, n2, nonneg3 g6, nonneg3 hL, dec_f (show ¬ c.1 < 0 by omega)]
    simp
  split at h
  · cases h
    exact fin ⟨0, 0, 0⟩ ⟨⟨i0, Int.le_refl _⟩, ⟨i0, Int.le_refl _⟩, ⟨i0, Int.le_refl _⟩⟩
  · rw [Option.bind_eq_some_iff] at h
    obtain ⟨g, h7, h⟩ := h
    have g7 := thr_b (p := fun n => I64 n ∧ 0 ≤ n) (fun s n => qnV_b) (show threeR qnV f.2 = some (g.1, g.2) from h7)
    cases h
    exact fin g.1 g7
theorem usesR_b : ∀ (us : List (List UInt8)) (u : List SUsage), (∀ s ∈ us, s.length ≤ BB) → usesR us = some u → (∀ x ∈ u, x.id.length ≤ BB ∧ V3p F64b x.amount) ∧ usesG u = true
  | [], _, _, h => by cases h; exact ⟨fun x hx => (by cases hx), rfl⟩
  | [_], _, _, h => by cases h
  | [_, _], _, _, h => by cases h
  | [_, _, _], _, _, h => by cases h
  | w :: a :: b :: c :: r, u, hb, h => by
    rw [usesR] at h
    rw [Option.bind_eq_some_iff] at h
    obtain ⟨w', h1, h⟩ := h
    rw [Option.bind_eq_some_iff] at h
    obtain ⟨a', h2, h⟩ := h
    rw [Option.bind_eq_some_iff] at h
    obtain ⟨b', h3, h⟩ := h
    rw [Option.bind_eq_some_iff] at h
    obtain ⟨c', h4, h⟩ := h
    rw [Option.map_eq_some_iff] at h
    obtain ⟨v, h, rfl⟩ := h
    have ih := usesR_b r v (fun s hs => hb s (by simp [hs])) h
    obtain ⟨w1, w2⟩ := wdV_b h1
    obtain ⟨a1, a2⟩ := amV_b (hb a (by simp)) h2
    obtain ⟨b1, b2⟩ := amV_b (hb b (by simp)) h3
    obtain ⟨c1, c2⟩ := amV_b (hb c (by simp)) h4
    refine ⟨fun x hx => ?_, ?_⟩
    · rcases List.mem_cons.1 hx with rfl | hx
      · exact ⟨by rw [w1]; exact hb w (by simp), ⟨a1, b1, c1⟩⟩
      · exact ih.1 x hx
    · have ih2 := ih.2
      unfold usesG at ih2 ⊢
      rw [List.all_cons, ih2]
      simp only [amsB, w2, a2, b2, c2]; rfl
theorem allV_b {α : Type} {f : List UInt8 → Option α} {p : α → Prop} (hp : ∀ s a, f s = some a → p a) : ∀ (us : List (List UInt8)) (u : List α), allV f us = some u → ∀ x ∈ u, p x
  | [], _, h => by cases h; exact fun x hx => by cases hx
  | t :: r, u, h => by
    rw [allV, Option.bind_eq_some_iff] at h
    obtain ⟨a, h1, h⟩ := h
    rw [Option.map_eq_some_iff] at h
    obtain ⟨v, h, rfl⟩ := h
    intro x hx
    rcases List.mem_cons.1 hx with rfl | hx
    · exact hp _ _ h1
    · exact allV_b hp r v h x hx
theorem lineV_right {ts : List (List UInt8)} (ho : OKT ts) {a : SAct} (h : lineV ts = some a) : ActB a ∧ actG a = true := by
  cases ts with
  | nil => cases h
  | cons t ts =>
    have hB := ho.1
    have hin : ∀ s ∈ ts, s.length ≤ BB := fun s hs => ho.2 s (List.mem_cons_of_mem _ hs)
    simp only [List.length_cons] at hB
    replace h : lineW t ts = some a := h
    unfold lineW at h
    split at h
    · unfold admV at h
      split at h
      · rename_i p hp
        cases h
        obtain ⟨b1, b2⟩ := podR_b hin hp
        refine ⟨b1, ?_⟩
        show (restV (aAdmit p) && podG p) = true
        rw [b2]; rfl
      · cases h
    · split at h
      · unfold delV at h
        split at h
        · rename_i w
          rw [Option.map_eq_some_iff] at h
          obtain ⟨v, hv, rfl⟩ := h
          obtain ⟨w1, w2⟩ := wdV_b hv
          refine ⟨⟨i0, i0, pod0_b, pod0_b, nil_b, nil_b, by show v.length ≤ BB; rw [w1]; exact hin w (by simp), i0, raw0_b, (fun u hu => by cases hu), i0, (fun n hn => by cases hn), nil_b, nil_b, nil_b⟩, ?_⟩
          show (restV (aDelete v) && wordB v) = true
          rw [w2]; rfl
        · cases h
      · split at h
        · split at h
          · cases h
            exact ⟨⟨i0, i0, pod0_b, pod0_b, nil_b, nil_b, nil_b, i0, raw0_b, (fun u hu => by cases hu), i0, (fun n hn => by cases hn), nil_b, nil_b, nil_b⟩, rfl⟩
          · cases h
        · split at h
          · rw [Option.map_eq_some_iff] at h
            obtain ⟨r, hq, rfl⟩ := h
            unfold rawV at hq
            split at hq
            · rename_i n x y z us
              rw [Option.bind_eq_some_iff] at hq
              obtain ⟨n', h1, hq⟩ := hq
              rw [Option.bind_eq_some_iff] at hq
              obtain ⟨a', h2, hq⟩ := hq
              rw [Option.bind_eq_some_iff] at hq
              obtain ⟨b', h3, hq⟩ := hq
              rw [Option.bind_eq_some_iff] at hq
              obtain ⟨c', h4, hq⟩ := hq
              rw [Option.map_eq_some_iff] at hq
              obtain ⟨v, hq, rfl⟩ := hq
              have hu := usesR_b us v (fun s hs => hin s (by simp [hs])) hq
              have hu2 := (usesR_self us v (fun s hs => hin s (by simp [hs])) hq).2
              obtain ⟨n1, n2, _⟩ := whV_b h1
              obtain ⟨a1, a2⟩ := amV_b (hin x (by simp)) h2
              obtain ⟨b1, b2⟩ := amV_b (hin y (by simp)) h3
              obtain ⟨c1, c2⟩ := amV_b (hin z (by simp)) h4
              simp only [List.length_cons] at hB
              refine ⟨⟨i0, i0, pod0_b, pod0_b, nil_b, nil_b, nil_b, n1, ⟨a1, b1, c1⟩, hu.1, i0, (fun n hn => by cases hn), by show v.length ≤ BB; omega, nil_b, nil_b⟩, ?_⟩
              show (restV (aSample ⟨n', ⟨a', b', c'⟩, v⟩) && (inB n' && (shB a' && shB b' && shB c') && usesG v)) = true
              rw [n2, a2, b2, c2, hu.2]; rfl
            · cases hq
          · split at h
            · rw [Option.map_eq_some_iff] at h
              obtain ⟨u, hq, rfl⟩ := h
              have hl := allV_len _ _ _ hq
              refine ⟨⟨i0, i0, pod0_b, pod0_b, nil_b, nil_b, nil_b, i0, raw0_b, (fun u hu => by cases hu), i0, (fun n hn => by cases hn), nil_b, by show u.length ≤ BB; omega, nil_b⟩, rfl⟩
            · split at h
              · unfold craV at h
                split at h
                · rename_i n ks
                  rw [Option.bind_eq_some_iff] at h
                  obtain ⟨n', h1, h⟩ := h
                  rw [Option.map_eq_some_iff] at h
                  obtain ⟨u, hq, rfl⟩ := h
                  have hl := allV_len _ _ _ hq
                  have hall := allV_b (p := fun n => I64 n ∧ inB n = true) (fun s a h => ⟨(whV_b h).1, (whV_b h).2.1⟩) _ _ hq
                  obtain ⟨n1, n2, _⟩ := whV_b h1
                  simp only [List.length_cons] at hB
                  refine ⟨⟨i0, i0, pod0_b, pod0_b, nil_b, nil_b, nil_b, i0, raw0_b, (fun u hu => by cases hu), n1, (fun n hn => (hall n hn).1), nil_b, nil_b, by show u.length ≤ BB; omega⟩, ?_⟩
                  show (restV (aCrash n' u) && (inB n' && u.all inB)) = true
                  rw [n2, show u.all inB = true from List.all_eq_true.2 fun n hn => (hall n hn).2]; rfl
                · cases h
              · cases h
end
section
theorem blank32 : blankB ((32 : UInt8).toNat : Int) = true := rfl
theorem scan_blanks : ∀ (ws : List (List UInt8)), (∀ w ∈ ws, GoodW w) → ∀ n i, (scan n i (ws.flatMap fun v => 32 :: v)).map (·.text) = ws
  | [], _, n, i => by simp [scan_nil]
  | w :: r, h, n, i => by
    have hw := h w (List.mem_cons_self ..)
    have ih := scan_blanks r (fun v hv => h v (List.mem_cons_of_mem _ hv))
    rw [List.flatMap_cons, List.cons_append, scan_blank blank32, scan_wordS hw.1 hw.2.1 hw.2.2]
    · simp only [List.map_cons, ih]
    · intro c t e
      cases r with
      | nil => cases e
      | cons v t' => rw [List.flatMap_cons] at e; cases e; exact blank32
theorem scan_wT (ws : List (List UInt8)) (h : ∀ w ∈ ws, GoodW w) (n i : Nat) : (scan n i (wT ws)).map (·.text) = ws := by
  cases ws with
  | nil => simp [wT, scan_nil]
  | cons w r =>
    have hw := h w (List.mem_cons_self ..)
    have ih := scan_blanks r (fun v hv => h v (List.mem_cons_of_mem _ hv))
    rw [wT, scan_wordS hw.1 hw.2.1 hw.2.2]
    · simp only [List.map_cons, ih]
    · intro c t e
      cases r with
      | nil => cases e
      | cons v t' => rw [List.flatMap_cons] at e; cases e; exact blank32
theorem splitNl_one : ∀ (s : List UInt8), (10 : UInt8) ∉ s → splitNl s = [s]
  | [], _ => rfl
  | c :: r, h => by
    have ih := splitNl_one r (fun e => h (List.mem_cons_of_mem _ e))
    obtain ⟨hd, tl, e1, e2⟩ := splitNl_ne (c := c) (fun e => h (by rw [e]; exact List.mem_cons_self ..)) r
    rw [ih] at e1
    cases e1
    exact e2
theorem wT_mem {ws : List (List UInt8)} {c : UInt8} (h : c ∈ wT ws) : c = 32 ∨ ∃ w ∈ ws, c ∈ w := by
  cases ws with
  | nil => cases h
  | cons w r =>
    rw [wT, List.mem_append] at h
    rcases h with h | h
    · exact .inr ⟨w, List.mem_cons_self .., h⟩
    · obtain ⟨v, hv, hc⟩ := List.mem_flatMap.1 h
      rcases List.mem_cons.1 hc with rfl | hc
      · exact .inl rfl
      · exact .inr ⟨v, List.mem_cons_of_mem _ hv, hc⟩
/-- Words that may be joined: good ones, without lines' ends, of readable letters. -/
def JoinOk (x : List (List (List UInt8))) : Prop := ∀ ws ∈ x, ws ≠ [] ∧ ∀ w ∈ ws, GoodW w ∧ ∀ c ∈ w, c ≠ 10 ∧ okB (c.toNat : Int) = true
theorem splitNl_jT : ∀ (x : List (List (List UInt8))), JoinOk x → splitNl (jT x) = x.map wT ++ [[]]
  | [], _ => rfl
  | ws :: r, h => by
    have ih := splitNl_jT r (fun v hv => h v (List.mem_cons_of_mem _ hv))
    have e : jT (ws :: r) = wT ws ++ 10 :: jT r := by simp [jT]
    rw [e, splitNl_app, ih, splitNl_one]
    · rfl
    · intro hm
      rcases wT_mem hm with h1 | ⟨w, hw, hc⟩
      · cases h1
      · exact ((h ws (List.mem_cons_self ..)).2 w hw).2 10 hc |>.1 rfl
def relaid : Nat → List (List (List UInt8)) → List (List Field)
  | _, [] => []
  | n, ws :: r => scan n 0 (wT ws) :: relaid (n + 1) r
theorem lexFrom_wT : ∀ (x : List (List (List UInt8))) (n : Nat), JoinOk x → lexFrom n (x.map wT ++ [[]]) = relaid n x
  | [], n, _ => by simp [lexFrom, relaid, scan_nil]
  | ws :: r, n, h => by
    have ih := lexFrom_wT r (n + 1) (fun v hv => h v (List.mem_cons_of_mem _ hv))
    have hs := scan_wT ws (fun w hw => ((h ws (List.mem_cons_self ..)).2 w hw).1) n 0
    rw [List.map_cons, List.cons_append, lexFrom, ih, relaid, if_neg]
    intro e
    rw [List.length_eq_zero_iff.1 e] at hs
    exact (h ws (List.mem_cons_self ..)).1 hs.symm
theorem relaid_texts : ∀ (x : List (List (List UInt8))) (n : Nat), JoinOk x → textsOf (relaid n x) = x
  | [], n, _ => rfl
  | ws :: r, n, h => by
    have ih := relaid_texts r (n + 1) (fun v hv => h v (List.mem_cons_of_mem _ hv))
    have hs := scan_wT ws (fun w hw => ((h ws (List.mem_cons_self ..)).2 w hw).1) n 0
    simp only [textsOf] at ih
    simp only [relaid, textsOf, List.map_cons, hs, ih]
theorem relaid_line : ∀ (x : List (List (List UInt8))) (n i : Nat) (fs : List Field), (relaid n x)[i]? = some fs → ∀ f ∈ fs, f.line = n + i
  | [], n, i, fs, h => by cases h
  | ws :: r, n, 0, fs, h => by
    simp only [relaid, List.getElem?_cons_zero, Option.some.injEq] at h
    subst h
    intro f hf
    exact (scan_good _ _ _ f hf).2.1
  | ws :: r, n, i + 1, fs, h => by
    simp only [relaid, List.getElem?_cons_succ] at h
    intro f hf
    have := relaid_line r (n + 1) i fs h f hf
    omega
theorem lex_ok (b : List UInt8) : JoinOk (textsOf (lexLines b)) := by
  intro ws hws
  obtain ⟨fs, hfs, rfl⟩ := List.mem_map.1 hws
  obtain ⟨h1, h2⟩ := lex_good b fs hfs
  refine ⟨fun e => h1 (List.map_eq_nil_iff.1 e), fun w hw => ?_⟩
  obtain ⟨f, hf, rfl⟩ := List.mem_map.1 hw
  exact h2 f hf
theorem readable_jT {x : List (List (List UInt8))} (h : JoinOk x) (hl : (jT x).length ≤ 65536) : readableB (jT x) = true := by
  simp only [readableB, Bool.and_eq_true, decide_eq_true_eq]
  refine ⟨List.all_eq_true.2 (fun c hc => ?_), hl⟩
  obtain ⟨ws, hws, hc⟩ := List.mem_flatMap.1 hc
  rcases List.mem_append.1 hc with hc | hc
  · rcases wT_mem hc with rfl | ⟨w, hw, hc⟩
    · rfl
    · exact (((h ws hws).2 w hw).2 c hc).2
  · simp at hc; subst hc; rfl

/-- What is joined is read again. -/
structure Again (l m : List (List Field)) (s : List UInt8) : Prop where
  rd : readableB s = true
  len : m.length = l.length
  lens : ∀ i, (m.getD i []).length = (l.getD i []).length
  text : ∀ i k, ((m.getD i []).getD k f0).text = ((l.getD i []).getD k f0).text
  line : ∀ i k, i < m.length → k < (m.getD i []).length → ((m.getD i []).getD k f0).line = i + 1
  join : joinT m = s
theorem texts_at (x : List (List Field)) (i k : Nat) : ((x.getD i []).getD k f0).text = (((textsOf x).getD i []).getD k []) ∧ (x.getD i []).length = ((textsOf x).getD i []).length := by
  have e : (textsOf x).getD i [] = (x.getD i []).map (·.text) := by
    rw [textsOf, List.getD_eq_getElem?_getD, List.getElem?_map, List.getD_eq_getElem?_getD]
    cases x[i]? <;> rfl
  rw [e]
  generalize x.getD i [] = fs
  refine ⟨?_, by simp⟩
  rw [List.getD_eq_getElem?_getD, List.getD_eq_getElem?_getD, List.getElem?_map]
  cases fs[k]? <;> rfl
theorem again (b : List UInt8) (hb : b.length ≤ 5000) : Again (lexLines b) (lexLines (joinT (lexLines b))) (joinT (lexLines b)) := by
  have hok := lex_ok b
  have hlen := joinT_len b
  have hr : readableB (joinT (lexLines b)) = true := by
    rw [joinT_eq] at hlen ⊢
    exact readable_jT hok (by omega)
  have hm : lexLines (joinT (lexLines b)) = relaid 1 (textsOf (lexLines b)) := by
    rw [lexLines, hr, if_pos rfl, joinT_eq, splitNl_jT _ hok, lexFrom_wT _ _ hok]
  have ht : textsOf (lexLines (joinT (lexLines b))) = textsOf (lexLines b) := by rw [hm, relaid_texts _ _ hok]
  refine ⟨hr, ?_, fun i => ?_, fun i k => ?_, fun i k hi hk => ?_, ?_⟩
  · rw [← textsOf_len, ht, textsOf_len]
  · rw [(texts_at _ i 0).2, ht, ← (texts_at _ i 0).2]
  · rw [(texts_at _ i k).1, ht, ← (texts_at _ i k).1]
  · have h1 : (lexLines (joinT (lexLines b)))[i]? = some ((lexLines (joinT (lexLines b))).getD i []) := by
      rw [List.getD_eq_getElem?_getD, List.getElem?_eq_getElem hi]; rfl
    have h2 : ((lexLines (joinT (lexLines b))).getD i []).getD k f0 ∈ (lexLines (joinT (lexLines b))).getD i [] := by
      generalize (lexLines (joinT (lexLines b))).getD i [] = fs at hk
      rw [List.getD_eq_getElem?_getD, List.getElem?_eq_getElem hk]; exact List.getElem_mem _
    have h3 : (relaid 1 (textsOf (lexLines b)))[i]? = some ((lexLines (joinT (lexLines b))).getD i []) := by rw [← hm]; exact h1
    have := relaid_line _ 1 i _ h3 _ h2
    omega
  · rw [joinT_eq, ht, ← joinT_eq]

/-! Remarks. -/
end
section
open Go.RowKit

/-- A word that is read again as it is. -/
def GoodT (w : List UInt8) : Prop := GoodW w ∧ ∀ c ∈ w, c ≠ 10 ∧ okB (c.toNat : Int) = true
def gw (w : List UInt8) : Bool := !w.isEmpty && (w.all fun c => decide (33 ≤ c.toNat) && decide (c.toNat ≤ 126)) && w.head? != some 35
theorem gw_good {w : List UInt8} (h : gw w = true) : GoodT w := by
  unfold gw at h
  rw [Bool.and_eq_true, Bool.and_eq_true] at h
  obtain ⟨⟨h1, h2⟩, h3⟩ := h
  have hc : ∀ c ∈ w, 33 ≤ c.toNat ∧ c.toNat ≤ 126 := fun c hc => by
    have := List.all_eq_true.1 h2 c hc
    rw [Bool.and_eq_true] at this
    exact ⟨of_decide_eq_true this.1, of_decide_eq_true this.2⟩
  have hb : ∀ c ∈ w, blankB (c.toNat : Int) = false := fun c hm => by
    have := hc c hm
    unfold blankB
    rw [show ((c.toNat : Int) == 32) = false from beq_eq_false_iff_ne.2 (by omega), show ((c.toNat : Int) == 9) = false from beq_eq_false_iff_ne.2 (by omega), show ((c.toNat : Int) == 13) = false from beq_eq_false_iff_ne.2 (by omega)]; rfl
  refine ⟨⟨?_, hb, ?_⟩, fun c hm => ⟨?_, ?_⟩⟩
  · intro e; subst e; simp at h1
  · intro c r e h35
    subst e
    have : c = 35 := UInt8.toNat_inj.1 h35
    subst this
    simp at h3
  · intro e; subst e; have := hc 10 hm; have : ((10 : UInt8).toNat) = 10 := rfl; omega
  · have := hc c hm
    unfold okB
    rw [dec_t (show 32 ≤ (c.toNat : Int) by omega), dec_t (show (c.toNat : Int) ≤ 126 by omega)]
    simp
theorem word_chars (a : List UInt8) (k : Bool) : ∀ (r pre : List UInt8) (m : Nat), a = pre ++ r → r.length < m → a.length ≤ lim → g_script_Word_l2 a (some k) m (pre.length : Int) = some true → k = true ∧ ∀ c ∈ r, 33 ≤ c.toNat ∧ c.toNat ≤ 126
  | _, _, 0, _, h, _, _ => by omega
  | [], pre, m + 1, he, _, _, h => by
    subst he
    rw [g_script_Word_l2, List.append_nil, dec_f (by omega)] at h
    simp only [cond_false, Option.some.injEq] at h
    exact ⟨h, fun c hc => by cases hc⟩
  | c :: r, pre, m + 1, he, h, hl, hg => by
    have h1 : (c :: r).length = r.length + 1 := rfl
    have h2 := hl
    rw [he, List.length_append, h1] at h2
    unfold lim at h2
    subst he
    rw [g_script_Word_l2, dec_t (by rw [List.length_append, h1]; omega), idx_nat (app_get pre c r)] at hg
    simp only [cond_true, bO_some] at hg
    cases hb : (decide ((c.toNat : Int) ≤ 32) || decide ((c.toNat : Int) > 126)) with
    | true => rw [hb] at hg; cases hg
    | false =>
      rw [hb, cond_false, w64_succ (by omega)] at hg
      rw [Bool.or_eq_false_iff] at hb
      have b1 := of_decide_eq_false hb.1
      have b2 := of_decide_eq_false hb.2
      have ih := word_chars (pre ++ c :: r) k r (pre ++ [c]) m (by simp) (by omega) hl (by rw [List.length_append, List.length_singleton]; exact hg)
      exact ⟨ih.1, fun x hx => by
        rcases List.mem_cons.1 hx with rfl | hx
        · omega
        · exact ih.2 x hx⟩
theorem word_gw {s : List UInt8} (hs : s.length ≤ BB) (h : wordB s = true) : gw s = true ∧ s.length ≤ 60 := by
  have h1 := (wordB_ok (le_lim hs)).1
  rw [h] at h1
  unfold g_script_Word at h1
  rw [show bytesO s = some s from if_pos (le_lim hs)] at h1
  simp only [bO_some] at h1
  obtain ⟨k, hk⟩ := word_k s
  rw [hk] at h1
  obtain ⟨rfl, h2⟩ := word_chars s k s [] FUEL rfl (fuel_lt (le_lim hs)) (le_lim hs) h1
  unfold g_script_Word_k1 at hk
  cases s with
  | nil => simp at hk
  | cons c r =>
    cases hb : (decide (((c :: r).length : Int) ≥ 1) && decide (((c :: r).length : Int) ≤ 60)) with
    | false => rw [hb] at hk; simp at hk
    | true =>
      rw [hb, show idx (c :: r) 0 = some c from rfl] at hk
      simp only [cond_true, bO_some, Bool.true_and, Option.some.injEq, bne_iff_ne] at hk
      rw [Bool.and_eq_true] at hb
      have hl := of_decide_eq_true hb.2
      refine ⟨?_, by omega⟩
      unfold gw
      rw [Bool.and_eq_true, Bool.and_eq_true]
      refine ⟨⟨by simp, List.all_eq_true.2 fun x hx => ?_⟩, ?_⟩
      · have := h2 x hx
        rw [dec_t this.1, dec_t this.2]; rfl
      · simp only [List.head?_cons, bne_iff_ne, ne_eq, Option.some.injEq]
        intro e; subst e; exact hk rfl
theorem gw_app {a b : List UInt8} (h : gw a = true) (hb : ∀ c ∈ b, 33 ≤ c.toNat ∧ c.toNat ≤ 126) : gw (a ++ b) = true := by
  unfold gw at *
  cases a with
  | nil => simp at h
  | cons c r =>
    rw [Bool.and_eq_true, Bool.and_eq_true] at h ⊢
    refine ⟨⟨by simp, ?_⟩, by simpa using h.2⟩
    rw [List.all_append, h.1.2, Bool.true_and]
    refine List.all_eq_true.2 fun x hx => ?_
    have := hb x hx
    rw [dec_t this.1, dec_t this.2]; rfl
theorem digs_gw (n : Nat) : gw (digs n) = true := by
  have h1 := digs_isD n
  obtain ⟨c, r, e, h48, h57, _⟩ := digs_head n
  unfold gw
  rw [Bool.and_eq_true, Bool.and_eq_true]
  refine ⟨⟨by rw [e]; simp, List.all_eq_true.2 fun x hx => ?_⟩, ?_⟩
  · have := h1 x hx
    rw [isD_iff, Bool.and_eq_true] at this
    have a := of_decide_eq_true this.1
    have b := of_decide_eq_true this.2
    rw [dec_t (show 33 ≤ x.toNat by omega), dec_t (show x.toNat ≤ 126 by omega)]; rfl
  · rw [e]
    simp only [List.head?_cons, bne_iff_ne, ne_eq, Option.some.injEq]
    intro e2; subst e2; have : ((35 : UInt8).toNat) = 35 := rfl; omega
theorem unit_chars {nm : List UInt8} (h : unitOf nm ≠ 0) : ∀ c ∈ nm, 33 ≤ c.toNat ∧ c.toNat ≤ 126 := by
  unfold unitOf at h
  split at h
  · subst_vars; intro c hc; cases hc
  · split at h
    · rename_i u hu
      have hm := List.mem_of_find?_eq_some hu
      have hp := List.find?_some hu
      have e : u.1 = nm := by simpa using hp
      subst e
      simp only [unitL, List.mem_cons, List.mem_nil_iff, or_false] at hm
      rcases hm with rfl | rfl | rfl | rfl | rfl | rfl | rfl | rfl <;> decide
    · exact absurd rfl h
theorem printV_gw (n : Nat) : gw (printV n) = true := by
  obtain ⟨m, k, nm, e, e2, e3, _⟩ := printV_cases n
  rw [e]
  exact gw_app (digs_gw m) (unit_chars (by omega))
theorem itoa_gw (n : Int) : gw (Lib.itoa n) = true := by
  by_cases h : 0 ≤ n
  · obtain ⟨u, rfl⟩ : ∃ u : Nat, n = u := ⟨n.toNat, by omega⟩
    rw [itoa_digs]; exact digs_gw u
  · obtain ⟨u, rfl⟩ : ∃ u : Nat, n = -(u : Int) := ⟨n.natAbs, by omega⟩
    rw [Lib.itoa_neg u (by omega), ← digs_dec]
    refine gw_app (a := [45]) rfl fun c hc => ?_
    have := digs_isD u c hc
    rw [isD_iff, Bool.and_eq_true] at this
    have a := of_decide_eq_true this.1
    have b := of_decide_eq_true this.2
    omega
theorem itoa_len {n : Int} (h : I64 n) : (Lib.itoa n).length ≤ 20 := by
  unfold I64 at h
  by_cases h0 : 0 ≤ n
  · obtain ⟨u, rfl⟩ : ∃ u : Nat, n = u := ⟨n.toNat, by omega⟩
    rw [itoa_digs]
    exact Nat.le_trans (digs_len u 19 (by omega) (by omega)) (by omega)
  · obtain ⟨u, rfl⟩ : ∃ u : Nat, n = -(u : Int) := ⟨n.natAbs, by omega⟩
    rw [Lib.itoa_neg u (by omega), ← digs_dec, List.length_cons]
    have := digs_len u 19 (by omega) (by omega)
    omega
theorem prN_len {n : Int} (h : I64 n) : (prN n).length ≤ 21 := printV_len _ (by unfold I64 at h; omega)
theorem shT_ok {x : Nat} (h : F64b x) : (shT x).length ≤ 21 ∧ (shB x = true → gw (shT x) = true) := by
  have h1 := (shV_ok h).1
  generalize shT x = t at *
  generalize shB x = b at *
  unfold g_script_Show at h1
  rw [edge_ok h] at h1
  simp only [bO_some] at h1
  cases k1 : kindV x == 1 with
  | true => rw [k1] at h1; cases h1; exact ⟨by simp, fun _ => rfl⟩
  | false =>
    cases k2 : kindV x == 7 with
    | true => rw [k1, k2] at h1; cases h1; exact ⟨by simp, fun _ => rfl⟩
    | false =>
      cases k3 : kindV x == 2 with
      | true => rw [k1, k2, k3] at h1; cases h1; exact ⟨by simp, fun _ => rfl⟩
      | false =>
        cases k4 : kindV x == 4 with
        | true => rw [k1, k2, k3, k4] at h1; cases h1; exact ⟨by simp, fun _ => rfl⟩
        | false =>
          rw [k1, k2, k3, k4] at h1
          simp only [cond_false] at h1
          obtain ⟨v, hv, h1⟩ := bI h1
          cases hb : ((fLt x 0 || fGt x 4845873199050653696) || fNe x v) with
          | true => rw [hb] at h1; cases h1; exact ⟨by simp, fun e => by cases e⟩
          | false =>
            rw [hb] at h1
            simp only [cond_false] at h1
            obtain ⟨z, hz, h1⟩ := bI h1
            have hz2 : z ≤ 9223372036854775807 := by
              unfold f2i at hz
              split at hz
              · split at hz
                · rename_i hr
                  cases hz
                  exact hr.2
                · cases hz
              · cases hz
            rw [print_ok hz2] at h1
            cases h1
            exact ⟨printV_len _ (by omega), fun _ => printV_gw _⟩
/-! A line's words. -/
def WordOk (w : List UInt8) : Prop := gw w = true ∧ w.length ≤ 70
theorem podT_good {a : SAct} (ha : ActB a) (hg : podG a.pod = true) : ∀ w ∈ podT a.pod, WordOk w := by
  unfold podG at hg
  simp only [Bool.not_eq_true', Bool.or_eq_false_iff] at hg
  obtain ⟨⟨⟨⟨⟨g1, g2⟩, g3⟩, g4⟩, g5⟩, g6⟩ := hg
  have hp : ∀ n : Int, I64 n → WordOk (prN n) := fun n hn => ⟨printV_gw _, by have := prN_len hn; omega⟩
  intro w hw
  unfold podT at hw
  rw [List.mem_append, List.mem_append] at hw
  rcases hw with (hw | hw) | hw
  · simp only [List.mem_cons, List.mem_nil_iff, or_false] at hw
    rcases hw with rfl | rfl | rfl | rfl | rfl
    · have := word_gw ha.pid (by simpa using g1); exact ⟨this.1, by omega⟩
    · have := word_gw ha.image (by simpa using g2); exact ⟨this.1, by omega⟩
    · exact hp _ ha.size
    · exact ⟨itoa_gw _, by have := itoa_len ha.prio; omega⟩
    · split <;> exact ⟨rfl, by decide⟩
  · obtain ⟨n, hn, rfl⟩ := List.mem_map.1 hw
    simp only [v3l, List.mem_cons, List.mem_nil_iff, or_false] at hn
    rcases hn with rfl | rfl | rfl
    · exact hp _ ha.req.a
    · exact hp _ ha.req.b
    · exact hp _ ha.req.c
  · split at hw
    · cases hw
    · obtain ⟨n, hn, rfl⟩ := List.mem_map.1 hw
      simp only [v3l, List.mem_cons, List.mem_nil_iff, or_false] at hn
      rcases hn with rfl | rfl | rfl
      · exact hp _ ha.lim.a
      · exact hp _ ha.lim.b
      · exact hp _ ha.lim.c
theorem amsT_good {v : V3 Nat} (hv : V3p F64b v) (h : amsB v = true) : ∀ w ∈ amsT v, WordOk w := by
  unfold amsB at h
  rw [Bool.and_eq_true, Bool.and_eq_true] at h
  intro w hw
  simp only [amsT, List.mem_cons, List.mem_nil_iff, or_false] at hw
  rcases hw with rfl | rfl | rfl
  · have := shT_ok hv.a; exact ⟨this.2 h.1.1, by omega⟩
  · have := shT_ok hv.b; exact ⟨this.2 h.1.2, by omega⟩
  · have := shT_ok hv.c; exact ⟨this.2 h.2, by omega⟩
theorem actT_good {a : SAct} (ha : ActB a) (hg : actG a = true) : actT a ≠ [] ∧ ∀ w ∈ actT a, WordOk w := by
  unfold actG at hg
  rw [Bool.and_eq_true] at hg
  obtain ⟨_, hg⟩ := hg
  unfold actT
  have c0 : ∀ {w : List UInt8} {r : List (List UInt8)}, WordOk w → (∀ x ∈ r, WordOk x) → ∀ x ∈ w :: r, WordOk x := by
    intro w r h1 h2 x hx
    rcases List.mem_cons.1 hx with rfl | hx
    · exact h1
    · exact h2 x hx
  split at hg
  · rename_i h1
    rw [if_pos h1]
    exact ⟨by simp, c0 ⟨rfl, by decide⟩ (podT_good ha hg)⟩
  · rename_i h1
    rw [if_neg h1]
    split at hg
    · rename_i h2
      rw [if_pos h2]
      have := word_gw ha.id hg
      exact ⟨by simp, c0 ⟨rfl, by decide⟩ (c0 ⟨this.1, by omega⟩ (fun x hx => by cases hx))⟩
    · rename_i h2
      rw [if_neg h2]
      split at hg
      · rename_i h3
        rw [if_pos h3]
        exact ⟨by simp, c0 ⟨rfl, by decide⟩ (fun x hx => by cases hx)⟩
      · rename_i h3
        rw [if_neg h3]
        split at hg
        · rename_i h4
          rw [if_pos h4]
          rw [Bool.and_eq_true, Bool.and_eq_true] at hg
          obtain ⟨⟨g1, g2⟩, g3⟩ := hg
          refine ⟨by simp, c0 ⟨rfl, by decide⟩ (c0 ⟨itoa_gw _, by have := itoa_len ha.time; omega⟩ fun x hx => ?_)⟩
          rcases List.mem_append.1 hx with hx | hx
          · exact amsT_good ha.avail g2 x hx
          · unfold usesT at hx
            obtain ⟨u, hu, hx⟩ := List.mem_flatMap.1 hx
            obtain ⟨b1, b2⟩ := ha.use u hu
            have g := List.all_eq_true.1 g3 u hu
            rw [Bool.and_eq_true] at g
            rcases List.mem_cons.1 hx with rfl | hx
            · have := word_gw b1 g.1; exact ⟨this.1, by omega⟩
            · exact amsT_good b2 g.2 x hx
        · rename_i h4
          rw [if_neg h4]
          split at hg
          · rename_i h5
            rw [if_pos h5]
            refine ⟨by simp, c0 ⟨rfl, by decide⟩ fun x hx => ?_⟩
            obtain ⟨w, _, rfl⟩ := List.mem_map.1 hx
            split <;> exact ⟨rfl, by decide⟩
          · rename_i h5
            rw [if_neg h5]
            split at hg
            · rename_i h6
              rw [if_pos h6]
              refine ⟨by simp, c0 ⟨rfl, by decide⟩ (c0 ⟨itoa_gw _, by have := itoa_len ha.steps; omega⟩ fun x hx => ?_)⟩
              obtain ⟨n, hn, rfl⟩ := List.mem_map.1 hx
              exact ⟨itoa_gw _, by have := itoa_len (ha.keep n hn); omega⟩
            · cases hg
end
section
open Go.RowKit

def bl (ws : List (List UInt8)) : List UInt8 := ws.flatMap fun v => 32 :: v
theorem wT_cons (w : List UInt8) (r : List (List UInt8)) : wT (w :: r) = w ++ bl r := rfl
theorem bl_app (a b : List (List UInt8)) : bl (a ++ b) = bl a ++ bl b := by simp [bl]
theorem bl_cons (a : List UInt8) (b : List (List UInt8)) : bl (a :: b) = 32 :: (a ++ bl b) := by simp [bl]
theorem bl_nil : bl [] = [] := rfl
theorem bl_len (ws : List (List UInt8)) (h : ∀ w ∈ ws, w.length ≤ 70) : (bl ws).length ≤ 71 * ws.length := by
  induction ws with
  | nil => simp [bl]
  | cons a r ih =>
    rw [bl_cons]
    have := ih fun w hw => h w (List.mem_cons_of_mem _ hw)
    have := h a (List.mem_cons_self ..)
    simp only [List.length_cons, List.length_append]
    omega
theorem app_lim {a b : List UInt8} (h : a.length + b.length ≤ 1000000000) : appO a b = some (a ++ b) := appO_eq (by unfold lim; omega)
theorem rdig_ok {n : Int} (h : inB n = true) : g_ref26_Digits n = some (Lib.itoa n) := by
  unfold inB at h
  rw [Bool.and_eq_true] at h
  have h1 := of_decide_eq_true h.1
  have h2 := of_decide_eq_true h.2
  unfold g_ref26_Digits
  by_cases h0 : 0 ≤ n
  · obtain ⟨u, rfl⟩ : ∃ u : Nat, n = u := ⟨n.toNat, by omega⟩
    rw [dec_f (by omega), rdigits_ok (by omega), itoa_digs]; rfl
  · obtain ⟨u, rfl⟩ : ∃ u : Nat, n = -(u : Int) := ⟨n.natAbs, by omega⟩
    rw [dec_t (by omega), show (0 : Int) - -(u : Int) = (u : Int) by omega, w64_id (by omega) (by omega), rdigits_ok (by omega)]
    have := digs_len u 19 (by omega) (by omega)
    simp only [cond_true, bO_some]
    rw [app_lim (by simp; omega), Lib.itoa_neg u (by omega), ← digs_dec]; rfl
theorem far_ok (n : Int) : g_ref26_far n = some (!inB n) := by
  unfold g_ref26_far inB
  by_cases h1 : n < -1099511627776
  · rw [dec_t h1, dec_f (show ¬ n ≥ -1099511627776 by omega)]; rfl
  · rw [dec_f h1, dec_t (show n ≥ -1099511627776 by omega)]
    by_cases h2 : n > 1099511627776
    · rw [dec_t h2, dec_f (by omega)]; rfl
    · rw [dec_f h2, dec_t (by omega)]; rfl
theorem rthree_ok {v : V3 Int} (h : V3p I64 v) : ∃ s, g_ref26_three v = some (s, !(v3l v).any fun n => decide (n < 0)) ∧ ((v3l v).any (fun n => decide (n < 0)) = false → s = bl ((v3l v).map prN)) := by
  have pa := prN_len h.a
  have pb := prN_len h.b
  have pc := prN_len h.c
  unfold prN at pa pb pc
  unfold g_ref26_three
  rw [rprint_ok h.a.2, rprint_ok h.b.2, rprint_ok h.c.2]
  simp only [v3l, List.any_cons, List.any_nil, Bool.or_false, List.map_cons, List.map_nil]
  cases h1 : decide (v.a < 0) with
  | true => exact ⟨_, rfl, fun e => by simp at e⟩
  | false =>
    simp only [cond_false, bO_some]
    rw [app_lim (by simp)]
    simp only [bO_some]
    rw [app_lim (by simp; omega)]
    simp only [bO_some]
    cases h2 : decide (v.b < 0) with
    | true => exact ⟨_, rfl, fun e => by simp at e⟩
    | false =>
      simp only [cond_false]
      rw [app_lim (by simp; omega)]
      simp only [bO_some]
      rw [app_lim (by simp; omega)]
      simp only [bO_some]
      cases h3 : decide (v.c < 0) with
      | true => exact ⟨_, rfl, fun e => by simp at e⟩
      | false =>
        simp only [cond_false]
        rw [app_lim (by simp; omega)]
        simp only [bO_some]
        rw [app_lim (by simp; omega)]
        simp only [bO_some]
        exact ⟨_, rfl, fun _ => by simp [bl, prN]⟩
theorem rshown_ok {v : V3 Nat} (h : V3p F64b v) : ∃ s, g_ref26_shown v = some (s, amsB v) ∧ (amsB v = true → s = bl (amsT v)) := by
  have pa := (shT_ok h.a).1
  have pb := (shT_ok h.b).1
  have pc := (shT_ok h.c).1
  unfold g_ref26_shown
  rw [(shV_ok h.a).2, (shV_ok h.b).2, (shV_ok h.c).2]
  simp only [bO_some, amsB, amsT]
  cases h1 : shB v.a with
  | false => exact ⟨_, rfl, fun e => by simp at e⟩
  | true =>
    simp only [Bool.not_true, cond_false]
    rw [app_lim (by simp)]
    simp only [bO_some]
    rw [app_lim (by simp; omega)]
    simp only [bO_some]
    cases h2 : shB v.b with
    | false => exact ⟨_, rfl, fun e => by simp at e⟩
    | true =>
      simp only [Bool.not_true, cond_false]
      rw [app_lim (by simp; omega)]
      simp only [bO_some]
      rw [app_lim (by simp; omega)]
      simp only [bO_some]
      cases h3 : shB v.c with
      | false => exact ⟨_, rfl, fun e => by simp at e⟩
      | true =>
        simp only [Bool.not_true, cond_false]
        rw [app_lim (by simp; omega)]
        simp only [bO_some]
        rw [app_lim (by simp; omega)]
        simp only [bO_some]
        exact ⟨_, rfl, fun _ => by simp [bl]⟩
theorem bl3_len {ws : List (List UInt8)} (h : ∀ w ∈ ws, w.length ≤ 70) (h3 : ws.length ≤ 3) : (bl ws).length ≤ 213 := by have := bl_len ws h; omega
theorem radmit_ok {a : SAct} (ha : ActB a) : ∃ s, g_ref26_admit a.pod = some (s, podG a.pod) ∧ (podG a.pod = true → s = wT (admitW :: podT a.pod)) := by
  obtain ⟨x, x1, x2⟩ := rthree_ok ha.req
  obtain ⟨y, y1, y2⟩ := rthree_ok ha.lim
  unfold g_ref26_admit
  rw [x1, y1, far_ok, (wordB_ok (le_lim ha.pid)).2, (wordB_ok (le_lim ha.image)).2]
  simp only [bO_some, Bool.not_not]
  have hz : lim0 a.pod.lim = true → (v3l a.pod.lim).any (fun n => decide (n < 0)) = false := by
    intro h
    unfold lim0 q3_Int at h
    simp only [Bool.and_true, Bool.and_eq_true, beq_iff_eq] at h
    simp [v3l, h.1, h.2.1, h.2.2]
  have hpg : podG a.pod = (!(((((v3l a.pod.req).any fun n => decide (n < 0)) || ((v3l a.pod.lim).any fun n => decide (n < 0))) || decide (a.pod.size < 0) || !inB a.pod.prio) || !wordB a.pod.id || !wordB a.pod.image)) := by
    unfold podG
    cases hl : lim0 a.pod.lim with
    | true => rw [hz hl]; generalize (v3l a.pod.req).any _ = p; generalize decide (a.pod.size < 0) = q; generalize inB a.pod.prio = r; generalize wordB a.pod.id = s; generalize wordB a.pod.image = t; revert p q r s t; decide
    | false => generalize (v3l a.pod.req).any _ = p; generalize (v3l a.pod.lim).any _ = o; generalize decide (a.pod.size < 0) = q; generalize inB a.pod.prio = r; generalize wordB a.pod.id = s; generalize wordB a.pod.image = t; revert o p q r s t; decide
  cases hg : podG a.pod with
  | false =>
    rw [hg] at hpg
    have hpg := hpg.symm
    simp only [Bool.not_eq_false'] at hpg
    have hd : ∀ b, ∃ c : Bool, (bif b then (some default : Option Bool) else some c) = some c ∨ True := fun b => ⟨true, .inr trivial⟩
    refine ⟨[], ?_, fun e => by cases e⟩
    revert hpg
    generalize (v3l a.pod.req).any _ = p; generalize (v3l a.pod.lim).any _ = o; generalize decide (a.pod.size < 0) = q; generalize inB a.pod.prio = r; generalize wordB a.pod.id = s; generalize wordB a.pod.image = t
    cases p <;> cases o <;> cases q <;> cases r <;> cases s <;> cases t <;> intro hpg <;> first | rfl | cases hpg
  | true =>
    have hg' := hg
    rw [hpg] at hg'
    simp only [Bool.not_eq_true', Bool.or_eq_false_iff, Bool.not_eq_false'] at hg'
    obtain ⟨⟨⟨⟨⟨g1, g2⟩, g3⟩, g4⟩, g5⟩, g6⟩ := hg'
    simp only [g1, g2, g3, g4, g5, g6, Bool.not_true, Bool.or_self, cond_false, bO_some]
    have hx := x2 g1
    have hy := y2 g2
    subst hx hy
    have hid := (word_gw ha.pid g5).2
    have him := (word_gw ha.image g6).2
    have hsz := prN_len ha.size
    have hpr := itoa_len ha.prio
    have hlx : (bl ((v3l a.pod.req).map prN)).length ≤ 213 := bl3_len (fun w hw => by
      obtain ⟨n, hn, rfl⟩ := List.mem_map.1 hw
      simp only [v3l, List.mem_cons, List.mem_nil_iff, or_false] at hn
      rcases hn with rfl | rfl | rfl
      · have := prN_len ha.req.a; omega
      · have := prN_len ha.req.b; omega
      · have := prN_len ha.req.c; omega) (by simp [v3l])
    have hly : (bl ((v3l a.pod.lim).map prN)).length ≤ 213 := bl3_len (fun w hw => by
      obtain ⟨n, hn, rfl⟩ := List.mem_map.1 hw
      simp only [v3l, List.mem_cons, List.mem_nil_iff, or_false] at hn
      rcases hn with rfl | rfl | rfl
      · have := prN_len ha.lim.a; omega
      · have := prN_len ha.lim.b; omega
      · have := prN_len ha.lim.c; omega) (by simp [v3l])
    have fin : ∀ (kd y : List UInt8) (q : Bool), kd.length ≤ 70 → y.length ≤ 213 → g_ref26_admit_k2 a.pod (bl ((v3l a.pod.req).map prN), q) y kd = some (admitW ++ bl [a.pod.id, a.pod.image, prN a.pod.size, Lib.itoa a.pod.prio, kd] ++ bl ((v3l a.pod.req).map prN) ++ y, true) := by
      intro kd y q h1 h2
      unfold g_ref26_admit_k2
      rw [rprint_ok ha.size.2, rdig_ok g4, show printV a.pod.size.toNat = prN a.pod.size from rfl]
      generalize prN a.pod.size = sz at *
      generalize Lib.itoa a.pod.prio = pr at *
      generalize bl ((v3l a.pod.req).map prN) = xx at *
      rw [app_lim (by simp; omega)]
      simp only [bO_some]
      rw [app_lim (by simp; omega)]
      simp only [bO_some]
      rw [app_lim (by simp; omega)]
      simp only [bO_some]
      rw [app_lim (by simp; omega)]
      simp only [bO_some]
      rw [app_lim (by simp; omega)]
      simp only [bO_some]
      rw [app_lim (by simp; omega)]
      simp only [bO_some]
      rw [app_lim (by simp; omega)]
      simp only [bO_some]
      rw [app_lim (by simp; omega)]
      simp only [bO_some]
      rw [app_lim (by simp; omega)]
      simp only [bO_some]
      rw [app_lim (by simp; omega)]
      simp only [bO_some]
      rw [app_lim (by simp; omega)]
      simp [bl, admitW]
    have fin2 : ∀ (y : List UInt8) (q : Bool), y.length ≤ 213 → g_ref26_admit_k1 a.pod (bl ((v3l a.pod.req).map prN), q) y = some (admitW ++ bl [a.pod.id, a.pod.image, prN a.pod.size, Lib.itoa a.pod.prio, if a.pod.critical then critW else plainW] ++ bl ((v3l a.pod.req).map prN) ++ y, true) := by
      intro y q h
      unfold g_ref26_admit_k1
      cases a.pod.critical with
      | true => exact fin critW y q (by decide) h
      | false => exact fin plainW y q (by decide) h
    rw [show q3_Int a.pod.lim ⟨0, 0, 0⟩ = lim0 a.pod.lim from rfl]
    unfold podT
    rw [wT_cons, bl_app, bl_app]
    cases hl : lim0 a.pod.lim with
    | true =>
      simp only [cond_true]
      rw [fin2 [] _ (by simp)]
      exact ⟨_, rfl, fun _ => by simp [bl_nil]⟩
    | false =>
      simp only [cond_false]
      rw [fin2 _ _ hly]
      exact ⟨_, rfl, fun _ => by simp⟩
/-! A sample's line. -/
theorem ams_len {v : V3 Nat} (h : V3p F64b v) : (bl (amsT v)).length ≤ 213 := bl3_len (fun w hw => by
  simp only [amsT, List.mem_cons, List.mem_nil_iff, or_false] at hw
  rcases hw with rfl | rfl | rfl
  · have := (shT_ok h.a).1; omega
  · have := (shT_ok h.b).1; omega
  · have := (shT_ok h.c).1; omega) (by simp [amsT])
theorem rsample_loop (a : SAct) (ha : ActB a) : ∀ (m : Nat) (r pre : List SUsage) (s : List UInt8), a.raw.use = pre ++ r → r.length < m → s.length + 300 * r.length ≤ 900000000 →
    ∃ z, g_ref26_sample_l2 a.raw g_ref26_sample_k1 m s (pre.length : Int) = some (z, usesG r) ∧ (usesG r = true → z = s ++ bl (usesT r))
  | 0, _, _, _, _, h, _ => by omega
  | m + 1, [], pre, s, he, _, _ => by
    rw [g_ref26_sample_l2, he, List.append_nil, dec_f (by omega)]
    exact ⟨s, rfl, fun _ => by simp [usesT, bl]⟩
  | m + 1, u :: r, pre, s, he, hm, hl => by
    have hlen : a.raw.use.length = pre.length + (r.length + 1) := by rw [he]; simp
    have hB := ha.uses
    unfold BB at hB
    simp only [List.length_cons] at hl hm
    obtain ⟨u1, u2⟩ := ha.use u (by rw [he]; simp)
    obtain ⟨y, y1, y2⟩ := rshown_ok u2
    have hg : a.raw.use[pre.length]? = some u := by rw [he]; exact app_get pre u _
    rw [g_ref26_sample_l2, dec_t (by omega), idx_nat hg]
    simp only [cond_true, bO_some]
    rw [y1]
    simp only [bO_some]
    have hug : usesG (u :: r) = (wordB u.id && amsB u.amount && usesG r) := rfl
    rw [hug]
    cases hb : amsB u.amount with
    | false => exact ⟨[], by simp, fun e => by simp at e⟩
    | true =>
      simp only [Bool.not_true, cond_false, bO_some, (wordB_ok (le_lim u1)).2, Bool.false_or]
      cases hw : wordB u.id with
      | false => exact ⟨[], by simp, fun e => by simp at e⟩
      | true =>
        have hid := (word_gw u1 hw).2
        have hal := ams_len u2
        have hy := y2 hb
        subst hy
        simp only [Bool.not_true, cond_false]
        rw [app_lim (by simp; omega)]
        simp only [bO_some]
        rw [app_lim (by simp; omega)]
        simp only [bO_some]
        rw [app_lim (by simp; omega)]
        simp only [bO_some]
        rw [w64_succ (by omega)]
        obtain ⟨z, z1, z2⟩ := rsample_loop a ha m r (pre ++ [u]) (s ++ [32] ++ u.id ++ bl (amsT u.amount)) (by rw [he]; simp) (by omega) (by simp; omega)
        rw [List.length_append, List.length_singleton] at z1
        refine ⟨z, by rw [z1]; rfl, fun e => ?_⟩
        rw [z2 (by simpa using e)]
        simp [usesT, bl]
theorem rsample_ok {a : SAct} (ha : ActB a) : ∃ s, g_ref26_sample a.raw = some (s, inB a.raw.time && amsB a.raw.avail && usesG a.raw.use) ∧ ((inB a.raw.time && amsB a.raw.avail && usesG a.raw.use) = true → s = wT (sampleW :: Lib.itoa a.raw.time :: amsT a.raw.avail ++ usesT a.raw.use)) := by
  obtain ⟨y, y1, y2⟩ := rshown_ok ha.avail
  have hB := ha.uses
  unfold BB at hB
  unfold g_ref26_sample
  rw [y1, far_ok]
  simp only [bO_some]
  cases hb : amsB a.raw.avail with
  | false => exact ⟨[], by simp, fun e => by simp at e⟩
  | true =>
    simp only [Bool.not_true, cond_false, bO_some, Bool.false_or]
    cases ht : inB a.raw.time with
    | false => exact ⟨[], by simp, fun e => by simp at e⟩
    | true =>
      simp only [Bool.not_true, cond_false]
      rw [rdig_ok ht]
      have hil := itoa_len ha.time
      have hal := ams_len ha.avail
      have hy := y2 hb
      subst hy
      simp only [bO_some]
      rw [app_lim (by simp; omega)]
      simp only [bO_some]
      rw [app_lim (by simp; omega)]
      simp only [bO_some]
      obtain ⟨z, z1, z2⟩ := rsample_loop a ha FUEL a.raw.use [] ([115, 97, 109, 112, 108, 101, 32] ++ Lib.itoa a.raw.time ++ bl (amsT a.raw.avail)) rfl (by unfold FUEL; omega) (by simp; omega)
      have z1 : g_ref26_sample_l2 a.raw g_ref26_sample_k1 FUEL _ 0 = _ := z1
      refine ⟨z, by rw [z1]; rfl, fun e => ?_⟩
      rw [z2 (by simpa using e)]
      simp [wT, sampleW, bl]
theorem rcrash_loop (a : SAct) (ha : ActB a) : ∀ (m : Nat) (r pre : List Int) (s : List UInt8), a.keep = pre ++ r → r.length < m → s.length + 300 * r.length ≤ 900000000 →
    ∃ z, g_ref26_One_l3 a g_ref26_One_k2 m s (pre.length : Int) = some (z, r.all inB) ∧ (r.all inB = true → z = s ++ bl (r.map Lib.itoa))
  | 0, _, _, _, _, h, _ => by omega
  | m + 1, [], pre, s, he, _, _ => by
    rw [g_ref26_One_l3, he, List.append_nil, dec_f (by omega)]
    exact ⟨s, rfl, fun _ => by simp [bl]⟩
  | m + 1, n :: r, pre, s, he, hm, hl => by
    have hlen : a.keep.length = pre.length + (r.length + 1) := by rw [he]; simp
    have hB := ha.keeps
    unfold BB at hB
    simp only [List.length_cons] at hl hm
    have hg : a.keep[pre.length]? = some n := by rw [he]; exact app_get pre n _
    rw [g_ref26_One_l3, dec_t (by omega), idx_nat hg]
    simp only [cond_true, bO_some]
    rw [far_ok]
    simp only [bO_some, List.all_cons]
    cases hn : inB n with
    | false => exact ⟨[], by simp, fun e => by simp at e⟩
    | true =>
      have hil := itoa_len (ha.keep n (by rw [he]; simp))
      simp only [Bool.not_true, cond_false]
      rw [app_lim (by simp; omega), rdig_ok hn]
      simp only [bO_some]
      rw [app_lim (by simp; omega)]
      simp only [bO_some]
      rw [w64_succ (by omega)]
      obtain ⟨z, z1, z2⟩ := rcrash_loop a ha m r (pre ++ [n]) (s ++ [32] ++ Lib.itoa n) (by rw [he]; simp) (by omega) (by simp; omega)
      rw [List.length_append, List.length_singleton] at z1
      refine ⟨z, by rw [z1]; rfl, fun e => ?_⟩
      rw [z2 (by simpa using e)]
      simp [bl]
theorem rfeed_loop (a : SAct) (ha : ActB a) : ∀ (m : Nat) (r pre : List Bool) (s : List UInt8), a.well = pre ++ r → r.length < m → s.length + 300 * r.length ≤ 900000000 →
    g_ref26_One_l5 a g_ref26_One_k4 m s (pre.length : Int) = some (s ++ bl (r.map fun w => if w then okW else badW), true)
  | 0, _, _, _, _, h, _ => by omega
  | m + 1, [], pre, s, he, _, _ => by
    rw [g_ref26_One_l5, he, List.append_nil, dec_f (by omega)]
    simp [bl, g_ref26_One_k4]
  | m + 1, n :: r, pre, s, he, hm, hl => by
    have hlen : a.well.length = pre.length + (r.length + 1) := by rw [he]; simp
    have hB := ha.wells
    unfold BB at hB
    simp only [List.length_cons] at hl hm
    have hg : a.well[pre.length]? = some n := by rw [he]; exact app_get pre n _
    rw [g_ref26_One_l5, dec_t (by omega), idx_nat hg]
    simp only [cond_true, bO_some]
    have ih := fun s (hs : s.length + 300 * r.length ≤ 900000000) => rfeed_loop a ha m r (pre ++ [n]) s (by rw [he]; simp) (by omega) hs
    rw [List.length_append, List.length_singleton] at ih
    cases n with
    | true =>
      simp only [cond_true]
      rw [app_lim (by simp; omega)]
      simp only [bO_some]
      unfold g_ref26_One_k6
      rw [w64_succ (by omega), ih _ (by simp; omega)]
      simp [bl, okW]
    | false =>
      simp only [cond_false]
      rw [app_lim (by simp; omega)]
      simp only [bO_some]
      unfold g_ref26_One_k6
      rw [w64_succ (by omega), ih _ (by simp; omega)]
      simp [bl, badW]
theorem one_ok {a : SAct} (ha : ActB a) : ∃ s, g_ref26_One a = some (s, actG a) ∧ (actG a = true → s = wT (actT a)) := by
  have u2 := ha.wells
  have u3 := ha.keeps
  unfold BB at u2 u3
  unfold g_ref26_One
  rw [bare_ok ha.avail]
  simp only [bO_some]
  unfold actG
  cases hr : restV a with
  | false => exact ⟨[], by simp, fun e => by simp at e⟩
  | true =>
    simp only [Bool.not_true, cond_false, Bool.true_and]
    unfold actT
    by_cases h1 : a.do_ = 1
    · rw [show (a.do_ == 1) = true from beq_iff_eq.2 h1, if_pos h1, if_pos h1]
      obtain ⟨s, s1, s2⟩ := radmit_ok ha
      simp only [cond_true]
      rw [s1]
      exact ⟨s, rfl, s2⟩
    · rw [show (a.do_ == 1) = false from beq_eq_false_iff_ne.2 h1, if_neg h1, if_neg h1]
      simp only [cond_false]
      by_cases h2 : a.do_ = 2
      · rw [show (a.do_ == 2) = true from beq_iff_eq.2 h2, if_pos h2, if_pos h2]
        have hid := ha.id
        unfold BB at hid
        simp only [cond_true]
        rw [app_lim (by simp; omega), (wordB_ok (le_lim ha.id)).2]
        exact ⟨_, rfl, fun _ => by simp [wT, deleteW]⟩
      · rw [show (a.do_ == 2) = false from beq_eq_false_iff_ne.2 h2, if_neg h2, if_neg h2]
        simp only [cond_false]
        by_cases h3 : a.do_ = 3
        · rw [show (a.do_ == 3) = true from beq_iff_eq.2 h3, if_pos h3, if_pos h3]
          exact ⟨_, rfl, fun _ => rfl⟩
        · rw [show (a.do_ == 3) = false from beq_eq_false_iff_ne.2 h3, if_neg h3, if_neg h3]
          simp only [cond_false]
          by_cases h4 : a.do_ = 4
          · rw [show (a.do_ == 4) = true from beq_iff_eq.2 h4, if_pos h4, if_pos h4]
            obtain ⟨s, s1, s2⟩ := rsample_ok ha
            simp only [cond_true]
            rw [s1]
            exact ⟨s, rfl, s2⟩
          · rw [show (a.do_ == 4) = false from beq_eq_false_iff_ne.2 h4, if_neg h4, if_neg h4]
            simp only [cond_false]
            by_cases h5 : a.do_ = 5
            · rw [show (a.do_ == 5) = true from beq_iff_eq.2 h5, if_pos h5, if_pos h5]
              simp only [cond_true]
              have h := rfeed_loop a ha FUEL a.well [] [102, 101, 101, 100] rfl (by unfold FUEL; omega) (by simp; omega)
              have h : g_ref26_One_l5 a g_ref26_One_k4 FUEL [102, 101, 101, 100] 0 = _ := h
              rw [h]
              exact ⟨_, rfl, fun _ => rfl⟩
            · rw [show (a.do_ == 5) = false from beq_eq_false_iff_ne.2 h5, if_neg h5, if_neg h5]
              simp only [cond_false]
              unfold g_ref26_One_k1
              by_cases h6 : a.do_ = 6
              · rw [show (a.do_ != 6) = false by rw [h6]; rfl, if_pos h6, if_pos h6, far_ok]
                simp only [cond_false, bO_some, Bool.false_or]
                cases hn : inB a.steps with
                | false => exact ⟨[], by simp, fun e => by simp at e⟩
                | true =>
                  have hil := itoa_len ha.steps
                  simp only [Bool.not_true, cond_false]
                  rw [rdig_ok hn]
                  simp only [bO_some]
                  rw [app_lim (by simp; omega)]
                  simp only [bO_some]
                  obtain ⟨z, z1, z2⟩ := rcrash_loop a ha FUEL a.keep [] ([99, 114, 97, 115, 104, 32] ++ Lib.itoa a.steps) rfl (by unfold FUEL; omega) (by simp; omega)
                  have z1 : g_ref26_One_l3 a g_ref26_One_k2 FUEL _ 0 = _ := z1
                  refine ⟨z, by rw [z1]; rfl, fun e => ?_⟩
                  rw [z2 (by simpa using e)]
                  simp [wT, crashW, bl]
              · rw [show (a.do_ != 6) = true from bne_iff_ne.2 h6, if_neg h6]
                exact ⟨[], rfl, fun e => by cases e⟩
/-! Texts. -/
theorem actT_len {a : SAct} (ha : ActB a) (hg : actG a = true) : (wT (actT a)).length + 1 ≤ 20000000 := by
  obtain ⟨hne, hw⟩ := actT_good ha hg
  have hl : (actT a).length ≤ 280020 := by
    have u1 := ha.uses
    have u2 := ha.wells
    have u3 := ha.keeps
    unfold BB at u1 u2 u3
    have hp := podT_len a.pod
    have hu : ∀ l : List SUsage, (usesT l).length = 4 * l.length := by
      intro l
      induction l with
      | nil => rfl
      | cons x r ih => unfold usesT at *; rw [List.flatMap_cons, List.length_append, ih]; simp [amsT]; omega
    unfold actT
    split
    · simp; omega
    · split
      · simp
      · split
        · simp
        · split
          · simp [amsT, hu]; omega
          · split
            · simp; omega
            · split
              · simp; omega
              · simp
  cases h : actT a with
  | nil => exact absurd h hne
  | cons w r =>
    rw [h] at hl hw
    rw [wT_cons]
    have h1 := (hw w (List.mem_cons_self ..)).2
    have h2 := bl_len r fun x hx => (hw x (List.mem_cons_of_mem _ hx)).2
    simp only [List.length_cons, List.length_append] at *
    omega
def allG (l : List SAct) : Bool := l.all actG
theorem rprint_loop2 (L : List SAct) (hL : ∀ a ∈ L, ActB a) (h3 : L.length ≤ 3300) : ∀ (m : Nat) (r pre : List SAct) (s : List UInt8), L = pre ++ r → r.length < m → s.length ≤ 20000000 * pre.length →
    g_ref26_Print_l2 L g_ref26_Print_k1 m s (pre.length : Int) = some (if allG r then s ++ jT (r.map actT) else [], allG r)
  | 0, _, _, _, _, h, _ => by omega
  | m + 1, [], pre, s, he, _, _ => by
    rw [g_ref26_Print_l2, he, List.append_nil, dec_f (by omega)]
    simp [allG, jT, g_ref26_Print_k1]
  | m + 1, a :: r, pre, s, he, hm, hl => by
    have hlen : L.length = pre.length + (r.length + 1) := by rw [he]; simp
    have ha := hL a (by rw [he]; simp)
    simp only [List.length_cons] at hm
    have hg : L[pre.length]? = some a := by rw [he]; exact app_get pre a _
    rw [g_ref26_Print_l2, dec_t (by omega), idx_nat hg]
    simp only [cond_true, bO_some]
    obtain ⟨z, z1, z2⟩ := one_ok ha
    rw [z1]
    simp only [bO_some]
    have hag : allG (a :: r) = (actG a && allG r) := rfl
    rw [hag]
    cases hb : actG a with
    | false => simp
    | true =>
      have hz := z2 hb
      subst hz
      have hlen2 := actT_len ha hb
      have hlim : s.length + (wT (actT a)).length + 1 ≤ lim := by
        unfold lim
        have : 20000000 * pre.length + 20000000 ≤ 20000000 * 3300 := by omega
        omega
      simp only [Bool.not_true, cond_false]
      rw [appO_eq (by omega)]
      simp only [bO_some]
      rw [appO_eq (by simp only [List.length_append, List.length_singleton]; exact hlim)]
      simp only [bO_some]
      rw [w64_succ (by omega)]
      have ih := rprint_loop2 L hL h3 m r (pre ++ [a]) (s ++ wT (actT a) ++ [10]) (by rw [he]; simp) (by omega) (by simp; omega)
      rw [List.length_append, List.length_singleton] at ih
      rw [ih]
      simp [jT]
theorem rprintall_ok {L : List SAct} (hL : ∀ a ∈ L, ActB a) (h3 : L.length ≤ 3300) : g_ref26_Print L = some (if allG L then jT (L.map actT) else [], allG L) :=
  rprint_loop2 L hL h3 FUEL L [] [] rfl (by unfold FUEL; omega) (by simp)
/-! The program's text. -/
theorem wr_ok {l t : List UInt8} (h1 : l ++ t ≠ []) (h2 : l.length + t.length ≤ lim) : wrO l t = some (l ++ t) := by
  unfold wrO
  rw [if_neg h1, appO_eq h2]
theorem join_words (v : List SField) (hv : v.length ≤ BB) (hne : ∀ f ∈ v, f.text ≠ []) (k : Bool → List UInt8 → Option (List UInt8)) (hk : ∀ s, s ≠ [] → ∀ b, k b s = k true s) : ∀ (m : Nat) (r pre : List SField) (s : List UInt8) (b : Bool), v = pre ++ r → r.length < m → 1 ≤ pre.length → s ≠ [] → s.length + (bl (txs r)).length ≤ lim →
    g_lex_Join_l5 v k m b s (pre.length : Int) = k true (s ++ bl (txs r))
  | 0, _, _, _, _, _, h, _, _, _ => by omega
  | m + 1, [], pre, s, b, he, _, _, hs, _ => by
    rw [g_lex_Join_l5, he, List.append_nil, dec_f (by omega)]
    simp only [cond_false, txs, List.map_nil, bl_nil, List.append_nil]
    exact hk s hs b
  | m + 1, f :: r, pre, s, b, he, hm, hp, hs, hl => by
    have hlen : v.length = pre.length + (r.length + 1) := by rw [he]; simp
    unfold BB at hv
    have ht : txs (f :: r) = f.text :: txs r := rfl
    rw [ht, bl_cons] at hl ⊢
    simp only [List.length_cons, List.length_append] at hl hm
    rw [g_lex_Join_l5, dec_t (by omega), idx_nat (show v[pre.length]? = some f by rw [he]; exact app_get pre f _)]
    simp only [cond_true, bO_some]
    rw [dec_t (by omega), wr_ok (by simp) (by simp; omega)]
    simp only [cond_true, bO_some]
    unfold g_lex_Join_k6
    rw [wr_ok (by simp) (by simp; omega)]
    simp only [bO_some]
    rw [w64_succ (by omega)]
    have ih := join_words v (by unfold BB; exact hv) hne k hk m r (pre ++ [f]) (s ++ [32] ++ f.text) true (by rw [he]; simp) (by omega) (by simp) (by simp [hs]) (by simp; omega)
    rw [List.length_append, List.length_singleton] at ih
    rw [ih]
    simp
theorem join_lines (x : List (List SField)) (hx : ∀ fs ∈ x, fs ≠ [] ∧ fs.length ≤ BB ∧ ∀ f ∈ fs, f.text ≠ []) (h3 : x.length ≤ lim) : ∀ (m : Nat) (r pre : List (List SField)) (s : List UInt8) (b : Bool), x = pre ++ r → r.length < m → s.length + (jT (r.map txs)).length ≤ lim → (1 ≤ pre.length → s ≠ []) →
    g_lex_Join_l2 x g_lex_Join_k1 m b s (pre.length : Int) = some (s ++ jT (r.map txs))
  | 0, _, _, _, _, _, h, _, _ => by omega
  | m + 1, [], pre, s, b, he, _, hl, _ => by
    rw [g_lex_Join_l2, he, List.append_nil, dec_f (by omega)]
    simp only [cond_false, g_lex_Join_k1]
    rw [show bytesO s = some s from if_pos (by omega)]
    simp [jT]
  | m + 1, fs :: r, pre, s, b, he, hm, hl, hs => by
    have hlen : x.length = pre.length + (r.length + 1) := by rw [he]; simp
    unfold lim at h3
    obtain ⟨h1, h2, h4⟩ := hx fs (by rw [he]; simp)
    simp only [List.length_cons] at hm
    rw [g_lex_Join_l2, dec_t (by omega), idx_nat (show x[pre.length]? = some fs by rw [he]; exact app_get pre fs _)]
    simp only [cond_true, bO_some]
    cases fs with
    | nil => exact absurd rfl h1
    | cons f q =>
      have hj : jT (((f :: q) :: r).map txs) = f.text ++ bl (txs q) ++ [10] ++ jT (r.map txs) := by simp [jT, txs, wT, bl]
      rw [hj] at hl ⊢
      simp only [List.length_append, List.length_singleton] at hl
      have hf := h4 f (List.mem_cons_self ..)
      rw [FUEL2, g_lex_Join_l5, dec_t (by simp), show idx (f :: q) 0 = some f from rfl]
      simp only [cond_true, bO_some]
      rw [dec_f (by omega)]
      simp only [cond_false]
      unfold g_lex_Join_k6
      rw [wr_ok (by simp [hf]) (by omega)]
      simp only [bO_some]
      have hB := h2
      unfold BB at hB
      simp only [List.length_cons] at hB
      have hw := join_words (f :: q) h2 h4 (g_lex_Join_k4 (pre.length : Int) (g_lex_Join_l2 x g_lex_Join_k1 m)) (fun s hs b => rfl) (18446744073709551614 + 1) q [f] (s ++ f.text) true rfl (by omega) (by simp) (by simp [hf]) (by simp; omega)
      have hw : g_lex_Join_l5 (f :: q) (g_lex_Join_k4 (pre.length : Int) (g_lex_Join_l2 x g_lex_Join_k1 m)) (18446744073709551614 + 1) true (s ++ f.text) (w64 (0 + 1)) = _ := hw
      rw [hw]
      unfold g_lex_Join_k4
      rw [wr_ok (by simp) (by simp; omega)]
      simp only [bO_some]
      unfold g_lex_Join_k3
      rw [w64_succ (by omega)]
      have ih := join_lines x hx (by unfold lim; exact h3) m r (pre ++ [f :: q]) (s ++ f.text ++ bl (txs q) ++ [10]) true (by rw [he]; simp) (by omega) (by simp; omega) (fun _ => by simp)
      rw [List.length_append, List.length_singleton] at ih
      rw [ih]
      simp
theorem join_ok2 {x : List (List SField)} (hx : ∀ fs ∈ x, fs ≠ [] ∧ fs.length ≤ BB ∧ ∀ f ∈ fs, f.text ≠ []) (hl : (jT (x.map txs)).length ≤ lim) (h3 : x.length ≤ lim) : g_lex_Join x = some (jT (x.map txs)) :=
  join_lines x hx h3 FUEL x [] [] false rfl (fuel_lt h3) (by simpa using hl) (by simp)
end
section
open Go.RowKit

/-- An act as a machine holds it. -/
structure ActW (a : SAct) : Prop where
  prio : I64 a.pod.prio
  size : I64 a.pod.size
  req : V3p I64 a.pod.req
  lim : V3p I64 a.pod.lim
  time : I64 a.raw.time
  avail : V3p F64b a.raw.avail
  use : ∀ u ∈ a.raw.use, V3p F64b u.amount
  steps : I64 a.steps
  keep : ∀ n ∈ a.keep, I64 n
structure FewA (a : SAct) : Prop where
  pid : a.pod.id.length ≤ 60
  image : a.pod.image.length ≤ 60
  id : a.id.length ≤ 60
  use : ∀ u ∈ a.raw.use, u.id.length ≤ 60
  uses : a.raw.use.length ≤ 140
  wells : a.well.length ≤ 60
  keeps : a.keep.length ≤ 60
theorem ActW.toB {a : SAct} (h : ActW a) (f : FewA a) : ActB a :=
  ⟨h.prio, h.size, h.req, h.lim, by have := f.pid; unfold BB; omega, by have := f.image; unfold BB; omega, by have := f.id; unfold BB; omega, h.time, h.avail,
    fun u hu => ⟨by have := f.use u hu; unfold BB; omega, h.use u hu⟩, h.steps, h.keep, by have := f.uses; unfold BB; omega, by have := f.wells; unfold BB; omega, by have := f.keeps; unfold BB; omega⟩
theorem few17_loop (r : SRaw) : ∀ (d i m : Nat), i + d = 200 → d < m → ∃ b, g_ref17_Few_l2 r (g_ref17_Few_k1 r) m (i : Int) = some b ∧ (b = true → r.use.length ≤ 140 ∧ ∀ (j : Nat) (u : SUsage), i ≤ j → r.use[j]? = some u → u.id.length ≤ 60)
  | _, _, 0, _, h => by omega
  | d, i, m + 1, hi, hm => by
    rw [g_ref17_Few_l2]
    by_cases h : i < r.use.length ∧ i < 200
    · rw [dec_t (by omega), dec_t (by omega), idx_nat (show r.use[i]? = some r.use[i] by simp [h.1])]
      simp only [Bool.and_self, cond_true, bO_some]
      by_cases h60 : r.use[i].id.length ≤ 60
      · rw [dec_f (by omega), cond_false, w64_succ (by omega)]
        obtain ⟨b, b1, b2⟩ := few17_loop r (d - 1) (i + 1) m (by omega) (by omega)
        refine ⟨b, b1, fun e => ⟨(b2 e).1, fun j u hj hu => ?_⟩⟩
        by_cases hji : j = i
        · subst hji
          rw [List.getElem?_eq_getElem h.1] at hu
          cases hu; exact h60
        · exact (b2 e).2 j u (by omega) hu
      · rw [dec_t (show (r.use[i].id.length : Int) > 60 by omega)]
        exact ⟨false, rfl, fun e => by cases e⟩
    · have hc : (decide ((i : Int) < (r.use.length : Int)) && decide ((i : Int) < 200)) = false := by
        by_cases h1 : i < r.use.length
        · rw [dec_f (show ¬ (i : Int) < 200 by omega), Bool.and_false]
        · rw [dec_f (show ¬ (i : Int) < (r.use.length : Int) by omega), Bool.false_and]
      rw [hc]
      refine ⟨_, rfl, fun e => ?_⟩
      have e1 := of_decide_eq_true e
      refine ⟨by omega, fun j u hj hu => ?_⟩
      have : j < r.use.length := by
        rcases Nat.lt_or_ge j r.use.length with h1 | h1
        · exact h1
        · rw [List.getElem?_eq_none h1] at hu; cases hu
      omega
theorem few17_ok (r : SRaw) : ∃ b, g_ref17_Few r = some b ∧ (b = true → r.use.length ≤ 140 ∧ ∀ u ∈ r.use, u.id.length ≤ 60) := by
  obtain ⟨b, b1, b2⟩ := few17_loop r 200 0 FUEL (by omega) (by unfold FUEL; omega)
  refine ⟨b, b1, fun e => ⟨(b2 e).1, fun u hu => ?_⟩⟩
  obtain ⟨j, hj⟩ := List.getElem?_of_mem hu
  exact (b2 e).2 j u (by omega) hj
theorem few25_loop (l : List SAct) : ∀ (d i m : Nat), i + d = 100 → d < m → ∃ b, g_ref25_Few_l2 l (g_ref25_Few_k1 l) m (i : Int) = some b ∧ (b = true → l.length ≤ 60 ∧ ∀ (j : Nat) (a : SAct), i ≤ j → l[j]? = some a → FewA a)
  | _, _, 0, _, h => by omega
  | d, i, m + 1, hi, hm => by
    rw [g_ref25_Few_l2]
    by_cases h : i < l.length ∧ i < 100
    · rw [dec_t (by omega), dec_t (by omega), idx_nat (show l[i]? = some l[i] by simp [h.1])]
      simp only [Bool.and_self, cond_true, bO_some]
      obtain ⟨c, c1, c2⟩ := few17_ok l[i].raw
      rw [c1]
      cases hb : ((decide ((l[i].pod.id.length : Int) > 60) || decide ((l[i].pod.image.length : Int) > 60)) || decide ((l[i].id.length : Int) > 60)) with
      | true => exact ⟨false, rfl, fun e => by cases e⟩
      | false =>
        simp only [cond_false, bO_some, Bool.false_or]
        rw [Bool.or_eq_false_iff, Bool.or_eq_false_iff] at hb
        have p1 := of_decide_eq_false hb.1.1
        have p2 := of_decide_eq_false hb.1.2
        have p3 := of_decide_eq_false hb.2
        cases c with
        | false => exact ⟨false, rfl, fun e => by cases e⟩
        | true =>
          obtain ⟨q1, q2⟩ := c2 rfl
          simp only [Bool.not_true, Bool.false_or]
          by_cases hw : l[i].well.length ≤ 60
          · by_cases hk : l[i].keep.length ≤ 60
            · rw [dec_f (show ¬ (l[i].well.length : Int) > 60 by omega), dec_f (show ¬ (l[i].keep.length : Int) > 60 by omega)]
              simp only [Bool.or_self, cond_false]
              rw [w64_succ (by omega)]
              obtain ⟨b, b1, b2⟩ := few25_loop l (d - 1) (i + 1) m (by omega) (by omega)
              refine ⟨b, b1, fun e => ⟨(b2 e).1, fun j u hj hu => ?_⟩⟩
              by_cases hji : j = i
              · subst hji
                rw [List.getElem?_eq_getElem h.1] at hu
                cases hu
                exact ⟨by omega, by omega, by omega, q2, q1, hw, hk⟩
              · exact (b2 e).2 j u (by omega) hu
            · rw [dec_t (show (l[i].keep.length : Int) > 60 by omega), Bool.or_true]
              exact ⟨false, rfl, fun e => by cases e⟩
          · rw [dec_t (show (l[i].well.length : Int) > 60 by omega)]
            exact ⟨false, rfl, fun e => by cases e⟩
    · have hc : (decide ((i : Int) < (l.length : Int)) && decide ((i : Int) < 100)) = false := by
        by_cases h1 : i < l.length
        · rw [dec_f (show ¬ (i : Int) < 100 by omega), Bool.and_false]
        · rw [dec_f (show ¬ (i : Int) < (l.length : Int) by omega), Bool.false_and]
      rw [hc]
      refine ⟨_, rfl, fun e => ?_⟩
      have e1 := of_decide_eq_true e
      refine ⟨by omega, fun j u hj hu => ?_⟩
      have : j < l.length := by
        rcases Nat.lt_or_ge j l.length with h1 | h1
        · exact h1
        · rw [List.getElem?_eq_none h1] at hu; cases hu
      omega
theorem few_ok (l : List SAct) : ∃ b, g_ref25_Few l = some b ∧ (b = true → l.length ≤ 60 ∧ ∀ a ∈ l, FewA a) := by
  obtain ⟨b, b1, b2⟩ := few25_loop l 100 0 FUEL (by omega) (by unfold FUEL; omega)
  refine ⟨b, b1, fun e => ⟨(b2 e).1, fun u hu => ?_⟩⟩
  obtain ⟨j, hj⟩ := List.getElem?_of_mem hu
  exact (b2 e).2 j u (by omega) hj
/-! The program's text. -/
/-- Acts that may be printed. -/
structure Prt (l : List SAct) : Prop where
  b : ∀ a ∈ l, ActB a
  n : l.length ≤ 3300
  w : ∀ a ∈ l, (actT a).length ≤ BB
theorem usesT_len (l : List SUsage) : (usesT l).length = 4 * l.length := by
  induction l with
  | nil => rfl
  | cons x r ih => unfold usesT at *; rw [List.flatMap_cons, List.length_append, ih]; simp [amsT]; omega
theorem actT_short {a : SAct} (h1 : a.raw.use.length ≤ 10000) (h2 : a.well.length ≤ 10000) (h3 : a.keep.length ≤ 10000) : (actT a).length ≤ BB := by
  have hp := podT_len a.pod
  unfold BB actT
  split
  · simp; omega
  · split
    · simp
    · split
      · simp
      · split
        · simp [amsT, usesT_len]; omega
        · split
          · simp; omega
          · split
            · simp; omega
            · simp
theorem prt_few {l : List SAct} (hw : ∀ a ∈ l, ActW a) (h : l.length ≤ 60 ∧ ∀ a ∈ l, FewA a) : Prt l :=
  ⟨fun a ha => (hw a ha).toB (h.2 a ha), by have := h.1; omega, fun a ha => by
    have f := h.2 a ha
    exact actT_short (by have := f.uses; omega) (by have := f.wells; omega) (by have := f.keeps; omega)⟩
theorem txs_mkF (ws : List (List UInt8)) : txs (ws.map mkF) = ws := by simp [txs, mkF, Function.comp_def]
theorem jT_lim {l : List SAct} (h : Prt l) (hg : allG l = true) : (jT (l.map actT)).length ≤ lim := by
  have key : ∀ r : List SAct, (∀ a ∈ r, ActB a) → allG r = true → (jT (r.map actT)).length ≤ 20000000 * r.length := by
    intro r
    induction r with
    | nil => intro _ _; simp [jT]
    | cons a r ih =>
      intro hb hg
      have hag : allG (a :: r) = (actG a && allG r) := rfl
      rw [hag, Bool.and_eq_true] at hg
      have := ih (fun x hx => hb x (List.mem_cons_of_mem _ hx)) hg.2
      have := actT_len (hb a (List.mem_cons_self ..)) hg.1
      rw [List.map_cons, show jT (actT a :: r.map actT) = wT (actT a) ++ [10] ++ jT (r.map actT) by simp [jT]]
      simp only [List.length_append, List.length_cons, List.length_nil] at *
      omega
  have := key l h.b hg
  have := h.n
  unfold lim; omega
theorem sprint_loop (L : List SAct) (h : Prt L) : ∀ (m : Nat) (r pre : List SAct), L = pre ++ r → r.length < m → allG pre = true →
    g_script_Print_l2 L g_script_Print_k1 m (pre.length : Int) (pre.map fun a => (actT a).map mkF) = some (if allG r then (jT (L.map actT), 0) else ([], 1))
  | 0, _, _, _, h, _ => by omega
  | m + 1, [], pre, he, _, hp => by
    rw [g_script_Print_l2, he, List.append_nil, dec_f (by omega)]
    simp only [cond_false, g_script_Print_k1]
    have hpl : pre = L := by rw [he, List.append_nil]
    subst hpl
    have e : (pre.map fun a => (actT a).map mkF).map txs = pre.map actT := by
      rw [List.map_map]
      exact List.map_congr_left fun a _ => txs_mkF _
    rw [join_ok2 (x := pre.map fun a => (actT a).map mkF) (fun fs hfs => by
      obtain ⟨a, ha, rfl⟩ := List.mem_map.1 hfs
      obtain ⟨g1, g2⟩ := actT_good (h.b a ha) (List.all_eq_true.1 hp a ha)
      refine ⟨fun e => g1 (List.map_eq_nil_iff.1 e), by rw [List.length_map]; exact h.w a ha, fun f hf => ?_⟩
      obtain ⟨w, hw, rfl⟩ := List.mem_map.1 hf
      exact (gw_good (g2 w hw).1).1.1) (by rw [e]; exact jT_lim h hp) (by have := h.n; rw [List.length_map]; unfold lim; omega), e]
    rfl
  | m + 1, a :: r, pre, he, hm, hp => by
    have hlen : L.length = pre.length + (r.length + 1) := by rw [he]; simp
    have hn := h.n
    simp only [List.length_cons] at hm
    rw [g_script_Print_l2, dec_t (by omega), idx_nat (show L[pre.length]? = some a by rw [he]; exact app_get pre a _)]
    simp only [cond_true, bO_some]
    rw [write_ok (h.b a (by rw [he]; simp))]
    simp only [bO_some]
    have hag : allG (a :: r) = (actG a && allG r) := rfl
    rw [hag]
    cases hb : actG a with
    | false => rfl
    | true =>
      simp only [Bool.not_true, cond_false, Bool.true_and]
      rw [appO_eq (by rw [List.length_map, List.length_singleton]; unfold lim; omega)]
      simp only [bO_some]
      rw [w64_succ (by omega)]
      have ih := sprint_loop L h m r (pre ++ [a]) (by rw [he]; simp) (by omega) (by unfold allG at *; rw [List.all_append, hp]; simp [hb])
      rw [List.length_append, List.length_singleton, List.map_append] at ih
      exact ih
theorem sprint_ok {L : List SAct} (h : Prt L) : g_script_Print L = some (if allG L then (jT (L.map actT), 0) else ([], 1)) :=
  sprint_loop L h FUEL L [] rfl (fuel_lt (by have := h.n; unfold lim; omega)) rfl
theorem prints_loop (L : List SAct) (h : Prt L) (k : Option Bool) : ∀ (d i m : Nat), i + d = L.length → d < m → g_law26_ScriptPrints_l2 L k m (i : Int) = k
  | _, _, 0, _, h => by omega
  | 0, i, m + 1, hi, _ => by rw [g_law26_ScriptPrints_l2, dec_f (by omega)]; rfl
  | d + 1, i, m + 1, hi, hm => by
    have hn := h.n
    have hx : L[i]? = some L[i] := by simp
    have hb := h.b L[i] (List.getElem_mem _)
    obtain ⟨s, s1, _⟩ := one_ok hb
    rw [g_law26_ScriptPrints_l2, dec_t (by omega), idx_nat hx]
    simp only [cond_true, bO_some]
    rw [s1, right_ok hb]
    simp only [bO_some, beq_self_eq_true, Bool.not_true, cond_false]
    rw [w64_succ (by omega)]
    exact prints_loop L h k d (i + 1) m (by omega) (by omega)
theorem ScriptPrints_ok (l : List SAct) (hw : ∀ a ∈ l, ActW a) : g_law26_ScriptPrints l = some true := by
  unfold g_law26_ScriptPrints
  rw [awake_ok]
  simp only [bO_some, Bool.not_true, cond_false, Bool.false_or]
  obtain ⟨b, b1, b2⟩ := few_ok l
  rw [b1]
  simp only [bO_some]
  cases b with
  | false => rfl
  | true =>
    have h := prt_few hw (b2 rfl)
    simp only [Bool.not_true, cond_false]
    rw [sprint_ok h, rprintall_ok h.b h.n]
    simp only [bO_some]
    have hn := h.n
    have hp := fun k => prints_loop l h k l.length 0 FUEL (by omega) (fuel_lt (by unfold lim; omega))
    rw [show ((0 : Nat) : Int) = 0 from rfl] at hp
    rw [hp]
    unfold g_law26_ScriptPrints_k1
    cases allG l with
    | true => simp
    | false => rfl
end
section
open Go.RowKit

/-! What a right act is. -/
theorem kind5 {x : Nat} (h : F64b x) (k : (kindV x == 5) = true) : x = 0 := by
  have k := beq_iff_eq.1 k
  have hx := neg_sgn h
  unfold kindV at k
  split at k
  · cases k
  · split at k
    · split at k <;> cases k
    · split at k
      · rename_i h0
        split at k
        · cases k
        · rename_i hs
          rw [if_neg hs] at hx
          omega
      · split at k <;> cases k
theorem none_raw {r : SRaw} (hf : V3p F64b r.avail) (h : noneB r = true) : r = raw0 := by
  unfold noneB at h
  rw [Bool.and_eq_true, Bool.and_eq_true, Bool.and_eq_true, Bool.and_eq_true] at h
  obtain ⟨⟨⟨h1, h2⟩, h3⟩, h4, h5⟩ := h
  have e1 := kind5 hf.a h1
  have e2 := kind5 hf.b h2
  have e3 := kind5 hf.c h3
  have e4 := beq_iff_eq.1 h4
  have e5 : r.use = [] := List.eq_nil_of_length_eq_zero (by have := beq_iff_eq.1 h5; omega)
  obtain ⟨t, ⟨a, b, c⟩, u⟩ := r
  simp only at e1 e2 e3 e4 e5
  subst e1 e2 e3 e4 e5
  rfl
theorem q_eq {p q : SPod} (h : qSPod p q = true) : p = q := by
  unfold qSPod at h
  simp only [Bool.and_true, Bool.and_eq_true, beq_iff_eq] at h
  obtain ⟨a, b, c, ⟨d1, d2, d3⟩, ⟨e1, e2, e3⟩, f⟩ := p
  obtain ⟨a', b', c', ⟨d1', d2', d3'⟩, ⟨e1', e2', e3'⟩, f'⟩ := q
  simp only at h
  obtain ⟨rfl, rfl, rfl, ⟨rfl, rfl, rfl⟩, ⟨rfl, rfl, rfl⟩, rfl, rfl⟩ := h
  rfl
theorem len_nil {α : Type} {l : List α} (h : ((l.length : Int) == 0) = true) : l = [] := List.eq_nil_of_length_eq_zero (by have := beq_iff_eq.1 h; omega)
/-- What a right act's kind leaves to be told. -/
theorem rest_is {a : SAct} (hf : V3p F64b a.raw.avail) (h : restV a = true) :
    (a.do_ = 1 → a = aAdmit a.pod) ∧ (a.do_ = 2 → a = aDelete a.id) ∧ (a.do_ = 3 → a = aTick) ∧ (a.do_ = 4 → a = aSample a.raw) ∧ (a.do_ = 5 → a = aFeed a.well) ∧ (a.do_ = 6 → a = aCrash a.steps a.keep) := by
  unfold restV at h
  rw [Bool.and_eq_true, Bool.and_eq_true, Bool.and_eq_true, Bool.and_eq_true] at h
  obtain ⟨⟨⟨⟨h1, h2⟩, h3⟩, h4⟩, h5⟩ := h
  have c1 : a.do_ ≠ 1 → a.pod = pod0 := fun e => by
    rw [show (a.do_ == 1) = false from beq_eq_false_iff_ne.2 e, Bool.false_or] at h1
    exact q_eq h1
  have c2 : a.do_ ≠ 2 → a.id = [] := fun e => by
    rw [show (a.do_ == 2) = false from beq_eq_false_iff_ne.2 e, Bool.false_or] at h2
    exact beq_iff_eq.1 h2
  have c3 : a.do_ ≠ 4 → a.raw = raw0 := fun e => by
    rw [show (a.do_ == 4) = false from beq_eq_false_iff_ne.2 e, Bool.false_or] at h3
    exact none_raw hf h3
  have c4 : a.do_ ≠ 5 → a.well = [] := fun e => by
    rw [show (a.do_ == 5) = false from beq_eq_false_iff_ne.2 e, Bool.false_or] at h4
    exact len_nil h4
  have c5 : a.do_ ≠ 6 → a.steps = 0 ∧ a.keep = [] := fun e => by
    rw [show (a.do_ == 6) = false from beq_eq_false_iff_ne.2 e, Bool.false_or, Bool.and_eq_true] at h5
    exact ⟨beq_iff_eq.1 h5.1, len_nil h5.2⟩
  obtain ⟨d, p, i, r, w, s, k⟩ := a
  simp only at *
  refine ⟨fun e => ?_, fun e => ?_, fun e => ?_, fun e => ?_, fun e => ?_, fun e => ?_⟩
  · rw [c2 (by omega), c3 (by omega), c4 (by omega), (c5 (by omega)).1, (c5 (by omega)).2, e]; rfl
  · rw [c1 (by omega), c3 (by omega), c4 (by omega), (c5 (by omega)).1, (c5 (by omega)).2, e]; rfl
  · rw [c1 (by omega), c2 (by omega), c3 (by omega), c4 (by omega), (c5 (by omega)).1, (c5 (by omega)).2, e]; rfl
  · rw [c1 (by omega), c2 (by omega), c4 (by omega), (c5 (by omega)).1, (c5 (by omega)).2, e]; rfl
  · rw [c1 (by omega), c2 (by omega), c3 (by omega), (c5 (by omega)).1, (c5 (by omega)).2, e]; rfl
  · rw [c1 (by omega), c2 (by omega), c3 (by omega), c4 (by omega), e]; rfl
/-! Words that are read again. -/
theorem qn_back {n : Int} (h : I64 n) (h0 : ¬ n < 0) : qnV (prN n) = some n := by
  unfold I64 at h
  have := printV_read n.toNat 0 (by omega)
  rw [List.replicate_zero, List.nil_append] at this
  unfold qnV prN
  rw [this]
  show some ((n.toNat : Nat) : Int) = some n
  congr 1
  omega
theorem wh_back {n : Int} (h : inB n = true) : whV (Lib.itoa n) = some n := by
  unfold inB at h
  rw [Bool.and_eq_true] at h
  exact whV_some.2 ⟨rfl, of_decide_eq_true h.1, of_decide_eq_true h.2⟩
theorem wd_back {s : List UInt8} (h : wordB s = true) : wdV s = some s := by unfold wdV; rw [if_pos h]
theorem rk_eq {x y : Nat} (hx : F64b x) (hy : F64b y) (h : rkV x = rkV y) : x = y ∨ (kindV x = 1 ∧ kindV y = 1) := by
  have e1 := neg_sgn hx
  have e2 := neg_sgn hy
  have l1 := rung_lt x
  have l2 := rung_lt y
  unfold rkV at h
  by_cases n1 : 9218868437227405312 < rung x
  · by_cases n2 : 9218868437227405312 < rung y
    · right
      unfold kindV
      rw [if_pos n1, if_pos n2]; exact ⟨rfl, rfl⟩
    · rw [if_pos n1, if_neg n2] at h
      split at h <;> omega
  · by_cases n2 : 9218868437227405312 < rung y
    · rw [if_neg n1, if_pos n2] at h
      split at h <;> omega
    · left
      rw [if_neg n1, if_neg n2] at h
      cases s1 : sgn x <;> cases s2 : sgn y <;> rw [s1, s2] at h <;> rw [s1] at e1 <;> rw [s2] at e2 <;> simp only [if_true, if_false, Bool.false_eq_true] at * <;> omega
theorem show_nan {x : Nat} (hx : F64b x) (h : kindV x = 1) : g_script_Show x = some ([110, 97, 110], true) := by
  unfold g_script_Show
  rw [edge_ok hx, h]; rfl
theorem am_back {x : Nat} (h : F64b x) (hb : shB x = true) : ∃ y, amV (shT x) = some y ∧ FB x y ∧ shT y = shT x := by
  obtain ⟨t, b, y, c, h1, _, h3, h4, h5⟩ := show_ok h
  have e := (shV_ok h).1
  rw [h1] at e
  simp only [Option.some.injEq, Prod.mk.injEq] at e
  obtain ⟨rfl, rfl⟩ := e
  obtain ⟨rfl, hr⟩ := h5 hb
  refine ⟨y, by unfold amV; rw [h3], ⟨h, h4, hr⟩, ?_⟩
  rcases rk_eq h h4 hr with rfl | ⟨k1, k2⟩
  · rfl
  · unfold shT
    rw [show_nan h k1, show_nan h4 k2]
theorem ams_back {v : V3 Nat} (h : V3p F64b v) (hb : amsB v = true) : ∃ a b c, amV (shT v.a) = some a ∧ amV (shT v.b) = some b ∧ amV (shT v.c) = some c ∧ FB3 v ⟨a, b, c⟩ ∧ amsT ⟨a, b, c⟩ = amsT v := by
  unfold amsB at hb
  rw [Bool.and_eq_true, Bool.and_eq_true] at hb
  obtain ⟨a, a1, a2, a3⟩ := am_back h.a hb.1.1
  obtain ⟨b, b1, b2, b3⟩ := am_back h.b hb.1.2
  obtain ⟨c, c1, c2, c3⟩ := am_back h.c hb.2
  exact ⟨a, b, c, a1, b1, c1, ⟨a2, b2, c2⟩, by simp [amsT, a3, b3, c3]⟩
theorem uses_back : ∀ (l : List SUsage), (∀ u ∈ l, V3p F64b u.amount) → usesG l = true → ∃ l', usesR (usesT l) = some l' ∧ All2 AlikeU l l' ∧ usesT l' = usesT l
  | [], _, _ => ⟨[], rfl, .nil, rfl⟩
  | u :: r, hu, hg => by
    have hug : usesG (u :: r) = (wordB u.id && amsB u.amount && usesG r) := rfl
    rw [hug, Bool.and_eq_true, Bool.and_eq_true] at hg
    obtain ⟨⟨g1, g2⟩, g3⟩ := hg
    obtain ⟨r', r1, r2, r3⟩ := uses_back r (fun x hx => hu x (List.mem_cons_of_mem _ hx)) g3
    obtain ⟨a, b, c, a1, b1, c1, f1, f2⟩ := ams_back (hu u (List.mem_cons_self ..)) g2
    refine ⟨⟨u.id, a, b, c⟩ :: r', ?_, .cons ⟨rfl, f1⟩ r2, ?_⟩
    · have : usesT (u :: r) = u.id :: shT u.amount.a :: shT u.amount.b :: shT u.amount.c :: usesT r := rfl
      rw [this, usesR, wd_back g1, a1, b1, c1]
      simp only [Option.bind_some]
      rw [r1]; rfl
    · have e1 : usesT (⟨u.id, a, b, c⟩ :: r') = u.id :: amsT ⟨a, b, c⟩ ++ usesT r' := rfl
      have e2 : usesT (u :: r) = u.id :: amsT u.amount ++ usesT r := rfl
      rw [e1, e2, f2, r3]
theorem keep_back : ∀ (l : List Int), l.all inB = true → allV whV (l.map Lib.itoa) = some l
  | [], _ => rfl
  | n :: r, h => by
    rw [List.all_cons, Bool.and_eq_true] at h
    rw [List.map_cons, allV, wh_back h.1, keep_back r h.2]; rfl
theorem well_back : ∀ (l : List Bool), allV (oneV okW badW) (l.map fun w => if w then okW else badW) = some l
  | [] => rfl
  | n :: r => by
    rw [List.map_cons, allV, well_back r]
    cases n <;> rfl
theorem lim0_eq {v : V3 Int} (h : lim0 v = true) : v = ⟨0, 0, 0⟩ := by
  unfold lim0 q3_Int at h
  simp only [Bool.and_true, Bool.and_eq_true, beq_iff_eq] at h
  obtain ⟨a, b, c⟩ := v
  simp only at h
  obtain ⟨rfl, rfl, rfl⟩ := h
  rfl
theorem thr_back {v : V3 Int} (h : V3p I64 v) (hn : (v3l v).any (fun n => decide (n < 0)) = false) (r : List (List UInt8)) : threeR qnV ((v3l v).map prN ++ r) = some (v, r) := by
  simp only [v3l, List.any_cons, List.any_nil, Bool.or_false, Bool.or_eq_false_iff, decide_eq_false_iff_not] at hn
  show threeR qnV (prN v.a :: prN v.b :: prN v.c :: r) = _
  rw [threeR_eq]
  unfold thr
  rw [qn_back h.a hn.1, qn_back h.b hn.2.1, qn_back h.c hn.2.2]; rfl
theorem pod_back {a : SAct} (ha : ActB a) (hg : podG a.pod = true) : podR (podT a.pod) = some (a.pod, []) := by
  unfold podG at hg
  simp only [Bool.not_eq_true', Bool.or_eq_false_iff] at hg
  obtain ⟨⟨⟨⟨⟨g1, g2⟩, g3⟩, g4⟩, g5⟩, g6⟩ := hg
  have g1 : wordB a.pod.id = true := by simpa using g1
  have g2 : wordB a.pod.image = true := by simpa using g2
  have g4 : inB a.pod.prio = true := by simpa using g4
  have g3 := of_decide_eq_false g3
  unfold podR podT
  have hf : ∀ {α : Type} (f : List UInt8 → Option α) (t : List UInt8) (r : List (List UInt8)), fieldR f (t :: r) = (f t).map fun a => (a, r) := fun _ _ _ => rfl
  simp only [List.cons_append, List.nil_append, hf]
  rw [wd_back g1]
  simp only [Option.map_some, Option.bind_some]
  rw [hf, wd_back g2]
  simp only [Option.map_some, Option.bind_some]
  rw [hf, qn_back ha.size g3]
  simp only [Option.map_some, Option.bind_some]
  rw [hf, wh_back g4]
  simp only [Option.map_some, Option.bind_some]
  rw [hf, show oneV critW plainW (if a.pod.critical then critW else plainW) = some a.pod.critical by cases a.pod.critical <;> rfl]
  simp only [Option.map_some, Option.bind_some]
  rw [thr_back ha.req g5]
  simp only [Option.bind_some]
  cases hl : lim0 a.pod.lim with
  | true =>
    simp only [if_true]
    rw [show (⟨0, 0, 0⟩ : V3 Int) = a.pod.lim from (lim0_eq hl).symm]
  | false =>
    rw [hl] at g6
    simp only [Bool.not_false, Bool.true_and] at g6
    simp only [Bool.false_eq_true, if_false]
    rw [if_neg (by simp [v3l])]
    have := thr_back ha.lim g6 []
    rw [List.append_nil] at this
    rw [this]; rfl
theorem rawV_eq (n a b c : List UInt8) (us : List (List UInt8)) : rawV (n :: a :: b :: c :: us) = (whV n).bind fun n => (amV a).bind fun a => (amV b).bind fun b => (amV c).bind fun c => (usesR us).map fun u => ⟨n, ⟨a, b, c⟩, u⟩ := rfl
theorem line_back {a : SAct} (ha : ActB a) (hg : actG a = true) : ∃ a', lineV (actT a) = some a' ∧ AlikeA a a' ∧ actT a' = actT a := by
  have hz : SelfA a → ∃ a', some a = some a' ∧ AlikeA a a' ∧ actT a' = actT a := fun h => ⟨a, rfl, h.1, rfl⟩
  unfold actG at hg
  rw [Bool.and_eq_true] at hg
  obtain ⟨hr, hg⟩ := hg
  obtain ⟨r1, r2, r3, r4, r5, r6⟩ := rest_is ha.avail hr
  have u2 := ha.wells
  have u3 := ha.keeps
  unfold BB at u2 u3
  split at hg
  · rename_i h1
    have e := r1 h1
    have ht : actT a = admitW :: podT a.pod := by unfold actT; rw [if_pos h1]
    have hl : lineV (admitW :: podT a.pod) = some (aAdmit a.pod) := by
      show lineW admitW (podT a.pod) = _
      unfold lineW admV
      rw [if_pos rfl, pod_back ha hg]
    rw [ht, hl, ← e, ← ht]
    exact hz (by rw [e]; exact self_raw0 (by simp) (by simp))
  · split at hg
    · rename_i h1 h2
      have e := r2 h2
      have ht : actT a = [deleteW, a.id] := by unfold actT; rw [if_neg h1, if_pos h2]
      have hl : lineV [deleteW, a.id] = some (aDelete a.id) := by
        show lineW deleteW [a.id] = _
        unfold lineW
        rw [if_neg (by decide), if_pos rfl]
        show (wdV a.id).map aDelete = _
        rw [wd_back hg]; rfl
      rw [ht, hl, ← e, ← ht]
      exact hz (by rw [e]; exact self_raw0 (by simp) (by simp))
    · split at hg
      · rename_i h1 h2 h3
        have e := r3 h3
        have ht : actT a = [tickW] := by unfold actT; rw [if_neg h1, if_neg h2, if_pos h3]
        have hl : lineV [tickW] = some aTick := rfl
        rw [ht, hl, ← e, ← ht]
        exact hz (by rw [e]; exact self_raw0 (by simp) (by simp))
      · split at hg
        · rename_i h1 h2 h3 h4
          have e := r4 h4
          rw [Bool.and_eq_true, Bool.and_eq_true] at hg
          obtain ⟨⟨g1, g2⟩, g3⟩ := hg
          have ht : actT a = sampleW :: Lib.itoa a.raw.time :: amsT a.raw.avail ++ usesT a.raw.use := by unfold actT; rw [if_neg h1, if_neg h2, if_neg h3, if_pos h4]
          obtain ⟨x, y, z, x1, y1, z1, f1, f2⟩ := ams_back ha.avail g2
          obtain ⟨l, l1, l2, l3⟩ := uses_back a.raw.use (fun u hu => (ha.use u hu).2) g3
          have hl : lineV (sampleW :: Lib.itoa a.raw.time :: amsT a.raw.avail ++ usesT a.raw.use) = some (aSample ⟨a.raw.time, ⟨x, y, z⟩, l⟩) := by
            show lineW sampleW (Lib.itoa a.raw.time :: amsT a.raw.avail ++ usesT a.raw.use) = _
            unfold lineW
            rw [if_neg (by decide), if_neg (by decide), if_neg (by decide), if_pos rfl]
            show (rawV (Lib.itoa a.raw.time :: shT a.raw.avail.a :: shT a.raw.avail.b :: shT a.raw.avail.c :: usesT a.raw.use)).map aSample = _
            rw [rawV_eq, wh_back g1, x1, y1, z1, l1]; rfl
          rw [ht, hl]
          refine ⟨_, rfl, ?_, ?_⟩
          · rw [e]
            exact ⟨rfl, rfl, rfl, rfl, rfl, rfl, rfl, f1, l2⟩
          · show sampleW :: Lib.itoa a.raw.time :: amsT ⟨x, y, z⟩ ++ usesT l = _
            rw [f2, l3]
        · split at hg
          · rename_i h1 h2 h3 h4 h5
            have e := r5 h5
            have ht : actT a = feedW :: a.well.map fun w => if w then okW else badW := by unfold actT; rw [if_neg h1, if_neg h2, if_neg h3, if_neg h4, if_pos h5]
            have hl : lineV (feedW :: a.well.map fun w => if w then okW else badW) = some (aFeed a.well) := by
              show lineW feedW _ = _
              unfold lineW
              rw [if_neg (by decide), if_neg (by decide), if_neg (by decide), if_neg (by decide), if_pos rfl, well_back]; rfl
            rw [ht, hl, ← e, ← ht]
            exact hz (by rw [e]; exact self_raw0 (by unfold lim; omega) (by simp))
          · split at hg
            · rename_i h1 h2 h3 h4 h5 h6
              have e := r6 h6
              rw [Bool.and_eq_true] at hg
              have ht : actT a = crashW :: Lib.itoa a.steps :: a.keep.map Lib.itoa := by unfold actT; rw [if_neg h1, if_neg h2, if_neg h3, if_neg h4, if_neg h5, if_pos h6]
              have hl : lineV (crashW :: Lib.itoa a.steps :: a.keep.map Lib.itoa) = some (aCrash a.steps a.keep) := by
                show lineW crashW _ = _
                unfold lineW
                rw [if_neg (by decide), if_neg (by decide), if_neg (by decide), if_neg (by decide), if_neg (by decide), if_pos rfl]
                show (whV (Lib.itoa a.steps)).bind _ = _
                rw [wh_back hg.1]
                show (allV whV (a.keep.map Lib.itoa)).map _ = _
                rw [keep_back _ hg.2]; rfl
              rw [ht, hl, ← e, ← ht]
              exact hz (by rw [e]; exact self_raw0 (by simp) (by unfold lim; omega))
            · cases hg
/-! Texts that are read again. -/
theorem all2_map {α : Type} {R : α → α → Prop} {β : Type} {f : α → β} {l m : List α} (h : All2 R l m) (hf : ∀ a b, R a b → f b = f a) : m.map f = l.map f := by
  induction h with
  | nil => rfl
  | cons hr _ ih => rw [List.map_cons, List.map_cons, ih, hf _ _ hr]
structure BackA (x y : SAct) : Prop where
  al : AlikeA x y
  t : actT y = actT x
  b : ActB y
  g : actG y = true
theorem readGo_back : ∀ (l : List SAct) (L : List (List SField)) (acc : List SAct), (∀ a ∈ l, ActB a ∧ (actT a).length ≤ BB) → allG l = true → L.map txs = l.map actT → ∃ m, readGo L acc = (acc ++ m, 0, 0) ∧ All2 BackA l m
  | [], L, acc, _, _, h => by
    rw [List.map_nil] at h
    rw [List.map_eq_nil_iff.1 h]
    exact ⟨[], by simp [readGo], .nil⟩
  | a :: r, L, acc, hb, hg, h => by
    cases L with
    | nil => simp at h
    | cons fs L =>
      rw [List.map_cons, List.map_cons, List.cons.injEq] at h
      have hag : allG (a :: r) = (actG a && allG r) := rfl
      rw [hag, Bool.and_eq_true] at hg
      obtain ⟨hA, hW⟩ := hb a (List.mem_cons_self ..)
      obtain ⟨a', e1, e2, e3⟩ := line_back hA hg.1
      have hok : OKT (actT a) := ⟨hW, fun w hw => by have := ((actT_good hA hg.1).2 w hw).2; unfold BB; omega⟩
      obtain ⟨b1, b2⟩ := lineV_right hok e1
      obtain ⟨m, m1, m2⟩ := readGo_back r L (acc ++ [a']) (fun x hx => hb x (List.mem_cons_of_mem _ hx)) hg.2 h.2
      rw [readGo, h.1, e1]
      exact ⟨a' :: m, by show readGo L (acc ++ [a']) = _; rw [m1]; simp, .cons ⟨e2, e3, b1, b2⟩ m2⟩
theorem join_good {l : List SAct} (h : Prt l) (hg : allG l = true) : JoinOk (l.map actT) := by
  intro ws hws
  obtain ⟨a, ha, rfl⟩ := List.mem_map.1 hws
  obtain ⟨g1, g2⟩ := actT_good (h.b a ha) (List.all_eq_true.1 hg a ha)
  exact ⟨g1, fun w hw => gw_good (g2 w hw).1⟩
theorem toLL_txs (x : List (List Field)) : (toLL x).map txs = textsOf x := by
  unfold toLL textsOf txs
  rw [List.map_map]
  exact List.map_congr_left fun fs _ => by simp [toSF, Function.comp_def]
theorem readV_back {l : List SAct} (h : Prt l) (hg : allG l = true) (hs : (jT (l.map actT)).length ≤ 65536) : ∃ m, readV (jT (l.map actT)) = (m, 0, 0) ∧ All2 BackA l m := by
  have hj := join_good h hg
  have hr := readable_jT hj hs
  unfold readV lexLines
  rw [if_pos hr, if_pos hr, splitNl_jT _ hj, lexFrom_wT _ 1 hj]
  obtain ⟨m, m1, m2⟩ := readGo_back l (toLL (relaid 1 (l.map actT))) [] (fun a ha => ⟨h.b a ha, h.w a ha⟩) hg (by rw [toLL_txs, relaid_texts _ _ hj])
  exact ⟨m, by rw [m1]; simp, m2⟩
theorem back_all {l m : List SAct} (h : All2 BackA l m) : All2 AlikeA l m ∧ (∀ b ∈ m, ActB b ∧ actG b = true) := by
  induction h with
  | nil => exact ⟨.nil, fun b hb => by cases hb⟩
  | cons hr _ ih =>
    exact ⟨.cons hr.al ih.1, fun b hb => by
      rcases List.mem_cons.1 hb with rfl | hb
      · exact ⟨hr.b, hr.g⟩
      · exact ih.2 b hb⟩
theorem ScriptBack_ok (l : List SAct) (hw : ∀ a ∈ l, ActW a) : g_law26_ScriptBack l = some true := by
  unfold g_law26_ScriptBack
  rw [awake_ok]
  simp only [bO_some, Bool.not_true, cond_false, Bool.false_or]
  obtain ⟨b, b1, b2⟩ := few_ok l
  rw [b1]
  simp only [bO_some]
  cases b with
  | false => rfl
  | true =>
    have hfew := b2 rfl
    have h := prt_few hw hfew
    simp only [Bool.not_true, cond_false]
    rw [sprint_ok h]
    simp only [bO_some]
    cases hg : allG l with
    | false => rfl
    | true =>
      have hl := jT_lim h hg
      simp only [if_true, bne_self_eq_false, cond_false]
      rw [show bytesO (jT (l.map actT)) = some (jT (l.map actT)) from if_pos hl, sread_ok hl]
      simp only [bO_some]
      by_cases hs : (jT (l.map actT)).length ≤ 65536
      · rw [dec_f (by omega)]
        simp only [cond_false]
        obtain ⟨m, m1, m2⟩ := readV_back h hg hs
        obtain ⟨m3, m4⟩ := back_all m2
        rw [m1]
        have hm : m.map actT = l.map actT := all2_map m2 fun a b r => r.t
        have hlen := m2.length
        have hmg : allG m = true := List.all_eq_true.2 fun b hb => (m4 b hb).2
        have hpm : Prt m := ⟨fun b hb => (m4 b hb).1, by have := h.n; omega, fun b hb => by
          have h1 : actT b ∈ m.map actT := List.mem_map.2 ⟨b, hb, rfl⟩
          rw [hm] at h1
          obtain ⟨a, ha, e⟩ := List.mem_map.1 h1
          rw [← e]; exact h.w a ha⟩
        rw [sprint_ok hpm, hmg]
        simp only [bO_some, if_true]
        have hsame := same_ok m3 (fun a ha => by
          have f := hfew.2 a ha
          have := f.uses
          have := f.wells
          have := f.keeps
          exact ⟨by unfold lim; omega, by unfold lim; omega, by unfold lim; omega⟩) (by have := h.n; unfold lim; omega)
        rw [hsame, hm]
        simp
      · rw [dec_t (by omega)]
        simp only [cond_true]
        have hnr : readableB (jT (l.map actT)) = false := by
          cases hr : readableB (jT (l.map actT)) with
          | false => rfl
          | true => exact absurd (readable_len hr) hs
        unfold readV
        rw [hnr]; rfl
/-! A field that isn't told. -/
theorem rest_no {a : SAct} (h : restV a = false) : actG a = false := by unfold actG; rw [h]; rfl
theorem ScriptRests_ok (a : SAct) (which n : Int) (hw : ActW a) (hn : I64 n) : g_law26_ScriptRests a which n = some true := by
  unfold g_law26_ScriptRests
  rw [awake_ok]
  simp only [bO_some, Bool.not_true, cond_false, Bool.false_or]
  obtain ⟨b, b1, b2⟩ := few_ok [a]
  rw [b1]
  simp only [bO_some]
  cases b with
  | false => rfl
  | true =>
    have hf := (b2 rfl).2 a (List.mem_cons_self ..)
    have hb := hw.toB hf
    simp only [Bool.not_true, cond_false, Bool.false_or]
    rw [right_ok hb]
    simp only [bO_some]
    cases hg : actG a with
    | false => rfl
    | true =>
      simp only [Bool.not_true, Bool.false_or]
      by_cases h0 : n = 0
      · rw [show (n == 0) = true from beq_iff_eq.2 h0]; rfl
      · rw [show (n == 0) = false from beq_eq_false_iff_ne.2 h0]
        simp only [cond_false]
        have key : ∀ (sz : Int) (id : List UInt8) (y : Nat) (w : List Bool) (s : Int), I64 sz → id.length ≤ BB → F64b y → w.length ≤ BB → I64 s →
            restV ⟨a.do_, ⟨a.pod.id, a.pod.prio, a.pod.critical, a.pod.req, a.pod.lim, a.pod.image, sz⟩, id, ⟨a.raw.time, ⟨a.raw.avail.a, y, a.raw.avail.c⟩, a.raw.use⟩, w, s, a.keep⟩ = false → g_law26_ScriptRests_k1 a sz id y w s = some true := by
          intro sz id y w s k1 k2 k3 k4 k5 hr
          unfold g_law26_ScriptRests_k1
          have hB : ActB ⟨a.do_, ⟨a.pod.id, a.pod.prio, a.pod.critical, a.pod.req, a.pod.lim, a.pod.image, sz⟩, id, ⟨a.raw.time, ⟨a.raw.avail.a, y, a.raw.avail.c⟩, a.raw.use⟩, w, s, a.keep⟩ := ⟨hb.prio, k1, hb.req, hb.lim, hb.pid, hb.image, k2, hb.time, ⟨hb.avail.a, k3, hb.avail.c⟩, hb.use, k5, hb.keep, hb.uses, k4, hb.keeps⟩
          rw [right_ok hB, rest_no hr]; rfl
        cases c0 : ((w64 (which.tmod 5) == 0) && (a.do_ != 1)) with
        | true =>
          simp only [cond_true]
          refine key _ _ _ _ _ hn hb.id hb.avail.b hb.wells hb.steps ?_
          rw [Bool.and_eq_true] at c0
          have e1 : (a.do_ == 1) = false := beq_eq_false_iff_ne.2 (bne_iff_ne.1 c0.2)
          unfold restV
          have e2 : qSPod ⟨a.pod.id, a.pod.prio, a.pod.critical, a.pod.req, a.pod.lim, a.pod.image, n⟩ pod0 = false := by
            cases h : qSPod ⟨a.pod.id, a.pod.prio, a.pod.critical, a.pod.req, a.pod.lim, a.pod.image, n⟩ pod0 with
            | false => rfl
            | true => have := congrArg SPod.size (q_eq h); exact absurd this h0
          simp only [e1, e2, Bool.or_self, Bool.false_and]
        | false =>
          simp only [cond_false]
          cases c1 : ((w64 (which.tmod 5) == 1) && (a.do_ != 2)) with
          | true =>
            simp only [cond_true]
            refine key _ _ _ _ _ hb.size (by simp [BB]) hb.avail.b hb.wells hb.steps ?_
            rw [Bool.and_eq_true] at c1
            have e1 : (a.do_ == 2) = false := beq_eq_false_iff_ne.2 (bne_iff_ne.1 c1.2)
            unfold restV
            simp [e1]
          | false =>
            simp only [cond_false]
            cases c2 : ((w64 (which.tmod 5) == 2) && (a.do_ != 4)) with
            | true =>
              simp only [cond_true]
              have ec : g_math_Copysign 0 13830554455654793216 = some 9223372036854775808 := by kernel_rfl
              rw [ec]
              simp only [bO_some]
              refine key _ _ _ _ _ hb.size hb.id (by unfold F64b; decide) hb.wells hb.steps ?_
              rw [Bool.and_eq_true] at c2
              have e1 : (a.do_ == 4) = false := beq_eq_false_iff_ne.2 (bne_iff_ne.1 c2.2)
              have e2 : (kindV 9223372036854775808 == 5) = false := by decide +kernel
              unfold restV noneB
              simp [e1, e2]
            | false =>
              simp only [cond_false]
              cases c3 : ((w64 (which.tmod 5) == 3) && (a.do_ != 5)) with
              | true =>
                simp only [cond_true]
                refine key _ _ _ _ _ hb.size hb.id hb.avail.b (by simp [BB]) hb.steps ?_
                rw [Bool.and_eq_true] at c3
                have e1 : (a.do_ == 5) = false := beq_eq_false_iff_ne.2 (bne_iff_ne.1 c3.2)
                unfold restV
                simp [e1]
              | false =>
                simp only [cond_false]
                cases c4 : ((w64 (which.tmod 5) == 4) && (a.do_ != 6)) with
                | true =>
                  simp only [cond_true]
                  refine key _ _ _ _ _ hb.size hb.id hb.avail.b hb.wells hn ?_
                  rw [Bool.and_eq_true] at c4
                  have e1 : (a.do_ == 6) = false := beq_eq_false_iff_ne.2 (bne_iff_ne.1 c4.2)
                  unfold restV
                  simp [e1, h0]
                | false => rfl
/-! Two texts. -/
/-! Whole numbers of a crash. -/
end
section
open Go.RowKit

section
variable {H : Type} {enc : TypeId × Value → H} {w : World}
theorem open_uses {v : Value} (h : Trd enc Tryz.prog w 44 [v]) : ∃ l : List SUsage, (∀ u ∈ l, V3p F64b u.amount) ∧ l.length ≤ maxLen ∧ RelV Tryz.prog (Gh.start w) w (.list false 114 (l.map eSUsage)) v := by
  refine open_row (default : SUsage) Tryz.underlying44 (n := 4) (by kernel_rfl) (by omega) sizeOf_114 (fun y => ⟨rfl, fun c hc => ?_⟩) (fun cs hcs => ?_) h
  · simp only [cSUsage, AV.cells, List.mem_cons, List.mem_nil_iff, or_false] at hc
    rcases hc with rfl | rfl | rfl | rfl <;> rfl
  · have hl0 := leaves_ok 6 114 [.s, .f, .f, .f] cs (by kernel_rfl) hcs
    obtain ⟨_, _, rfl, ⟨z0, rfl, _⟩, hl1⟩ := hl0.cons
    obtain ⟨_, _, rfl, ⟨z1, rfl, w1⟩, hl2⟩ := hl1.cons
    obtain ⟨_, _, rfl, ⟨z2, rfl, w2⟩, hl3⟩ := hl2.cons
    obtain ⟨_, _, rfl, ⟨z3, rfl, w3⟩, hl4⟩ := hl3.cons
    obtain rfl := hl4.nil
    refine ⟨⟨z0, z1, z2, z3⟩, ⟨w1, w2, w3⟩, fun j c hc => ?_⟩
    match j, hc with
    | 0, hc => cases hc; exact ⟨_, rfl, .str _⟩
    | 1, hc | 2, hc | 3, hc => cases hc; exact ⟨_, rfl, .lit _⟩
    | _ + 4, hc => cases hc
theorem open_bools {v : Value} (h : Trd enc Tryz.prog w 47 [v]) : ∃ l : List Bool, (∀ u ∈ l, True) ∧ l.length ≤ maxLen ∧ RelV Tryz.prog (Gh.start w) w (.list false 4 (l.map zB)) v := by
  refine open_row (default : Bool) Tryz.underlying47 (n := 1) (by kernel_rfl) (by omega) sizeOf_4 (fun y => ⟨rfl, fun c hc => ?_⟩) (fun cs hcs => ?_) h
  · simp only [AV.cells, List.mem_cons, List.mem_nil_iff, or_false] at hc
    rcases hc with rfl; rfl
  · have hl0 := leaves_ok 6 4 [.b] cs (by kernel_rfl) hcs
    obtain ⟨_, _, rfl, ⟨z0, rfl⟩, hl1⟩ := hl0.cons
    obtain rfl := hl1.nil
    refine ⟨z0, trivial, fun j c hc => ?_⟩
    match j, hc with
    | 0, hc => cases hc; exact ⟨_, rfl, .lit _⟩
    | _ + 1, hc => cases hc
theorem open_ints {v : Value} (h : Trd enc Tryz.prog w 48 [v]) : ∃ l : List Int, (∀ u ∈ l, I64 u) ∧ l.length ≤ maxLen ∧ RelV Tryz.prog (Gh.start w) w (.list false 3 (l.map zI)) v := by
  refine open_row (default : Int) Tryz.underlying48 (n := 1) (by kernel_rfl) (by omega) sizeOf_3 (fun y => ⟨rfl, fun c hc => ?_⟩) (fun cs hcs => ?_) h
  · simp only [AV.cells, List.mem_cons, List.mem_nil_iff, or_false] at hc
    rcases hc with rfl; rfl
  · have hl0 := leaves_ok 6 3 [.i .i64] cs (by kernel_rfl) hcs
    obtain ⟨_, _, rfl, ⟨z0, rfl, w0⟩, hl1⟩ := hl0.cons
    obtain rfl := hl1.nil
    refine ⟨z0, i64_le w0, fun j c hc => ?_⟩
    match j, hc with
    | 0, hc => cases hc; exact ⟨_, rfl, .lit _⟩
    | _ + 1, hc => cases hc
def actLK : List LK := [.i .i64, .s, .i .i64, .b, .i .i64, .i .i64, .i .i64, .i .i64, .i .i64, .i .i64, .s, .i .i64, .s, .i .i64, .f, .f, .f, .l 44, .l 47, .i .i64, .l 48]

set_option maxRecDepth 20000 in
theorem open_act0 {l : List Value} (hl0 : LeavesOK enc Tryz.prog w actLK l) : ∃ a : SAct, ActW a ∧ l.length = 21 ∧ ∀ (j : Nat) c, (cSAct a)[j]? = some c → ∃ u, l[j]? = some u ∧ RelV Tryz.prog (Gh.start w) w c u := by
  obtain ⟨_, _, rfl, ⟨z0, rfl, w0⟩, hl1⟩ := hl0.cons
  obtain ⟨_, _, rfl, ⟨z1, rfl, _⟩, hl2⟩ := hl1.cons
  obtain ⟨_, _, rfl, ⟨z2, rfl, w2⟩, hl3⟩ := hl2.cons
  obtain ⟨_, _, rfl, ⟨z3, rfl⟩, hl4⟩ := hl3.cons
  obtain ⟨_, _, rfl, ⟨z4, rfl, w4⟩, hl5⟩ := hl4.cons
  obtain ⟨_, _, rfl, ⟨z5, rfl, w5⟩, hl6⟩ := hl5.cons
  obtain ⟨_, _, rfl, ⟨z6, rfl, w6⟩, hl7⟩ := hl6.cons
  obtain ⟨_, _, rfl, ⟨z7, rfl, w7⟩, hl8⟩ := hl7.cons
  obtain ⟨_, _, rfl, ⟨z8, rfl, w8⟩, hl9⟩ := hl8.cons
  obtain ⟨_, _, rfl, ⟨z9, rfl, w9⟩, hl10⟩ := hl9.cons
  obtain ⟨_, _, rfl, ⟨z10, rfl, _⟩, hl11⟩ := hl10.cons
  obtain ⟨_, _, rfl, ⟨z11, rfl, w11⟩, hl12⟩ := hl11.cons
  obtain ⟨_, _, rfl, ⟨z12, rfl, _⟩, hl13⟩ := hl12.cons
  obtain ⟨_, _, rfl, ⟨z13, rfl, w13⟩, hl14⟩ := hl13.cons
  obtain ⟨_, _, rfl, ⟨z14, rfl, w14⟩, hl15⟩ := hl14.cons
  obtain ⟨_, _, rfl, ⟨z15, rfl, w15⟩, hl16⟩ := hl15.cons
  obtain ⟨_, _, rfl, ⟨z16, rfl, w16⟩, hl17⟩ := hl16.cons
  obtain ⟨v17, _, rfl, h17, hl18⟩ := hl17.cons
  obtain ⟨v18, _, rfl, h18, hl19⟩ := hl18.cons
  obtain ⟨_, _, rfl, ⟨z19, rfl, w19⟩, hl20⟩ := hl19.cons
  obtain ⟨v20, _, rfl, h20, hl21⟩ := hl20.cons
  obtain rfl := hl21.nil
  obtain ⟨us, a1, _, a3⟩ := open_uses h17
  obtain ⟨bs, _, _, b3⟩ := open_bools h18
  obtain ⟨ks, c1, _, c3⟩ := open_ints h20
  refine ⟨⟨z0, ⟨z1, z2, z3, ⟨z4, z5, z6⟩, ⟨z7, z8, z9⟩, z10, z11⟩, z12, ⟨z13, ⟨z14, z15, z16⟩, us⟩, bs, z19, ks⟩, ⟨i64_le w2, i64_le w11, ⟨i64_le w4, i64_le w5, i64_le w6⟩, ⟨i64_le w7, i64_le w8, i64_le w9⟩, i64_le w13, ⟨w14, w15, w16⟩, a1, i64_le w19, c1⟩, rfl, fun j c hc => ?_⟩
  match j, hc with
  | 0, hc | 2, hc | 3, hc | 4, hc | 5, hc | 6, hc | 7, hc | 8, hc | 9, hc | 11, hc | 13, hc | 14, hc | 15, hc | 16, hc | 19, hc => cases hc; exact ⟨_, rfl, .lit _⟩
  | 1, hc | 10, hc | 12, hc => cases hc; exact ⟨_, rfl, .str _⟩
  | 17, hc => cases hc; exact ⟨_, rfl, a3⟩
  | 18, hc => cases hc; exact ⟨_, rfl, b3⟩
  | 20, hc => cases hc; exact ⟨_, rfl, c3⟩
  | _ + 21, hc => cases hc
set_option maxRecDepth 20000 in
theorem open_acts {v : Value} (h : Trd enc Tryz.prog w 34 [v]) : ∃ l : List SAct, (∀ u ∈ l, ActW u) ∧ l.length ≤ maxLen ∧ RelV Tryz.prog (Gh.start w) w (.list false 50 (l.map eSAct)) v := by
  refine open_row (default : SAct) Tryz.underlying34 (n := 21) (by kernel_rfl) (by omega) sizeOf_50 (fun y => ⟨rfl, fun c hc => ?_⟩) (fun cs hcs => ?_) h
  · exact List.all_eq_true.1 (rfl : (cSAct y).all AV.scalar = true) c hc
  · obtain ⟨a, h1, _, h3⟩ := open_act0 (leaves_ok 8 50 actLK cs (by kernel_rfl) hcs)
    exact ⟨a, h1, h3⟩
set_option maxRecDepth 20000 in
theorem open_relActs {r : Reach} {b0 : Nat} {v : Value} {d : DataW H} {ps : List MemPlace} (_hv : Value.okWide Tryz.prog w r b0 34 v) (h : DataW.Trod enc Tryz.prog w 0 (fun _ => true) true 34 v d ps) (hc : v.cells.toList = [v]) : ∃ l : List SAct, (∀ u ∈ l, ActW u) ∧ RelV Tryz.prog (Gh.start w) w (.list false 50 (l.map eSAct)) v := by
  obtain ⟨fuel, hf⟩ := h
  rw [hc] at hf
  obtain ⟨l, h1, _, h3⟩ := open_acts ⟨fuel, _, hf⟩
  exact ⟨l, h1, h3⟩
set_option maxRecDepth 20000 in
theorem open_relAct {r : Reach} {b0 : Nat} {v : Value} {d : DataW H} {ps : List MemPlace} (hv : Value.okWide Tryz.prog w r b0 50 v) (h : DataW.Trod enc Tryz.prog w 0 (fun _ => true) true 50 v d ps) : ∃ a : SAct, ActW a ∧ RelV Tryz.prog (Gh.start w) w (eSAct a) v := by
  have hv' := hv
  simp only [Value.okWide, Tryz.underlying50] at hv'
  obtain ⟨cs, rfl, _, _⟩ := hv'
  obtain ⟨fuel, hf⟩ := h
  obtain ⟨l⟩ := cs
  obtain ⟨a, h1, h2, h3⟩ := open_act0 (leaves_ok 8 50 actLK l (by kernel_rfl) ⟨fuel, _, hf⟩)
  refine ⟨a, h1, RelV.agg (cSAct a) l h2 fun j c x e1 e2 => ?_⟩
  obtain ⟨u, e3, e4⟩ := h3 j c e1
  rw [e2] at e3
  cases e3; exact e4
end
theorem slice_cells {P : Program} {w : World} {r : Reach} {b0 : Nat} {t e : TypeId} {v : Value} (ht : P.underlying t = some (.slice e)) (hv : Value.okWide P w r b0 t v) : v.cells.toList = [v] := by
  obtain ⟨a, len, cap, rfl⟩ := Go.WideShapes.okWide_slice ht hv
  rfl
/-! The laws, as contracts. -/
theorem ScriptPrints_any (l : List SAct) (h : ∀ a ∈ l, ActW a) (M : Nat → Option (List AV)) : ACall Tryz.prog 5 [.list false 50 (l.map eSAct)] M (fun r M' => r = .lit (.bool true) ∧ M = M') :=
  (g_law26_ScriptPrints_w (ScriptPrints_ok l h)).all M
theorem ScriptBack_any (l : List SAct) (h : ∀ a ∈ l, ActW a) (M : Nat → Option (List AV)) : ACall Tryz.prog 6 [.list false 50 (l.map eSAct)] M (fun r M' => r = .lit (.bool true) ∧ M = M') :=
  (g_law26_ScriptBack_w (ScriptBack_ok l h)).all M
theorem ScriptRests_any (a : SAct) (h : ActW a) (which n : Int) (hn : (Lit.int .i64 n).wf = true) (M : Nat → Option (List AV)) : ACall Tryz.prog 9 [eSAct a, .lit (.int .u8 which), .lit (.int .i64 n)] M (fun r M' => r = .lit (.bool true) ∧ M = M') :=
  (g_law26_ScriptRests_w (ScriptRests_ok a which n h (i64_le hn))).all M
end
end Go.Proofs.YtgphopeclplahaaGreatDoor
