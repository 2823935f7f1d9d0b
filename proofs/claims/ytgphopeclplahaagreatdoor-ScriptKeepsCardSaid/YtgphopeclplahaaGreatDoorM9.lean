/- ScW1, ScR4, LexM2, ScW2, ScW3, ScB1, ScKp. -/
import Derived.Test.YtgphopeclplahaaGreatDoorM8
namespace Go.Proofs.YtgphopeclplahaaGreatDoor
section
open Go.RowKit

def I64 (n : Int) : Prop := -9223372036854775808 ≤ n ∧ n ≤ 9223372036854775807
def F64b (x : Nat) : Prop := x < 18446744073709551616
structure V3p {α : Type} (p : α → Prop) (v : V3 α) : Prop where
  a : p v.a
  b : p v.b
  c : p v.c
/-- An act that a machine may hold. -/
structure ActB (a : SAct) : Prop where
  prio : I64 a.pod.prio
  size : I64 a.pod.size
  req : V3p I64 a.pod.req
  lim : V3p I64 a.pod.lim
  pid : a.pod.id.length ≤ BB
  image : a.pod.image.length ≤ BB
  id : a.id.length ≤ BB
  time : I64 a.raw.time
  avail : V3p F64b a.raw.avail
  use : ∀ u ∈ a.raw.use, u.id.length ≤ BB ∧ V3p F64b u.amount
  steps : I64 a.steps
  keep : ∀ n ∈ a.keep, I64 n
  uses : a.raw.use.length ≤ BB
  wells : a.well.length ≤ BB
  keeps : a.keep.length ≤ BB
def mkF (s : List UInt8) : SField := ⟨s, 0, 0⟩
theorem FUEL2 : FUEL = 18446744073709551614 + 1 + 1 := rfl
theorem put1 (l : List SField) (b : Bool) (s : List UInt8) (h : l.length + 1 ≤ lim) : g_script_fields_put ⟨l, b⟩ [s] = some ⟨l ++ [mkF s], b⟩ := by
  unfold g_script_fields_put
  rw [FUEL2, g_script_fields_put_l1]
  rw [dec_t (by simp), show idx [s] 0 = some s from rfl]
  simp only [cond_true, bO_some]
  rw [appO_eq (by rw [List.length_singleton]; exact h)]
  simp only [bO_some]
  rw [show w64 ((0 : Int) + 1) = 1 from rfl, g_script_fields_put_l1, dec_f (by simp)]
  rfl
theorem wword_ok (l : List SField) (b : Bool) (s : List UInt8) (h : l.length + 1 ≤ lim) (hs : s.length ≤ BB) : g_script_fields_word ⟨l, b⟩ s = some ⟨l ++ [mkF s], b || !wordB s⟩ := by
  unfold g_script_fields_word
  cases b with
  | true => simp only [cond_true, bO_some]; rw [put1 l _ s h]; rfl
  | false => simp only [cond_false, (wordB_ok (le_lim hs)).1, bO_some]; rw [put1 l _ s h]; rfl
def inB (n : Int) : Bool := decide (n ≥ -1099511627776) && decide (n ≤ 1099511627776)
theorem itoaO_i {n : Int} (h : I64 n) : itoaO n = some (Lib.itoa n) := if_pos h
theorem wwhole_ok (l : List SField) (b : Bool) (n : Int) (h : l.length + 1 ≤ lim) (hn : I64 n) : g_script_fields_whole ⟨l, b⟩ n = some ⟨l ++ [mkF (Lib.itoa n)], b || !inB n⟩ := by
  unfold g_script_fields_whole
  rw [itoaO_i hn]
  cases b with
  | true => simp only [cond_true, bO_some]; rw [put1 l _ _ h]; rfl
  | false => simp only [cond_false, show g_script_in n = some (inB n) from rfl, bO_some]; rw [put1 l _ _ h]; rfl
def prN (n : Int) : List UInt8 := printV n.toNat
theorem wquants_loop (ns : List Int) (hn : ∀ n ∈ ns, I64 n) (hl : ns.length ≤ BB) : ∀ (m : Nat) (r pre : List Int) (l : List SField) (b : Bool), ns = pre ++ r → r.length < m → l.length + r.length ≤ lim →
    g_script_fields_quantities_l1 ns g_script_fields_quantities_k2 m l b (pre.length : Int) = some ⟨l ++ r.map fun n => mkF (prN n), b || r.any fun n => decide (n < 0)⟩
  | 0, _, _, _, _, _, h, _ => by omega
  | m + 1, [], pre, l, b, he, _, _ => by
    rw [g_script_fields_quantities_l1, he, List.append_nil, dec_f (by omega)]
    simp [g_script_fields_quantities_k2]
  | m + 1, n :: r, pre, l, b, he, hm, hlim => by
    have hlen : ns.length = pre.length + (r.length + 1) := by rw [he]; simp
    unfold BB at hl
    rw [g_script_fields_quantities_l1, dec_t (by omega), idx_nat (show ns[pre.length]? = some n by rw [he]; exact app_get pre n _)]
    simp only [cond_true, bO_some]
    rw [print_ok (hn n (by rw [he]; simp)).2]
    simp only [bO_some]
    rw [put1 l _ _ (by simp only [List.length_cons] at hlim; omega)]
    simp only [bO_some]
    rw [w64_succ (by omega)]
    have ih := wquants_loop ns hn (by unfold BB; exact hl) m r (pre ++ [n]) (l ++ [mkF (printV n.toNat)]) (b || decide (n < 0)) (by rw [he]; simp) (by simp only [List.length_cons] at hm; omega) (by simp only [List.length_cons] at hlim; simp; omega)
    rw [List.length_append, List.length_singleton] at ih
    rw [ih]
    simp [prN, Bool.or_assoc]
theorem wquants_ok (ns : List Int) (l : List SField) (b : Bool) (hn : ∀ n ∈ ns, I64 n) (hl : ns.length ≤ BB) (h : l.length + ns.length ≤ lim) : g_script_fields_quantities ⟨l, b⟩ ns = some ⟨l ++ ns.map fun n => mkF (prN n), b || ns.any fun n => decide (n < 0)⟩ :=
  wquants_loop ns hn hl FUEL ns [] l b rfl (by unfold BB at hl; unfold FUEL; omega) h
theorem weither_ok (l : List SField) (b is : Bool) (y n : List UInt8) (h : l.length + 1 ≤ lim) : g_script_fields_either ⟨l, b⟩ is y n = some ⟨l ++ [mkF (if is then y else n)], b⟩ := by
  unfold g_script_fields_either
  cases is with
  | true => simp only [cond_true]; rw [put1 l _ _ h]; rfl
  | false => simp only [cond_false]; rw [put1 l _ _ h]; rfl
def shT (x : Nat) : List UInt8 := ((g_script_Show x).getD ([], false)).1
def shB (x : Nat) : Bool := ((g_script_Show x).getD ([], false)).2
theorem shV_ok {x : Nat} (h : F64b x) : g_script_Show x = some (shT x, shB x) ∧ g_ref26_Show x = some (shT x, shB x) := by
  obtain ⟨t, b, y, c, h1, h2, _⟩ := show_ok h
  unfold shT shB
  rw [h1, h2]; exact ⟨rfl, rfl⟩
def amsT (v : V3 Nat) : List (List UInt8) := [shT v.a, shT v.b, shT v.c]
def amsB (v : V3 Nat) : Bool := shB v.a && shB v.b && shB v.c
theorem wamounts_ok (l : List SField) (b : Bool) (v : V3 Nat) (h : l.length + 3 ≤ lim) (hv : V3p F64b v) : g_script_fields_amounts ⟨l, b⟩ v = some ⟨l ++ (amsT v).map mkF, b || !amsB v⟩ := by
  unfold g_script_fields_amounts
  rw [(shV_ok hv.a).1, (shV_ok hv.b).1, (shV_ok hv.c).1]
  simp only [bO_some]
  rw [put1 l _ _ (by omega)]
  simp only [bO_some]
  rw [put1 _ _ _ (by simp; omega)]
  simp only [bO_some]
  rw [put1 _ _ _ (by simp; omega)]
  simp [amsT, amsB, Bool.or_assoc]
def lim0 (v : V3 Int) : Bool := q3_Int v ⟨0, 0, 0⟩
def v3l {α : Type} (v : V3 α) : List α := [v.a, v.b, v.c]
def podT (p : SPod) : List (List UInt8) := [p.id, p.image, prN p.size, Lib.itoa p.prio, if p.critical then critW else plainW] ++ (v3l p.req).map prN ++ if lim0 p.lim then [] else (v3l p.lim).map prN
def podG (p : SPod) : Bool := !(((!wordB p.id || !wordB p.image) || decide (p.size < 0) || !inB p.prio) || ((v3l p.req).any fun n => decide (n < 0)) || (!lim0 p.lim && (v3l p.lim).any fun n => decide (n < 0)))
theorem wpod_ok (l : List SField) (b : Bool) (a : SAct) (h : l.length + 11 ≤ lim) (ha : ActB a) : g_script_fields_pod ⟨l, b⟩ a.pod = some ⟨l ++ (podT a.pod).map mkF, b || !podG a.pod⟩ := by
  unfold g_script_fields_pod
  rw [wword_ok l b _ (by omega) ha.pid]
  simp only [bO_some]
  rw [wword_ok _ _ _ (by simp; omega) ha.image]
  simp only [bO_some]
  rw [wquants_ok _ _ _ (by intro n hn; rw [List.mem_singleton.1 hn]; exact ha.size) (by simp [BB]) (by simp; omega)]
  simp only [bO_some]
  rw [wwhole_ok _ _ _ (by simp; omega) ha.prio]
  simp only [bO_some]
  rw [weither_ok _ _ _ _ _ (by simp; omega)]
  simp only [bO_some]
  rw [wquants_ok _ _ _ (by
    intro n hn
    simp only [List.mem_cons, List.mem_nil_iff, or_false] at hn
    rcases hn with rfl | rfl | rfl
    · exact ha.req.a
    · exact ha.req.b
    · exact ha.req.c) (by simp [BB]) (by simp; omega)]
  simp only [bO_some]
  rw [show q3_Int a.pod.lim ⟨0, 0, 0⟩ = lim0 a.pod.lim from rfl]
  cases hl : lim0 a.pod.lim with
  | true =>
    simp only [Bool.not_true, cond_false]
    simp [podT, podG, hl, v3l, critW, plainW, Bool.or_assoc]
  | false =>
    simp only [Bool.not_false, cond_true]
    rw [wquants_ok _ _ _ (by
      intro n hn
      simp only [List.mem_cons, List.mem_nil_iff, or_false] at hn
      rcases hn with rfl | rfl | rfl
      · exact ha.lim.a
      · exact ha.lim.b
      · exact ha.lim.c) (by simp [BB]) (by simp; omega)]
    simp [podT, podG, hl, v3l, critW, plainW, Bool.or_assoc]
/-! What an act's line doesn't tell. -/
def noneB (r : SRaw) : Bool := (kindV r.avail.a == 5) && (kindV r.avail.b == 5) && (kindV r.avail.c == 5) && ((r.time == 0) && ((r.use.length : Int) == 0))
theorem nothing_ok {r : SRaw} (h : V3p F64b r.avail) : g_script_nothing r = some (noneB r) := by
  unfold g_script_nothing noneB
  rw [edge_ok h.a, edge_ok h.b, edge_ok h.c]
  simp only [bO_some, bne]
  cases kindV r.avail.a == 5 <;> cases kindV r.avail.b == 5 <;> cases kindV r.avail.c == 5 <;> rfl
def restV (a : SAct) : Bool := ((((a.do_ == 1 || qSPod a.pod pod0) && (a.do_ == 2 || a.id == [])) && (a.do_ == 4 || noneB a.raw)) && (a.do_ == 5 || (a.well.length : Int) == 0)) && (a.do_ == 6 || (a.steps == 0 && (a.keep.length : Int) == 0))
theorem pod0_eq : (⟨([] : List UInt8), 0, false, (⟨0, 0, 0⟩ : V3 Int), (⟨0, 0, 0⟩ : V3 Int), ([] : List UInt8), 0⟩ : SPod) = pod0 := rfl
theorem rest_ok {a : SAct} (h : V3p F64b a.raw.avail) : g_script_rest a = some (restV a) := by
  unfold g_script_rest restV
  rw [nothing_ok h, pod0_eq]
  cases (a.do_ == 1 || qSPod a.pod pod0) && (a.do_ == 2 || a.id == []) with
  | true => cases a.do_ == 4 <;> rfl
  | false => rfl
/-! An act's fields. -/
def usesT (l : List SUsage) : List (List UInt8) := l.flatMap fun u => u.id :: amsT u.amount
def usesG (l : List SUsage) : Bool := l.all fun u => wordB u.id && amsB u.amount
def actT (a : SAct) : List (List UInt8) :=
  if a.do_ = 1 then admitW :: podT a.pod else if a.do_ = 2 then [deleteW, a.id] else if a.do_ = 3 then [tickW]
  else if a.do_ = 4 then sampleW :: Lib.itoa a.raw.time :: amsT a.raw.avail ++ usesT a.raw.use
  else if a.do_ = 5 then feedW :: a.well.map fun w => if w then okW else badW
  else if a.do_ = 6 then crashW :: Lib.itoa a.steps :: a.keep.map Lib.itoa else []
def actG (a : SAct) : Bool := restV a &&
  if a.do_ = 1 then podG a.pod else if a.do_ = 2 then wordB a.id else if a.do_ = 3 then true
  else if a.do_ = 4 then inB a.raw.time && amsB a.raw.avail && usesG a.raw.use
  else if a.do_ = 5 then true
  else if a.do_ = 6 then inB a.steps && a.keep.all inB else false
theorem wuse_loop (a : SAct) (ha : ActB a) (k : List SField → Bool → Option (List SField × Bool)) : ∀ (m : Nat) (r pre : List SUsage) (l : List SField) (b : Bool), a.raw.use = pre ++ r → r.length < m → l.length + 4 * r.length ≤ lim →
    g_script_write_l2 a k m l b (pre.length : Int) = k (l ++ (usesT r).map mkF) (b || !usesG r)
  | 0, _, _, _, _, _, h, _ => by omega
  | m + 1, [], pre, l, b, he, _, _ => by
    rw [g_script_write_l2, he, List.append_nil, dec_f (by omega)]
    simp [usesT, usesG]
  | m + 1, u :: r, pre, l, b, he, hm, hl => by
    have hlen : a.raw.use.length = pre.length + (r.length + 1) := by rw [he]; simp
    have hB := ha.uses
    unfold BB at hB
    simp only [List.length_cons] at hl hm
    obtain ⟨u1, u2⟩ := ha.use u (by rw [he]; simp)
    rw [g_script_write_l2, dec_t (by omega), idx_nat (show a.raw.use[pre.length]? = some u by rw [he]; exact app_get pre u _)]
    simp only [cond_true, bO_some]
    rw [wword_ok l b _ (by omega) u1]
    simp only [bO_some]
    rw [wamounts_ok _ _ _ (by simp; omega) u2]
    simp only [bO_some]
    rw [w64_succ (by omega)]
    have ih := wuse_loop a ha k m r (pre ++ [u]) (l ++ [mkF u.id] ++ (amsT u.amount).map mkF) ((b || !wordB u.id) || !amsB u.amount) (by rw [he]; simp) (by omega) (by simp [amsT]; omega)
    rw [List.length_append, List.length_singleton] at ih
    rw [ih]
    simp [usesT, usesG, Bool.or_assoc]
theorem wwell_loop (a : SAct) (ha : ActB a) (k : List SField → Bool → Option (List SField × Bool)) : ∀ (m : Nat) (r pre : List Bool) (l : List SField) (b : Bool), a.well = pre ++ r → r.length < m → l.length + r.length ≤ lim →
    g_script_write_l3 a k m l b (pre.length : Int) = k (l ++ r.map fun w => mkF (if w then okW else badW)) b
  | 0, _, _, _, _, _, h, _ => by omega
  | m + 1, [], pre, l, b, he, _, _ => by
    rw [g_script_write_l3, he, List.append_nil, dec_f (by omega)]
    simp
  | m + 1, u :: r, pre, l, b, he, hm, hl => by
    have hlen : a.well.length = pre.length + (r.length + 1) := by rw [he]; simp
    have hB := ha.wells
    unfold BB at hB
    simp only [List.length_cons] at hl hm
    rw [g_script_write_l3, dec_t (by omega), idx_nat (show a.well[pre.length]? = some u by rw [he]; exact app_get pre u _)]
    simp only [cond_true, bO_some]
    rw [weither_ok l b _ _ _ (by omega)]
    simp only [bO_some]
    rw [w64_succ (by omega)]
    have ih := wwell_loop a ha k m r (pre ++ [u]) (l ++ [mkF (if u then [111, 107] else [98, 97, 100])]) b (by rw [he]; simp) (by omega) (by simp; omega)
    rw [List.length_append, List.length_singleton] at ih
    rw [ih]
    simp [okW, badW]
theorem wkeep_loop (a : SAct) (ha : ActB a) (k : List SField → Bool → Option (List SField × Bool)) : ∀ (m : Nat) (r pre : List Int) (l : List SField) (b : Bool), a.keep = pre ++ r → r.length < m → l.length + r.length ≤ lim →
    g_script_write_l4 a k m l b (pre.length : Int) = k (l ++ r.map fun n => mkF (Lib.itoa n)) (b || !r.all inB)
  | 0, _, _, _, _, _, h, _ => by omega
  | m + 1, [], pre, l, b, he, _, _ => by
    rw [g_script_write_l4, he, List.append_nil, dec_f (by omega)]
    simp
  | m + 1, u :: r, pre, l, b, he, hm, hl => by
    have hlen : a.keep.length = pre.length + (r.length + 1) := by rw [he]; simp
    have hB := ha.keeps
    unfold BB at hB
    simp only [List.length_cons] at hl hm
    rw [g_script_write_l4, dec_t (by omega), idx_nat (show a.keep[pre.length]? = some u by rw [he]; exact app_get pre u _)]
    simp only [cond_true, bO_some]
    rw [wwhole_ok l b _ (by omega) (ha.keep u (by rw [he]; simp))]
    simp only [bO_some]
    rw [w64_succ (by omega)]
    have ih := wkeep_loop a ha k m r (pre ++ [u]) (l ++ [mkF (Lib.itoa u)]) (b || !inB u) (by rw [he]; simp) (by omega) (by simp; omega)
    rw [List.length_append, List.length_singleton] at ih
    rw [ih]
    simp [Bool.or_assoc]
theorem podT_len (p : SPod) : (podT p).length ≤ 11 := by
  unfold podT v3l
  cases p.critical <;> cases lim0 p.lim <;> simp
theorem write_ok {a : SAct} (ha : ActB a) : g_script_write a = some ((actT a).map mkF, actG a) := by
  unfold g_script_write actT actG
  rw [rest_ok ha.avail]
  simp only [bO_some]
  have u1 := ha.uses
  have u2 := ha.wells
  have u3 := ha.keeps
  unfold BB at u1 u2 u3
  by_cases h1 : a.do_ = 1
  · rw [show (a.do_ == 1) = true from beq_iff_eq.2 h1, if_pos h1, if_pos h1]
    simp only [cond_true]
    rw [put1 _ _ _ (by simp [lim])]
    simp only [bO_some]
    rw [wpod_ok _ _ a (by simp [lim]) ha]
    simp [gq3, admitW]
  · rw [show (a.do_ == 1) = false from beq_eq_false_iff_ne.2 h1, if_neg h1, if_neg h1]
    simp only [cond_false]
    by_cases h2 : a.do_ = 2
    · rw [show (a.do_ == 2) = true from beq_iff_eq.2 h2, if_pos h2, if_pos h2]
      simp only [cond_true]
      rw [put1 _ _ _ (by simp [lim])]
      simp only [bO_some]
      rw [wword_ok _ _ _ (by simp [lim]) ha.id]
      simp [gq3, deleteW]
    · rw [show (a.do_ == 2) = false from beq_eq_false_iff_ne.2 h2, if_neg h2, if_neg h2]
      simp only [cond_false]
      by_cases h3 : a.do_ = 3
      · rw [show (a.do_ == 3) = true from beq_iff_eq.2 h3, if_pos h3, if_pos h3]
        simp only [cond_true]
        rw [put1 _ _ _ (by simp [lim])]
        simp [gq3, tickW]
      · rw [show (a.do_ == 3) = false from beq_eq_false_iff_ne.2 h3, if_neg h3, if_neg h3]
        simp only [cond_false]
        by_cases h4 : a.do_ = 4
        · rw [show (a.do_ == 4) = true from beq_iff_eq.2 h4, if_pos h4, if_pos h4]
          simp only [cond_true]
          rw [put1 _ _ _ (by simp [lim])]
          simp only [bO_some]
          rw [wwhole_ok _ _ _ (by simp [lim]) ha.time]
          simp only [bO_some]
          rw [wamounts_ok _ _ _ (by simp [lim]) ha.avail]
          simp only [bO_some]
          have h := wuse_loop a ha gq3 FUEL a.raw.use [] (([] ++ [mkF [115, 97, 109, 112, 108, 101]]) ++ [mkF (Lib.itoa a.raw.time)] ++ (amsT a.raw.avail).map mkF) ((!restV a || !inB a.raw.time) || !amsB a.raw.avail) rfl (by unfold FUEL; omega) (by simp [amsT, lim]; omega)
          have h : g_script_write_l2 a gq3 FUEL _ _ 0 = _ := h
          rw [h]
          simp [gq3, sampleW, Bool.and_assoc]
        · rw [show (a.do_ == 4) = false from beq_eq_false_iff_ne.2 h4, if_neg h4, if_neg h4]
          simp only [cond_false]
          by_cases h5 : a.do_ = 5
          · rw [show (a.do_ == 5) = true from beq_iff_eq.2 h5, if_pos h5, if_pos h5]
            simp only [cond_true]
            rw [put1 _ _ _ (by simp [lim])]
            simp only [bO_some]
            have h := wwell_loop a ha gq3 FUEL a.well [] ([] ++ [mkF [102, 101, 101, 100]]) (!restV a) rfl (by unfold FUEL; omega) (by simp [lim]; omega)
            have h : g_script_write_l3 a gq3 FUEL _ _ 0 = _ := h
            rw [h]
            simp [gq3, feedW, Function.comp_def]
          · rw [show (a.do_ == 5) = false from beq_eq_false_iff_ne.2 h5, if_neg h5, if_neg h5]
            simp only [cond_false]
            by_cases h6 : a.do_ = 6
            · rw [show (a.do_ == 6) = true from beq_iff_eq.2 h6, if_pos h6, if_pos h6]
              simp only [cond_true]
              rw [put1 _ _ _ (by simp [lim])]
              simp only [bO_some]
              rw [wwhole_ok _ _ _ (by simp [lim]) ha.steps]
              simp only [bO_some]
              have h := wkeep_loop a ha gq3 FUEL a.keep [] (([] ++ [mkF [99, 114, 97, 115, 104]]) ++ [mkF (Lib.itoa a.steps)]) (!restV a || !inB a.steps) rfl (by unfold FUEL; omega) (by simp [lim]; omega)
              have h : g_script_write_l4 a gq3 FUEL _ _ 0 = _ := h
              rw [h]
              simp [gq3, crashW, Function.comp_def, Bool.and_assoc]
            · rw [show (a.do_ == 6) = false from beq_eq_false_iff_ne.2 h6, if_neg h6, if_neg h6]
              simp
end
section
open Go.RowKit

theorem cut_zero (n : Nat) : Ieee.Toward.even.cut false n 0 = n := by
  unfold Ieee.Toward.cut
  simp [Nat.mod_one]
theorem near_val {n : Nat} (h0 : 1 ≤ n) (h : n < 9007199254740992) : ∃ L : Nat, L ≤ 52 ∧ 2 ^ L ≤ n ∧ n < 2 ^ (L + 1) ∧ FloatKind.f64.nearest (n : Int) = (L + 1022) * 4503599627370496 + n * 2 ^ (52 - L) := by
  have hL1 : 2 ^ n.log2 ≤ n := Nat.log2_self_le (by omega)
  have hL2 : n < 2 ^ (n.log2 + 1) := Nat.lt_log2_self
  have hL : n.log2 ≤ 52 := by
    rcases Nat.lt_or_ge 52 n.log2 with h1 | h1
    · have : 2 ^ 53 ≤ 2 ^ n.log2 := Nat.pow_le_pow_right (by omega) (by omega)
      omega
    · exact h1
  refine ⟨n.log2, hL, hL1, hL2, ?_⟩
  unfold FloatKind.nearest FloatKind.encode Ieee.Format.write
  show Ieee.Format.nearest F64 (decide ((n : Int) < 0)) (n : Int).natAbs 0 = _
  rw [dec_f (by omega), Int.natAbs_natCast]
  unfold Ieee.Format.nearest Ieee.Format.word
  rw [if_neg (by omega)]
  simp only [Bool.false_eq_true, if_false]
  rw [lp_eq, show F64.fractionBits = 52 from rfl, bi_eq, ir_eq]
  rw [show max ((0 : Int) + (n.log2 : Int) - ((52 : Nat) : Int)) (-1074) = (n.log2 : Int) - 52 by omega]
  rw [show ((0 : Int) - ((n.log2 : Int) - 52)).toNat = 52 - n.log2 by omega, show ((n.log2 : Int) - 52 - 0).toNat = 0 by omega, cut_zero, Nat.shiftLeft_eq, show ((n.log2 : Int) - 52 - -1074).toNat = n.log2 + 1022 by omega]
  have h1 : n * 2 ^ (52 - n.log2) ≤ 2 ^ (n.log2 + 1) * 2 ^ (52 - n.log2) := Nat.mul_le_mul_right _ (by omega)
  rw [← Nat.pow_add, show n.log2 + 1 + (52 - n.log2) = 53 by omega] at h1
  have h2 : (n.log2 + 1022) * 4503599627370496 ≤ 1074 * 4503599627370496 := Nat.mul_le_mul_right _ (by omega)
  generalize n * 2 ^ (52 - n.log2) = z at h1
  rw [show (2 : Nat) ^ 53 = 9007199254740992 from rfl] at h1
  clear hL1 hL2
  generalize n.log2 = L at hL h2
  rw [Nat.min_def, if_pos (show (L + 1022) * 4503599627370496 + z ≤ 9218868437227405312 from Nat.le_trans (Nat.add_le_add h2 h1) (by decide))]
theorem near_ok {n : Nat} (h0 : 1 ≤ n) (h : n ≤ 9007199254740992) : rung (FloatKind.f64.nearest (n : Int)) < 9218868437227405312 ∧ rung (FloatKind.f64.nearest (n : Int)) ≠ 0 ∧ sgn (FloatKind.f64.nearest (n : Int)) = false ∧ wholeV (FloatKind.f64.nearest (n : Int)) = n := by
  by_cases hn : n = 9007199254740992
  · subst hn
    rw [show FloatKind.f64.nearest ((9007199254740992 : Nat) : Int) = 4845873199050653696 by kernel_rfl]
    decide +kernel
  · obtain ⟨L, hL, h1, h2, hx⟩ := near_val h0 (show n < 9007199254740992 by omega)
    have g1 : 2 ^ L * 2 ^ (52 - L) ≤ n * 2 ^ (52 - L) := Nat.mul_le_mul_right _ h1
    have g2 : n * 2 ^ (52 - L) < 2 ^ (L + 1) * 2 ^ (52 - L) := Nat.mul_lt_mul_of_pos_right h2 (Nat.two_pow_pos _)
    rw [← Nat.pow_add, show L + (52 - L) = 52 by omega] at g1
    rw [← Nat.pow_add, show L + 1 + (52 - L) = 53 by omega] at g2
    have hx' : FloatKind.f64.nearest (n : Int) = (L + 1023) * 4503599627370496 + (n * 2 ^ (52 - L) - 4503599627370496) := by rw [hx]; omega
    obtain ⟨f, hf⟩ : ∃ f, f = n * 2 ^ (52 - L) - 4503599627370496 := ⟨_, rfl⟩
    rw [← hf] at hx'
    have hf1 : f < 4503599627370496 := by omega
    obtain ⟨x, hxe⟩ : ∃ x, x = (L + 1023) * 4503599627370496 + f := ⟨_, rfl⟩
    rw [← hxe] at hx'
    have hlt : x < 9223372036854775808 := by omega
    have d1 : x % 4503599627370496 = f := by omega
    have d2 : x / 4503599627370496 = L + 1023 := by omega
    have d3 : 4503599627370496 ≤ x := by omega
    have d4 : x < 9218868437227405312 := by omega
    obtain ⟨s1, s2⟩ := small_pos hlt
    have e3 : 4503599627370496 + f = n * 2 ^ (52 - L) := by omega
    clear hxe
    rw [hx', s2, s1]
    refine ⟨d4, by omega, rfl, ?_⟩
    obtain ⟨m1, m2⟩ := mp_norm (x := x) (by rw [s2]; exact d3)
    rw [s2, d1, e3] at m1
    rw [s2, d2] at m2
    unfold wholeV
    rw [m1, m2, show (((L + 1023 : Nat) : Int) - 1075).toNat = 0 by omega, Nat.shiftLeft_zero, show (-(((L + 1023 : Nat) : Int) - 1075)).toNat = 52 - L by omega]
    exact Nat.mul_div_cancel _ (Nat.two_pow_pos _)
theorem show_near {n : Nat} (h : n ≤ 9007199254740992) : g_script_Show (FloatKind.f64.nearest (n : Int)) = some (printV n, true) := by
  by_cases h0 : n = 0
  · subst h0
    rw [show FloatKind.f64.nearest ((0 : Nat) : Int) = 0 by kernel_rfl, show printV 0 = [48] from if_pos rfl]
    have a1 : g_script_Show 0 = some ([48], true) := by kernel_rfl
    exact a1
  · obtain ⟨hr, hz, hs, hw⟩ := near_ok (by omega) h
    have hx := nearest_lt n
    have hx0 := near_le (n := n)
    generalize hX : FloatKind.f64.nearest (n : Int) = x at *
    have hk : kindV x = 6 := by
      unfold kindV
      rw [if_neg (by omega), if_neg (by omega), if_neg hz, hs]; rfl
    unfold g_script_Show
    rw [edge_ok hx, hk]
    simp only [bO_some]
    rw [show ((6 : Int) == 1) = false from rfl, show ((6 : Int) == 7) = false from rfl, show ((6 : Int) == 2) = false from rfl, show ((6 : Int) == 4) = false from rfl]
    simp only [cond_false]
    have hlt : fLt x 0 = false := by
      show (F64.order x 0 == some .lt) = false
      rw [ord_zero hx hr, if_neg hz, hs]; rfl
    rw [hlt, gt_exact hx hr hs, hw, dec_f (by omega)]
    simp only [Bool.or_self, cond_false]
    unfold g_math_Floor
    rw [floor_ok hx hr hs, hw, hX]
    simp only [bO_some]
    rw [ne_floor hx hr hs hx0, dec_t rfl]
    simp only [Bool.not_true, Bool.or_self, cond_false]
    rw [f2i_ok hx hr hs (by omega), hw]
    simp only [bO_some]
    rw [print_ok (by omega), Int.toNat_natCast]; rfl
/-! What is read is right. -/
theorem qnV_b {s : List UInt8} {n : Int} (h : qnV s = some n) : I64 n ∧ 0 ≤ n := by
  unfold qnV quantV at h
  split at h
  · cases h
  · cases h
    have := satN_le (decV (s.takeWhile isD) * unitOf (s.dropWhile isD))
    show I64 ((satN (decV (s.takeWhile isD) * unitOf (s.dropWhile isD)) : Nat) : Int) ∧ 0 ≤ ((satN (decV (s.takeWhile isD) * unitOf (s.dropWhile isD)) : Nat) : Int)
    unfold I64; omega
theorem whV_b {s : List UInt8} {n : Int} (h : whV s = some n) : I64 n ∧ inB n = true ∧ Lib.itoa n = s := by
  obtain ⟨h1, h2, h3⟩ := whV_some.1 h
  refine ⟨by unfold I64; omega, ?_, h1.symm⟩
  unfold inB
  rw [dec_t (show n ≥ -1099511627776 from h2), dec_t h3]; rfl
theorem wdV_b {s w : List UInt8} (h : wdV s = some w) : w = s ∧ wordB w = true := by
  unfold wdV at h
  split at h
  · cases h; exact ⟨rfl, ‹_›⟩
  · cases h
theorem amV_b {s : List UInt8} (hs : s.length ≤ BB) {y : Nat} (h : amV s = some y) : F64b y ∧ shB y = true := by
  have hfb := (amV_lt (le_lim hs) h).1
  refine ⟨hfb, ?_⟩
  have key : ∀ t, g_script_Show y = some (t, true) → shB y = true := fun t e => by unfold shB; rw [e]; rfl
  unfold amV gq4 at h
  rw [show g_math_NaN = some 9221120237041090561 by kernel_rfl, show g_math_Inf 1 = some 9218868437227405312 by kernel_rfl, show g_math_Inf (-1) = some 18442240474082181120 by kernel_rfl, show g_math_Copysign 0 13830554455654793216 = some 9223372036854775808 by kernel_rfl, read_ok (le_lim hs)] at h
  simp only [bO_some] at h
  cases h1 : s == [110, 97, 110] with
  | true =>
    rw [h1] at h
    cases h
    have e : g_script_Show 9221120237041090561 = some ([110, 97, 110], true) := by kernel_rfl
    exact key _ e
  | false =>
    rw [h1] at h
    simp only [cond_false] at h
    cases h2 : s == [105, 110, 102] with
    | true =>
      rw [h2] at h
      cases h
      have e : g_script_Show 9218868437227405312 = some ([105, 110, 102], true) := by kernel_rfl
      exact key _ e
    | false =>
      rw [h2] at h
      simp only [cond_false] at h
      cases h3 : s == [45, 105, 110, 102] with
      | true =>
        rw [h3] at h
        cases h
        have e : g_script_Show 18442240474082181120 = some ([45, 105, 110, 102], true) := by kernel_rfl
        exact key _ e
      | false =>
        rw [h3] at h
        simp only [cond_false] at h
        cases h4 : s == [45, 48] with
        | true =>
          rw [h4] at h
          cases h
          have e : g_script_Show 9223372036854775808 = some ([45, 48], true) := by kernel_rfl
          exact key _ e
        | false =>
          rw [h4] at h
          simp only [cond_false] at h
          cases h5 : ((qe s != 0) || decide ((qv s : Int) > 9007199254740992)) with
          | true => rw [h5] at h; cases h
          | false =>
            rw [h5] at h
            cases h
            rw [Bool.or_eq_false_iff] at h5
            have := of_decide_eq_false h5.2
            exact key _ (show_near (by omega))
theorem thr_b {f : List UInt8 → Option Int} {p : Int → Prop} (hp : ∀ s n, f s = some n → p n) {ts r : List (List UInt8)} {v : V3 Int} (h : threeR f ts = some (v, r)) : V3p p v := by
  unfold threeR at h
  rw [Option.bind_eq_some_iff] at h
  obtain ⟨a, h1, h⟩ := h
  rw [Option.bind_eq_some_iff] at h
  obtain ⟨b, h2, h⟩ := h
  rw [Option.bind_eq_some_iff] at h
  obtain ⟨c, h3, h⟩ := h
  cases h
  have fl : ∀ (ts : List (List UInt8)) (q : Int × List (List UInt8)), fieldR f ts = some q → p q.1 := by
    intro ts q hq
    cases ts with
    | nil => cases hq
    | cons t r =>
      have hq : (f t).map (fun a => (a, r)) = some q := hq
      rw [Option.map_eq_some_iff] at hq
      obtain ⟨z, hz, rfl⟩ := hq
      exact hp _ _ hz
  exact ⟨fl _ _ h1, fl _ _ h2, fl _ _ h3⟩
theorem fieldR_b {α : Type} {f : List UInt8 → Option α} {ts : List (List UInt8)} {q : α × List (List UInt8)} (h : fieldR f ts = some q) : ∃ t, t ∈ ts ∧ f t = some q.1 ∧ ∀ s ∈ q.2, s ∈ ts := by
  cases ts with
  | nil => cases h
  | cons t r =>
    have h : (f t).map (fun a => (a, r)) = some q := h
    rw [Option.map_eq_some_iff] at h
    obtain ⟨z, hz, rfl⟩ := h
    exact ⟨t, List.mem_cons_self .., hz, fun s hs => List.mem_cons_of_mem _ hs⟩
theorem nonneg3 {v : V3 Int} (h : V3p (fun n => I64 n ∧ 0 ≤ n) v) : (v3l v).any (fun n => decide (n < 0)) = false := by
  simp only [v3l, List.any_cons, List.any_nil, Bool.or_false, Bool.or_eq_false_iff, decide_eq_false_iff_not]
  have := h.a.2
  have := h.b.2
  have := h.c.2
  omega
theorem raw0_b : V3p F64b raw0.avail := ⟨by unfold F64b; decide, by unfold F64b; decide, by unfold F64b; decide⟩
theorem i0 : I64 0 := by unfold I64; omega
theorem pod0_b : V3p I64 (⟨0, 0, 0⟩ : V3 Int) := ⟨i0, i0, i0⟩
theorem nil_b {α : Type} : ([] : List α).length ≤ BB := by simp
theorem podR_b {ts r : List (List UInt8)} {p : SPod} (ho : ∀ s ∈ ts, s.length ≤ BB) (h : podR ts = some (p, r)) : ActB (aAdmit p) ∧ podG p = true := by
  unfold podR at h
  rw [Option.bind_eq_some_iff] at h
  obtain ⟨a, h1, h⟩ := h
  rw [Option.bind_eq_some_iff] at h
  obtain ⟨b, h2, h⟩ := h
  rw [Option.bind_eq_some_iff] at h
  obtain ⟨c, h3, h⟩ := h
  rw [Option.bind_eq_some_iff] at h
  obtain ⟨d, h4, h⟩ := h
  rw [Option.bind_eq_some_iff] at h
  obtain ⟨e, h5, h⟩ := h
  rw [Option.bind_eq_some_iff] at h
  obtain ⟨f, h6, h⟩ := h
  obtain ⟨t1, m1, e1, s1⟩ := fieldR_b h1
  obtain ⟨t2, m2, e2, s2⟩ := fieldR_b h2
  obtain ⟨t3, m3, e3, s3⟩ := fieldR_b h3
  obtain ⟨t4, m4, e4, s4⟩ := fieldR_b h4
  obtain ⟨w1, w2⟩ := wdV_b e1
  obtain ⟨x1, x2⟩ := wdV_b e2
  obtain ⟨q1, q2⟩ := qnV_b e3
  obtain ⟨n1, n2, _⟩ := whV_b e4
  have g6 := thr_b (p := fun n => I64 n ∧ 0 ≤ n) (fun s n => qnV_b) (show threeR qnV e.2 = some (f.1, f.2) from h6)
  have fin : ∀ (L : V3 Int), V3p (fun n => I64 n ∧ 0 ≤ n) L → ActB (aAdmit ⟨a.1, d.1, e.1, f.1, L, b.1, c.1⟩) ∧ podG ⟨a.1, d.1, e.1, f.1, L, b.1, c.1⟩ = true := by
    intro L hL
    refine ⟨⟨n1, q1, ⟨g6.a.1, g6.b.1, g6.c.1⟩, ⟨hL.a.1, hL.b.1, hL.c.1⟩, by show a.1.length ≤ BB; rw [w1]; exact ho _ m1, by show b.1.length ≤ BB; rw [x1]; exact ho _ (s1 _ m2), nil_b, i0, raw0_b, (fun u hu => by cases hu), i0, (fun n hn => by cases hn), nil_b, nil_b, nil_b⟩, ?_⟩
    unfold podG
    simp only [w2, x2, n2, nonneg3 g6, nonneg3 hL, dec_f (show ¬ c.1 < 0 by omega)]
    simp
  split at h
  · cases h
    exact fin ⟨0, 0, 0⟩ ⟨⟨i0, Int.le_refl _⟩, ⟨i0, Int.le_refl _⟩, ⟨i0, Int.le_refl _⟩⟩
  · rw [Option.bind_eq_some_iff] at h
    obtain ⟨g, h7, h⟩ := h
    have g7 := thr_b (p := fun n => I64 n ∧ 0 ≤ n) (fun s n => qnV_b) (show threeR qnV f.2 = some (g.1, g.2) from h7)
    cases h
    exact fin g.1 g7
theorem usesR_b : ∀ (us : List (List UInt8)) (u : List SUsage), (∀ s ∈ us, s.length ≤ BB) → usesR us = some u → (∀ x ∈ u, x.id.length ≤ BB ∧ V3p F64b x.amount) ∧ usesG u = true
  | [], _, _, h => by cases h; exact ⟨fun x hx => (by cases hx), rfl⟩
  | [_], _, _, h => by cases h
  | [_, _], _, _, h => by cases h
  | [_, _, _], _, _, h => by cases h
  | w :: a :: b :: c :: r, u, hb, h => by
    rw [usesR] at h
    rw [Option.bind_eq_some_iff] at h
    obtain ⟨w', h1, h⟩ := h
    rw [Option.bind_eq_some_iff] at h
    obtain ⟨a', h2, h⟩ := h
    rw [Option.bind_eq_some_iff] at h
    obtain ⟨b', h3, h⟩ := h
    rw [Option.bind_eq_some_iff] at h
    obtain ⟨c', h4, h⟩ := h
    rw [Option.map_eq_some_iff] at h
    obtain ⟨v, h, rfl⟩ := h
    have ih := usesR_b r v (fun s hs => hb s (by simp [hs])) h
    obtain ⟨w1, w2⟩ := wdV_b h1
    obtain ⟨a1, a2⟩ := amV_b (hb a (by simp)) h2
    obtain ⟨b1, b2⟩ := amV_b (hb b (by simp)) h3
    obtain ⟨c1, c2⟩ := amV_b (hb c (by simp)) h4
    refine ⟨fun x hx => ?_, ?_⟩
    · rcases List.mem_cons.1 hx with rfl | hx
      · exact ⟨by rw [w1]; exact hb w (by simp), ⟨a1, b1, c1⟩⟩
      · exact ih.1 x hx
    · have ih2 := ih.2
      unfold usesG at ih2 ⊢
      rw [List.all_cons, ih2]
      simp only [amsB, w2, a2, b2, c2]; rfl
theorem allV_b {α : Type} {f : List UInt8 → Option α} {p : α → Prop} (hp : ∀ s a, f s = some a → p a) : ∀ (us : List (List UInt8)) (u : List α), allV f us = some u → ∀ x ∈ u, p x
  | [], _, h => by cases h; exact fun x hx => by cases hx
  | t :: r, u, h => by
    rw [allV, Option.bind_eq_some_iff] at h
    obtain ⟨a, h1, h⟩ := h
    rw [Option.map_eq_some_iff] at h
    obtain ⟨v, h, rfl⟩ := h
    intro x hx
    rcases List.mem_cons.1 hx with rfl | hx
    · exact hp _ _ h1
    · exact allV_b hp r v h x hx
theorem lineV_right {ts : List (List UInt8)} (ho : OKT ts) {a : SAct} (h : lineV ts = some a) : ActB a ∧ actG a = true := by
  cases ts with
  | nil => cases h
  | cons t ts =>
    have hB := ho.1
    have hin : ∀ s ∈ ts, s.length ≤ BB := fun s hs => ho.2 s (List.mem_cons_of_mem _ hs)
    simp only [List.length_cons] at hB
    replace h : lineW t ts = some a := h
    unfold lineW at h
    split at h
    · unfold admV at h
      split at h
      · rename_i p hp
        cases h
        obtain ⟨b1, b2⟩ := podR_b hin hp
        refine ⟨b1, ?_⟩
        show (restV (aAdmit p) && podG p) = true
        rw [b2]; rfl
      · cases h
    · split at h
      · unfold delV at h
        split at h
        · rename_i w
          rw [Option.map_eq_some_iff] at h
          obtain ⟨v, hv, rfl⟩ := h
          obtain ⟨w1, w2⟩ := wdV_b hv
          refine ⟨⟨i0, i0, pod0_b, pod0_b, nil_b, nil_b, by show v.length ≤ BB; rw [w1]; exact hin w (by simp), i0, raw0_b, (fun u hu => by cases hu), i0, (fun n hn => by cases hn), nil_b, nil_b, nil_b⟩, ?_⟩
          show (restV (aDelete v) && wordB v) = true
          rw [w2]; rfl
        · cases h
      · split at h
        · split at h
          · cases h
            exact ⟨⟨i0, i0, pod0_b, pod0_b, nil_b, nil_b, nil_b, i0, raw0_b, (fun u hu => by cases hu), i0, (fun n hn => by cases hn), nil_b, nil_b, nil_b⟩, rfl⟩
          · cases h
        · split at h
          · rw [Option.map_eq_some_iff] at h
            obtain ⟨r, hq, rfl⟩ := h
            unfold rawV at hq
            split at hq
            · rename_i n x y z us
              rw [Option.bind_eq_some_iff] at hq
              obtain ⟨n', h1, hq⟩ := hq
              rw [Option.bind_eq_some_iff] at hq
              obtain ⟨a', h2, hq⟩ := hq
              rw [Option.bind_eq_some_iff] at hq
              obtain ⟨b', h3, hq⟩ := hq
              rw [Option.bind_eq_some_iff] at hq
              obtain ⟨c', h4, hq⟩ := hq
              rw [Option.map_eq_some_iff] at hq
              obtain ⟨v, hq, rfl⟩ := hq
              have hu := usesR_b us v (fun s hs => hin s (by simp [hs])) hq
              have hu2 := (usesR_self us v (fun s hs => hin s (by simp [hs])) hq).2
              obtain ⟨n1, n2, _⟩ := whV_b h1
              obtain ⟨a1, a2⟩ := amV_b (hin x (by simp)) h2
              obtain ⟨b1, b2⟩ := amV_b (hin y (by simp)) h3
              obtain ⟨c1, c2⟩ := amV_b (hin z (by simp)) h4
              simp only [List.length_cons] at hB
              refine ⟨⟨i0, i0, pod0_b, pod0_b, nil_b, nil_b, nil_b, n1, ⟨a1, b1, c1⟩, hu.1, i0, (fun n hn => by cases hn), by show v.length ≤ BB; omega, nil_b, nil_b⟩, ?_⟩
              show (restV (aSample ⟨n', ⟨a', b', c'⟩, v⟩) && (inB n' && (shB a' && shB b' && shB c') && usesG v)) = true
              rw [n2, a2, b2, c2, hu.2]; rfl
            · cases hq
          · split at h
            · rw [Option.map_eq_some_iff] at h
              obtain ⟨u, hq, rfl⟩ := h
              have hl := allV_len _ _ _ hq
              refine ⟨⟨i0, i0, pod0_b, pod0_b, nil_b, nil_b, nil_b, i0, raw0_b, (fun u hu => by cases hu), i0, (fun n hn => by cases hn), nil_b, by show u.length ≤ BB; omega, nil_b⟩, rfl⟩
            · split at h
              · unfold craV at h
                split at h
                · rename_i n ks
                  rw [Option.bind_eq_some_iff] at h
                  obtain ⟨n', h1, h⟩ := h
                  rw [Option.map_eq_some_iff] at h
                  obtain ⟨u, hq, rfl⟩ := h
                  have hl := allV_len _ _ _ hq
                  have hall := allV_b (p := fun n => I64 n ∧ inB n = true) (fun s a h => ⟨(whV_b h).1, (whV_b h).2.1⟩) _ _ hq
                  obtain ⟨n1, n2, _⟩ := whV_b h1
                  simp only [List.length_cons] at hB
                  refine ⟨⟨i0, i0, pod0_b, pod0_b, nil_b, nil_b, nil_b, i0, raw0_b, (fun u hu => by cases hu), n1, (fun n hn => (hall n hn).1), nil_b, nil_b, by show u.length ≤ BB; omega⟩, ?_⟩
                  show (restV (aCrash n' u) && (inB n' && u.all inB)) = true
                  rw [n2, show u.all inB = true from List.all_eq_true.2 fun n hn => (hall n hn).2]; rfl
                · cases h
              · cases h
end
section
theorem blank32 : blankB ((32 : UInt8).toNat : Int) = true := rfl
theorem scan_blanks : ∀ (ws : List (List UInt8)), (∀ w ∈ ws, GoodW w) → ∀ n i, (scan n i (ws.flatMap fun v => 32 :: v)).map (·.text) = ws
  | [], _, n, i => by simp [scan_nil]
  | w :: r, h, n, i => by
    have hw := h w (List.mem_cons_self ..)
    have ih := scan_blanks r (fun v hv => h v (List.mem_cons_of_mem _ hv))
    rw [List.flatMap_cons, List.cons_append, scan_blank blank32, scan_wordS hw.1 hw.2.1 hw.2.2]
    · simp only [List.map_cons, ih]
    · intro c t e
      cases r with
      | nil => cases e
      | cons v t' => rw [List.flatMap_cons] at e; cases e; exact blank32
theorem scan_wT (ws : List (List UInt8)) (h : ∀ w ∈ ws, GoodW w) (n i : Nat) : (scan n i (wT ws)).map (·.text) = ws := by
  cases ws with
  | nil => simp [wT, scan_nil]
  | cons w r =>
    have hw := h w (List.mem_cons_self ..)
    have ih := scan_blanks r (fun v hv => h v (List.mem_cons_of_mem _ hv))
    rw [wT, scan_wordS hw.1 hw.2.1 hw.2.2]
    · simp only [List.map_cons, ih]
    · intro c t e
      cases r with
      | nil => cases e
      | cons v t' => rw [List.flatMap_cons] at e; cases e; exact blank32
theorem splitNl_one : ∀ (s : List UInt8), (10 : UInt8) ∉ s → splitNl s = [s]
  | [], _ => rfl
  | c :: r, h => by
    have ih := splitNl_one r (fun e => h (List.mem_cons_of_mem _ e))
    obtain ⟨hd, tl, e1, e2⟩ := splitNl_ne (c := c) (fun e => h (by rw [e]; exact List.mem_cons_self ..)) r
    rw [ih] at e1
    cases e1
    exact e2
theorem wT_mem {ws : List (List UInt8)} {c : UInt8} (h : c ∈ wT ws) : c = 32 ∨ ∃ w ∈ ws, c ∈ w := by
  cases ws with
  | nil => cases h
  | cons w r =>
    rw [wT, List.mem_append] at h
    rcases h with h | h
    · exact .inr ⟨w, List.mem_cons_self .., h⟩
    · obtain ⟨v, hv, hc⟩ := List.mem_flatMap.1 h
      rcases List.mem_cons.1 hc with rfl | hc
      · exact .inl rfl
      · exact .inr ⟨v, List.mem_cons_of_mem _ hv, hc⟩
/-- Words that may be joined: good ones, without lines' ends, of readable letters. -/
def JoinOk (x : List (List (List UInt8))) : Prop := ∀ ws ∈ x, ws ≠ [] ∧ ∀ w ∈ ws, GoodW w ∧ ∀ c ∈ w, c ≠ 10 ∧ okB (c.toNat : Int) = true
theorem splitNl_jT : ∀ (x : List (List (List UInt8))), JoinOk x → splitNl (jT x) = x.map wT ++ [[]]
  | [], _ => rfl
  | ws :: r, h => by
    have ih := splitNl_jT r (fun v hv => h v (List.mem_cons_of_mem _ hv))
    have e : jT (ws :: r) = wT ws ++ 10 :: jT r := by simp [jT]
    rw [e, splitNl_app, ih, splitNl_one]
    · rfl
    · intro hm
      rcases wT_mem hm with h1 | ⟨w, hw, hc⟩
      · cases h1
      · exact ((h ws (List.mem_cons_self ..)).2 w hw).2 10 hc |>.1 rfl
def relaid : Nat → List (List (List UInt8)) → List (List Field)
  | _, [] => []
  | n, ws :: r => scan n 0 (wT ws) :: relaid (n + 1) r
theorem lexFrom_wT : ∀ (x : List (List (List UInt8))) (n : Nat), JoinOk x → lexFrom n (x.map wT ++ [[]]) = relaid n x
  | [], n, _ => by simp [lexFrom, relaid, scan_nil]
  | ws :: r, n, h => by
    have ih := lexFrom_wT r (n + 1) (fun v hv => h v (List.mem_cons_of_mem _ hv))
    have hs := scan_wT ws (fun w hw => ((h ws (List.mem_cons_self ..)).2 w hw).1) n 0
    rw [List.map_cons, List.cons_append, lexFrom, ih, relaid, if_neg]
    intro e
    rw [List.length_eq_zero_iff.1 e] at hs
    exact (h ws (List.mem_cons_self ..)).1 hs.symm
theorem relaid_texts : ∀ (x : List (List (List UInt8))) (n : Nat), JoinOk x → textsOf (relaid n x) = x
  | [], n, _ => rfl
  | ws :: r, n, h => by
    have ih := relaid_texts r (n + 1) (fun v hv => h v (List.mem_cons_of_mem _ hv))
    have hs := scan_wT ws (fun w hw => ((h ws (List.mem_cons_self ..)).2 w hw).1) n 0
    simp only [textsOf] at ih
    simp only [relaid, textsOf, List.map_cons, hs, ih]
theorem relaid_line : ∀ (x : List (List (List UInt8))) (n i : Nat) (fs : List Field), (relaid n x)[i]? = some fs → ∀ f ∈ fs, f.line = n + i
  | [], n, i, fs, h => by cases h
  | ws :: r, n, 0, fs, h => by
    simp only [relaid, List.getElem?_cons_zero, Option.some.injEq] at h
    subst h
    intro f hf
    exact (scan_good _ _ _ f hf).2.1
  | ws :: r, n, i + 1, fs, h => by
    simp only [relaid, List.getElem?_cons_succ] at h
    intro f hf
    have := relaid_line r (n + 1) i fs h f hf
    omega
theorem lex_ok (b : List UInt8) : JoinOk (textsOf (lexLines b)) := by
  intro ws hws
  obtain ⟨fs, hfs, rfl⟩ := List.mem_map.1 hws
  obtain ⟨h1, h2⟩ := lex_good b fs hfs
  refine ⟨fun e => h1 (List.map_eq_nil_iff.1 e), fun w hw => ?_⟩
  obtain ⟨f, hf, rfl⟩ := List.mem_map.1 hw
  exact h2 f hf
theorem readable_jT {x : List (List (List UInt8))} (h : JoinOk x) (hl : (jT x).length ≤ 65536) : readableB (jT x) = true := by
  simp only [readableB, Bool.and_eq_true, decide_eq_true_eq]
  refine ⟨List.all_eq_true.2 (fun c hc => ?_), hl⟩
  obtain ⟨ws, hws, hc⟩ := List.mem_flatMap.1 hc
  rcases List.mem_append.1 hc with hc | hc
  · rcases wT_mem hc with rfl | ⟨w, hw, hc⟩
    · rfl
    · exact (((h ws hws).2 w hw).2 c hc).2
  · simp at hc; subst hc; rfl

/-- What is joined is read again. -/
structure Again (l m : List (List Field)) (s : List UInt8) : Prop where
  rd : readableB s = true
  len : m.length = l.length
  lens : ∀ i, (m.getD i []).length = (l.getD i []).length
  text : ∀ i k, ((m.getD i []).getD k f0).text = ((l.getD i []).getD k f0).text
  line : ∀ i k, i < m.length → k < (m.getD i []).length → ((m.getD i []).getD k f0).line = i + 1
  join : joinT m = s
theorem texts_at (x : List (List Field)) (i k : Nat) : ((x.getD i []).getD k f0).text = (((textsOf x).getD i []).getD k []) ∧ (x.getD i []).length = ((textsOf x).getD i []).length := by
  have e : (textsOf x).getD i [] = (x.getD i []).map (·.text) := by
    rw [textsOf, List.getD_eq_getElem?_getD, List.getElem?_map, List.getD_eq_getElem?_getD]
    cases x[i]? <;> rfl
  rw [e]
  generalize x.getD i [] = fs
  refine ⟨?_, by simp⟩
  rw [List.getD_eq_getElem?_getD, List.getD_eq_getElem?_getD, List.getElem?_map]
  cases fs[k]? <;> rfl
theorem again (b : List UInt8) (hb : b.length ≤ 5000) : Again (lexLines b) (lexLines (joinT (lexLines b))) (joinT (lexLines b)) := by
  have hok := lex_ok b
  have hlen := joinT_len b
  have hr : readableB (joinT (lexLines b)) = true := by
    rw [joinT_eq] at hlen ⊢
    exact readable_jT hok (by omega)
  have hm : lexLines (joinT (lexLines b)) = relaid 1 (textsOf (lexLines b)) := by
    rw [lexLines, hr, if_pos rfl, joinT_eq, splitNl_jT _ hok, lexFrom_wT _ _ hok]
  have ht : textsOf (lexLines (joinT (lexLines b))) = textsOf (lexLines b) := by rw [hm, relaid_texts _ _ hok]
  refine ⟨hr, ?_, fun i => ?_, fun i k => ?_, fun i k hi hk => ?_, ?_⟩
  · rw [← textsOf_len, ht, textsOf_len]
  · rw [(texts_at _ i 0).2, ht, ← (texts_at _ i 0).2]
  · rw [(texts_at _ i k).1, ht, ← (texts_at _ i k).1]
  · have h1 : (lexLines (joinT (lexLines b)))[i]? = some ((lexLines (joinT (lexLines b))).getD i []) := by
      rw [List.getD_eq_getElem?_getD, List.getElem?_eq_getElem hi]; rfl
    have h2 : ((lexLines (joinT (lexLines b))).getD i []).getD k f0 ∈ (lexLines (joinT (lexLines b))).getD i [] := by
      generalize (lexLines (joinT (lexLines b))).getD i [] = fs at hk
      rw [List.getD_eq_getElem?_getD, List.getElem?_eq_getElem hk]; exact List.getElem_mem _
    have h3 : (relaid 1 (textsOf (lexLines b)))[i]? = some ((lexLines (joinT (lexLines b))).getD i []) := by rw [← hm]; exact h1
    have := relaid_line _ 1 i _ h3 _ h2
    omega
  · rw [joinT_eq, ht, ← joinT_eq]

/-! Remarks. -/
end
section
open Go.RowKit

/-- A word that is read again as it is. -/
def GoodT (w : List UInt8) : Prop := GoodW w ∧ ∀ c ∈ w, c ≠ 10 ∧ okB (c.toNat : Int) = true
def gw (w : List UInt8) : Bool := !w.isEmpty && (w.all fun c => decide (33 ≤ c.toNat) && decide (c.toNat ≤ 126)) && w.head? != some 35
theorem gw_good {w : List UInt8} (h : gw w = true) : GoodT w := by
  unfold gw at h
  rw [Bool.and_eq_true, Bool.and_eq_true] at h
  obtain ⟨⟨h1, h2⟩, h3⟩ := h
  have hc : ∀ c ∈ w, 33 ≤ c.toNat ∧ c.toNat ≤ 126 := fun c hc => by
    have := List.all_eq_true.1 h2 c hc
    rw [Bool.and_eq_true] at this
    exact ⟨of_decide_eq_true this.1, of_decide_eq_true this.2⟩
  have hb : ∀ c ∈ w, blankB (c.toNat : Int) = false := fun c hm => by
    have := hc c hm
    unfold blankB
    rw [show ((c.toNat : Int) == 32) = false from beq_eq_false_iff_ne.2 (by omega), show ((c.toNat : Int) == 9) = false from beq_eq_false_iff_ne.2 (by omega), show ((c.toNat : Int) == 13) = false from beq_eq_false_iff_ne.2 (by omega)]; rfl
  refine ⟨⟨?_, hb, ?_⟩, fun c hm => ⟨?_, ?_⟩⟩
  · intro e; subst e; simp at h1
  · intro c r e h35
    subst e
    have : c = 35 := UInt8.toNat_inj.1 h35
    subst this
    simp at h3
  · intro e; subst e; have := hc 10 hm; have : ((10 : UInt8).toNat) = 10 := rfl; omega
  · have := hc c hm
    unfold okB
    rw [dec_t (show 32 ≤ (c.toNat : Int) by omega), dec_t (show (c.toNat : Int) ≤ 126 by omega)]
    simp
theorem word_chars (a : List UInt8) (k : Bool) : ∀ (r pre : List UInt8) (m : Nat), a = pre ++ r → r.length < m → a.length ≤ lim → g_script_Word_l2 a (some k) m (pre.length : Int) = some true → k = true ∧ ∀ c ∈ r, 33 ≤ c.toNat ∧ c.toNat ≤ 126
  | _, _, 0, _, h, _, _ => by omega
  | [], pre, m + 1, he, _, _, h => by
    subst he
    rw [g_script_Word_l2, List.append_nil, dec_f (by omega)] at h
    simp only [cond_false, Option.some.injEq] at h
    exact ⟨h, fun c hc => by cases hc⟩
  | c :: r, pre, m + 1, he, h, hl, hg => by
    have h1 : (c :: r).length = r.length + 1 := rfl
    have h2 := hl
    rw [he, List.length_append, h1] at h2
    unfold lim at h2
    subst he
    rw [g_script_Word_l2, dec_t (by rw [List.length_append, h1]; omega), idx_nat (app_get pre c r)] at hg
    simp only [cond_true, bO_some] at hg
    cases hb : (decide ((c.toNat : Int) ≤ 32) || decide ((c.toNat : Int) > 126)) with
    | true => rw [hb] at hg; cases hg
    | false =>
      rw [hb, cond_false, w64_succ (by omega)] at hg
      rw [Bool.or_eq_false_iff] at hb
      have b1 := of_decide_eq_false hb.1
      have b2 := of_decide_eq_false hb.2
      have ih := word_chars (pre ++ c :: r) k r (pre ++ [c]) m (by simp) (by omega) hl (by rw [List.length_append, List.length_singleton]; exact hg)
      exact ⟨ih.1, fun x hx => by
        rcases List.mem_cons.1 hx with rfl | hx
        · omega
        · exact ih.2 x hx⟩
theorem word_gw {s : List UInt8} (hs : s.length ≤ BB) (h : wordB s = true) : gw s = true ∧ s.length ≤ 60 := by
  have h1 := (wordB_ok (le_lim hs)).1
  rw [h] at h1
  unfold g_script_Word at h1
  rw [show bytesO s = some s from if_pos (le_lim hs)] at h1
  simp only [bO_some] at h1
  obtain ⟨k, hk⟩ := word_k s
  rw [hk] at h1
  obtain ⟨rfl, h2⟩ := word_chars s k s [] FUEL rfl (fuel_lt (le_lim hs)) (le_lim hs) h1
  unfold g_script_Word_k1 at hk
  cases s with
  | nil => simp at hk
  | cons c r =>
    cases hb : (decide (((c :: r).length : Int) ≥ 1) && decide (((c :: r).length : Int) ≤ 60)) with
    | false => rw [hb] at hk; simp at hk
    | true =>
      rw [hb, show idx (c :: r) 0 = some c from rfl] at hk
      simp only [cond_true, bO_some, Bool.true_and, Option.some.injEq, bne_iff_ne] at hk
      rw [Bool.and_eq_true] at hb
      have hl := of_decide_eq_true hb.2
      refine ⟨?_, by omega⟩
      unfold gw
      rw [Bool.and_eq_true, Bool.and_eq_true]
      refine ⟨⟨by simp, List.all_eq_true.2 fun x hx => ?_⟩, ?_⟩
      · have := h2 x hx
        rw [dec_t this.1, dec_t this.2]; rfl
      · simp only [List.head?_cons, bne_iff_ne, ne_eq, Option.some.injEq]
        intro e; subst e; exact hk rfl
theorem gw_app {a b : List UInt8} (h : gw a = true) (hb : ∀ c ∈ b, 33 ≤ c.toNat ∧ c.toNat ≤ 126) : gw (a ++ b) = true := by
  unfold gw at *
  cases a with
  | nil => simp at h
  | cons c r =>
    rw [Bool.and_eq_true, Bool.and_eq_true] at h ⊢
    refine ⟨⟨by simp, ?_⟩, by simpa using h.2⟩
    rw [List.all_append, h.1.2, Bool.true_and]
    refine List.all_eq_true.2 fun x hx => ?_
    have := hb x hx
    rw [dec_t this.1, dec_t this.2]; rfl
theorem digs_gw (n : Nat) : gw (digs n) = true := by
  have h1 := digs_isD n
  obtain ⟨c, r, e, h48, h57, _⟩ := digs_head n
  unfold gw
  rw [Bool.and_eq_true, Bool.and_eq_true]
  refine ⟨⟨by rw [e]; simp, List.all_eq_true.2 fun x hx => ?_⟩, ?_⟩
  · have := h1 x hx
    rw [isD_iff, Bool.and_eq_true] at this
    have a := of_decide_eq_true this.1
    have b := of_decide_eq_true this.2
    rw [dec_t (show 33 ≤ x.toNat by omega), dec_t (show x.toNat ≤ 126 by omega)]; rfl
  · rw [e]
    simp only [List.head?_cons, bne_iff_ne, ne_eq, Option.some.injEq]
    intro e2; subst e2; have : ((35 : UInt8).toNat) = 35 := rfl; omega
theorem unit_chars {nm : List UInt8} (h : unitOf nm ≠ 0) : ∀ c ∈ nm, 33 ≤ c.toNat ∧ c.toNat ≤ 126 := by
  unfold unitOf at h
  split at h
  · subst_vars; intro c hc; cases hc
  · split at h
    · rename_i u hu
      have hm := List.mem_of_find?_eq_some hu
      have hp := List.find?_some hu
      have e : u.1 = nm := by simpa using hp
      subst e
      simp only [unitL, List.mem_cons, List.mem_nil_iff, or_false] at hm
      rcases hm with rfl | rfl | rfl | rfl | rfl | rfl | rfl | rfl <;> decide
    · exact absurd rfl h
theorem printV_gw (n : Nat) : gw (printV n) = true := by
  obtain ⟨m, k, nm, e, e2, e3, _⟩ := printV_cases n
  rw [e]
  exact gw_app (digs_gw m) (unit_chars (by omega))
theorem itoa_gw (n : Int) : gw (Lib.itoa n) = true := by
  by_cases h : 0 ≤ n
  · obtain ⟨u, rfl⟩ : ∃ u : Nat, n = u := ⟨n.toNat, by omega⟩
    rw [itoa_digs]; exact digs_gw u
  · obtain ⟨u, rfl⟩ : ∃ u : Nat, n = -(u : Int) := ⟨n.natAbs, by omega⟩
    rw [Lib.itoa_neg u (by omega), ← digs_dec]
    refine gw_app (a := [45]) rfl fun c hc => ?_
    have := digs_isD u c hc
    rw [isD_iff, Bool.and_eq_true] at this
    have a := of_decide_eq_true this.1
    have b := of_decide_eq_true this.2
    omega
theorem itoa_len {n : Int} (h : I64 n) : (Lib.itoa n).length ≤ 20 := by
  unfold I64 at h
  by_cases h0 : 0 ≤ n
  · obtain ⟨u, rfl⟩ : ∃ u : Nat, n = u := ⟨n.toNat, by omega⟩
    rw [itoa_digs]
    exact Nat.le_trans (digs_len u 19 (by omega) (by omega)) (by omega)
  · obtain ⟨u, rfl⟩ : ∃ u : Nat, n = -(u : Int) := ⟨n.natAbs, by omega⟩
    rw [Lib.itoa_neg u (by omega), ← digs_dec, List.length_cons]
    have := digs_len u 19 (by omega) (by omega)
    omega
theorem prN_len {n : Int} (h : I64 n) : (prN n).length ≤ 21 := printV_len _ (by unfold I64 at h; omega)
theorem shT_ok {x : Nat} (h : F64b x) : (shT x).length ≤ 21 ∧ (shB x = true → gw (shT x) = true) := by
  have h1 := (shV_ok h).1
  generalize shT x = t at *
  generalize shB x = b at *
  unfold g_script_Show at h1
  rw [edge_ok h] at h1
  simp only [bO_some] at h1
  cases k1 : kindV x == 1 with
  | true => rw [k1] at h1; cases h1; exact ⟨by simp, fun _ => rfl⟩
  | false =>
    cases k2 : kindV x == 7 with
    | true => rw [k1, k2] at h1; cases h1; exact ⟨by simp, fun _ => rfl⟩
    | false =>
      cases k3 : kindV x == 2 with
      | true => rw [k1, k2, k3] at h1; cases h1; exact ⟨by simp, fun _ => rfl⟩
      | false =>
        cases k4 : kindV x == 4 with
        | true => rw [k1, k2, k3, k4] at h1; cases h1; exact ⟨by simp, fun _ => rfl⟩
        | false =>
          rw [k1, k2, k3, k4] at h1
          simp only [cond_false] at h1
          obtain ⟨v, hv, h1⟩ := bI h1
          cases hb : ((fLt x 0 || fGt x 4845873199050653696) || fNe x v) with
          | true => rw [hb] at h1; cases h1; exact ⟨by simp, fun e => by cases e⟩
          | false =>
            rw [hb] at h1
            simp only [cond_false] at h1
            obtain ⟨z, hz, h1⟩ := bI h1
            have hz2 : z ≤ 9223372036854775807 := by
              unfold f2i at hz
              split at hz
              · split at hz
                · rename_i hr
                  cases hz
                  exact hr.2
                · cases hz
              · cases hz
            rw [print_ok hz2] at h1
            cases h1
            exact ⟨printV_len _ (by omega), fun _ => printV_gw _⟩
/-! A line's words. -/
def WordOk (w : List UInt8) : Prop := gw w = true ∧ w.length ≤ 70
theorem podT_good {a : SAct} (ha : ActB a) (hg : podG a.pod = true) : ∀ w ∈ podT a.pod, WordOk w := by
  unfold podG at hg
  simp only [Bool.not_eq_true', Bool.or_eq_false_iff] at hg
  obtain ⟨⟨⟨⟨⟨g1, g2⟩, g3⟩, g4⟩, g5⟩, g6⟩ := hg
  have hp : ∀ n : Int, I64 n → WordOk (prN n) := fun n hn => ⟨printV_gw _, by have := prN_len hn; omega⟩
  intro w hw
  unfold podT at hw
  rw [List.mem_append, List.mem_append] at hw
  rcases hw with (hw | hw) | hw
  · simp only [List.mem_cons, List.mem_nil_iff, or_false] at hw
    rcases hw with rfl | rfl | rfl | rfl | rfl
    · have := word_gw ha.pid (by simpa using g1); exact ⟨this.1, by omega⟩
    · have := word_gw ha.image (by simpa using g2); exact ⟨this.1, by omega⟩
    · exact hp _ ha.size
    · exact ⟨itoa_gw _, by have := itoa_len ha.prio; omega⟩
    · split <;> exact ⟨rfl, by decide⟩
  · obtain ⟨n, hn, rfl⟩ := List.mem_map.1 hw
    simp only [v3l, List.mem_cons, List.mem_nil_iff, or_false] at hn
    rcases hn with rfl | rfl | rfl
    · exact hp _ ha.req.a
    · exact hp _ ha.req.b
    · exact hp _ ha.req.c
  · split at hw
    · cases hw
    · obtain ⟨n, hn, rfl⟩ := List.mem_map.1 hw
      simp only [v3l, List.mem_cons, List.mem_nil_iff, or_false] at hn
      rcases hn with rfl | rfl | rfl
      · exact hp _ ha.lim.a
      · exact hp _ ha.lim.b
      · exact hp _ ha.lim.c
theorem amsT_good {v : V3 Nat} (hv : V3p F64b v) (h : amsB v = true) : ∀ w ∈ amsT v, WordOk w := by
  unfold amsB at h
  rw [Bool.and_eq_true, Bool.and_eq_true] at h
  intro w hw
  simp only [amsT, List.mem_cons, List.mem_nil_iff, or_false] at hw
  rcases hw with rfl | rfl | rfl
  · have := shT_ok hv.a; exact ⟨this.2 h.1.1, by omega⟩
  · have := shT_ok hv.b; exact ⟨this.2 h.1.2, by omega⟩
  · have := shT_ok hv.c; exact ⟨this.2 h.2, by omega⟩
theorem actT_good {a : SAct} (ha : ActB a) (hg : actG a = true) : actT a ≠ [] ∧ ∀ w ∈ actT a, WordOk w := by
  unfold actG at hg
  rw [Bool.and_eq_true] at hg
  obtain ⟨_, hg⟩ := hg
  unfold actT
  have c0 : ∀ {w : List UInt8} {r : List (List UInt8)}, WordOk w → (∀ x ∈ r, WordOk x) → ∀ x ∈ w :: r, WordOk x := by
    intro w r h1 h2 x hx
    rcases List.mem_cons.1 hx with rfl | hx
    · exact h1
    · exact h2 x hx
  split at hg
  · rename_i h1
    rw [if_pos h1]
    exact ⟨by simp, c0 ⟨rfl, by decide⟩ (podT_good ha hg)⟩
  · rename_i h1
    rw [if_neg h1]
    split at hg
    · rename_i h2
      rw [if_pos h2]
      have := word_gw ha.id hg
      exact ⟨by simp, c0 ⟨rfl, by decide⟩ (c0 ⟨this.1, by omega⟩ (fun x hx => by cases hx))⟩
    · rename_i h2
      rw [if_neg h2]
      split at hg
      · rename_i h3
        rw [if_pos h3]
        exact ⟨by simp, c0 ⟨rfl, by decide⟩ (fun x hx => by cases hx)⟩
      · rename_i h3
        rw [if_neg h3]
        split at hg
        · rename_i h4
          rw [if_pos h4]
          rw [Bool.and_eq_true, Bool.and_eq_true] at hg
          obtain ⟨⟨g1, g2⟩, g3⟩ := hg
          refine ⟨by simp, c0 ⟨rfl, by decide⟩ (c0 ⟨itoa_gw _, by have := itoa_len ha.time; omega⟩ fun x hx => ?_)⟩
          rcases List.mem_append.1 hx with hx | hx
          · exact amsT_good ha.avail g2 x hx
          · unfold usesT at hx
            obtain ⟨u, hu, hx⟩ := List.mem_flatMap.1 hx
            obtain ⟨b1, b2⟩ := ha.use u hu
            have g := List.all_eq_true.1 g3 u hu
            rw [Bool.and_eq_true] at g
            rcases List.mem_cons.1 hx with rfl | hx
            · have := word_gw b1 g.1; exact ⟨this.1, by omega⟩
            · exact amsT_good b2 g.2 x hx
        · rename_i h4
          rw [if_neg h4]
          split at hg
          · rename_i h5
            rw [if_pos h5]
            refine ⟨by simp, c0 ⟨rfl, by decide⟩ fun x hx => ?_⟩
            obtain ⟨w, _, rfl⟩ := List.mem_map.1 hx
            split <;> exact ⟨rfl, by decide⟩
          · rename_i h5
            rw [if_neg h5]
            split at hg
            · rename_i h6
              rw [if_pos h6]
              refine ⟨by simp, c0 ⟨rfl, by decide⟩ (c0 ⟨itoa_gw _, by have := itoa_len ha.steps; omega⟩ fun x hx => ?_)⟩
              obtain ⟨n, hn, rfl⟩ := List.mem_map.1 hx
              exact ⟨itoa_gw _, by have := itoa_len (ha.keep n hn); omega⟩
            · cases hg
end
section
open Go.RowKit

def bl (ws : List (List UInt8)) : List UInt8 := ws.flatMap fun v => 32 :: v
theorem wT_cons (w : List UInt8) (r : List (List UInt8)) : wT (w :: r) = w ++ bl r := rfl
theorem bl_cons (a : List UInt8) (b : List (List UInt8)) : bl (a :: b) = 32 :: (a ++ bl b) := by simp [bl]
theorem bl_nil : bl [] = [] := rfl
theorem bl_len (ws : List (List UInt8)) (h : ∀ w ∈ ws, w.length ≤ 70) : (bl ws).length ≤ 71 * ws.length := by
  induction ws with
  | nil => simp [bl]
  | cons a r ih =>
    rw [bl_cons]
    have := ih fun w hw => h w (List.mem_cons_of_mem _ hw)
    have := h a (List.mem_cons_self ..)
    simp only [List.length_cons, List.length_append]
    omega
/-! A sample's line. -/
/-! Texts. -/
theorem actT_len {a : SAct} (ha : ActB a) (hg : actG a = true) : (wT (actT a)).length + 1 ≤ 20000000 := by
  obtain ⟨hne, hw⟩ := actT_good ha hg
  have hl : (actT a).length ≤ 280020 := by
    have u1 := ha.uses
    have u2 := ha.wells
    have u3 := ha.keeps
    unfold BB at u1 u2 u3
    have hp := podT_len a.pod
    have hu : ∀ l : List SUsage, (usesT l).length = 4 * l.length := by
      intro l
      induction l with
      | nil => rfl
      | cons x r ih => unfold usesT at *; rw [List.flatMap_cons, List.length_append, ih]; simp [amsT]; omega
    unfold actT
    split
    · simp; omega
    · split
      · simp
      · split
        · simp
        · split
          · simp [amsT, hu]; omega
          · split
            · simp; omega
            · split
              · simp; omega
              · simp
  cases h : actT a with
  | nil => exact absurd h hne
  | cons w r =>
    rw [h] at hl hw
    rw [wT_cons]
    have h1 := (hw w (List.mem_cons_self ..)).2
    have h2 := bl_len r fun x hx => (hw x (List.mem_cons_of_mem _ hx)).2
    simp only [List.length_cons, List.length_append] at *
    omega
def allG (l : List SAct) : Bool := l.all actG
/-! The program's text. -/
theorem wr_ok {l t : List UInt8} (h1 : l ++ t ≠ []) (h2 : l.length + t.length ≤ lim) : wrO l t = some (l ++ t) := by
  unfold wrO
  rw [if_neg h1, appO_eq h2]
theorem join_words (v : List SField) (hv : v.length ≤ BB) (hne : ∀ f ∈ v, f.text ≠ []) (k : Bool → List UInt8 → Option (List UInt8)) (hk : ∀ s, s ≠ [] → ∀ b, k b s = k true s) : ∀ (m : Nat) (r pre : List SField) (s : List UInt8) (b : Bool), v = pre ++ r → r.length < m → 1 ≤ pre.length → s ≠ [] → s.length + (bl (txs r)).length ≤ lim →
    g_lex_Join_l5 v k m b s (pre.length : Int) = k true (s ++ bl (txs r))
  | 0, _, _, _, _, _, h, _, _, _ => by omega
  | m + 1, [], pre, s, b, he, _, _, hs, _ => by
    rw [g_lex_Join_l5, he, List.append_nil, dec_f (by omega)]
    simp only [cond_false, txs, List.map_nil, bl_nil, List.append_nil]
    exact hk s hs b
  | m + 1, f :: r, pre, s, b, he, hm, hp, hs, hl => by
    have hlen : v.length = pre.length + (r.length + 1) := by rw [he]; simp
    unfold BB at hv
    have ht : txs (f :: r) = f.text :: txs r := rfl
    rw [ht, bl_cons] at hl ⊢
    simp only [List.length_cons, List.length_append] at hl hm
    rw [g_lex_Join_l5, dec_t (by omega), idx_nat (show v[pre.length]? = some f by rw [he]; exact app_get pre f _)]
    simp only [cond_true, bO_some]
    rw [dec_t (by omega), wr_ok (by simp) (by simp; omega)]
    simp only [cond_true, bO_some]
    unfold g_lex_Join_k6
    rw [wr_ok (by simp) (by simp; omega)]
    simp only [bO_some]
    rw [w64_succ (by omega)]
    have ih := join_words v (by unfold BB; exact hv) hne k hk m r (pre ++ [f]) (s ++ [32] ++ f.text) true (by rw [he]; simp) (by omega) (by simp) (by simp [hs]) (by simp; omega)
    rw [List.length_append, List.length_singleton] at ih
    rw [ih]
    simp
theorem join_lines (x : List (List SField)) (hx : ∀ fs ∈ x, fs ≠ [] ∧ fs.length ≤ BB ∧ ∀ f ∈ fs, f.text ≠ []) (h3 : x.length ≤ lim) : ∀ (m : Nat) (r pre : List (List SField)) (s : List UInt8) (b : Bool), x = pre ++ r → r.length < m → s.length + (jT (r.map txs)).length ≤ lim → (1 ≤ pre.length → s ≠ []) →
    g_lex_Join_l2 x g_lex_Join_k1 m b s (pre.length : Int) = some (s ++ jT (r.map txs))
  | 0, _, _, _, _, _, h, _, _ => by omega
  | m + 1, [], pre, s, b, he, _, hl, _ => by
    rw [g_lex_Join_l2, he, List.append_nil, dec_f (by omega)]
    simp only [cond_false, g_lex_Join_k1]
    rw [show bytesO s = some s from if_pos (by omega)]
    simp [jT]
  | m + 1, fs :: r, pre, s, b, he, hm, hl, hs => by
    have hlen : x.length = pre.length + (r.length + 1) := by rw [he]; simp
    unfold lim at h3
    obtain ⟨h1, h2, h4⟩ := hx fs (by rw [he]; simp)
    simp only [List.length_cons] at hm
    rw [g_lex_Join_l2, dec_t (by omega), idx_nat (show x[pre.length]? = some fs by rw [he]; exact app_get pre fs _)]
    simp only [cond_true, bO_some]
    cases fs with
    | nil => exact absurd rfl h1
    | cons f q =>
      have hj : jT (((f :: q) :: r).map txs) = f.text ++ bl (txs q) ++ [10] ++ jT (r.map txs) := by simp [jT, txs, wT, bl]
      rw [hj] at hl ⊢
      simp only [List.length_append, List.length_singleton] at hl
      have hf := h4 f (List.mem_cons_self ..)
      rw [FUEL2, g_lex_Join_l5, dec_t (by simp), show idx (f :: q) 0 = some f from rfl]
      simp only [cond_true, bO_some]
      rw [dec_f (by omega)]
      simp only [cond_false]
      unfold g_lex_Join_k6
      rw [wr_ok (by simp [hf]) (by omega)]
      simp only [bO_some]
      have hB := h2
      unfold BB at hB
      simp only [List.length_cons] at hB
      have hw := join_words (f :: q) h2 h4 (g_lex_Join_k4 (pre.length : Int) (g_lex_Join_l2 x g_lex_Join_k1 m)) (fun s hs b => rfl) (18446744073709551614 + 1) q [f] (s ++ f.text) true rfl (by omega) (by simp) (by simp [hf]) (by simp; omega)
      have hw : g_lex_Join_l5 (f :: q) (g_lex_Join_k4 (pre.length : Int) (g_lex_Join_l2 x g_lex_Join_k1 m)) (18446744073709551614 + 1) true (s ++ f.text) (w64 (0 + 1)) = _ := hw
      rw [hw]
      unfold g_lex_Join_k4
      rw [wr_ok (by simp) (by simp; omega)]
      simp only [bO_some]
      unfold g_lex_Join_k3
      rw [w64_succ (by omega)]
      have ih := join_lines x hx (by unfold lim; exact h3) m r (pre ++ [f :: q]) (s ++ f.text ++ bl (txs q) ++ [10]) true (by rw [he]; simp) (by omega) (by simp; omega) (fun _ => by simp)
      rw [List.length_append, List.length_singleton] at ih
      rw [ih]
      simp
theorem join_ok2 {x : List (List SField)} (hx : ∀ fs ∈ x, fs ≠ [] ∧ fs.length ≤ BB ∧ ∀ f ∈ fs, f.text ≠ []) (hl : (jT (x.map txs)).length ≤ lim) (h3 : x.length ≤ lim) : g_lex_Join x = some (jT (x.map txs)) :=
  join_lines x hx h3 FUEL x [] [] false rfl (fuel_lt h3) (by simpa using hl) (by simp)
end
section
open Go.RowKit

/-! The program's text. -/
/-- Acts that may be printed. -/
structure Prt (l : List SAct) : Prop where
  b : ∀ a ∈ l, ActB a
  n : l.length ≤ 3300
  w : ∀ a ∈ l, (actT a).length ≤ BB
theorem usesT_len (l : List SUsage) : (usesT l).length = 4 * l.length := by
  induction l with
  | nil => rfl
  | cons x r ih => unfold usesT at *; rw [List.flatMap_cons, List.length_append, ih]; simp [amsT]; omega
theorem actT_short {a : SAct} (h1 : a.raw.use.length ≤ 10000) (h2 : a.well.length ≤ 10000) (h3 : a.keep.length ≤ 10000) : (actT a).length ≤ BB := by
  have hp := podT_len a.pod
  unfold BB actT
  split
  · simp; omega
  · split
    · simp
    · split
      · simp
      · split
        · simp [amsT, usesT_len]; omega
        · split
          · simp; omega
          · split
            · simp; omega
            · simp
theorem txs_mkF (ws : List (List UInt8)) : txs (ws.map mkF) = ws := by simp [txs, mkF, Function.comp_def]
theorem jT_lim {l : List SAct} (h : Prt l) (hg : allG l = true) : (jT (l.map actT)).length ≤ lim := by
  have key : ∀ r : List SAct, (∀ a ∈ r, ActB a) → allG r = true → (jT (r.map actT)).length ≤ 20000000 * r.length := by
    intro r
    induction r with
    | nil => intro _ _; simp [jT]
    | cons a r ih =>
      intro hb hg
      have hag : allG (a :: r) = (actG a && allG r) := rfl
      rw [hag, Bool.and_eq_true] at hg
      have := ih (fun x hx => hb x (List.mem_cons_of_mem _ hx)) hg.2
      have := actT_len (hb a (List.mem_cons_self ..)) hg.1
      rw [List.map_cons, show jT (actT a :: r.map actT) = wT (actT a) ++ [10] ++ jT (r.map actT) by simp [jT]]
      simp only [List.length_append, List.length_cons, List.length_nil] at *
      omega
  have := key l h.b hg
  have := h.n
  unfold lim; omega
theorem sprint_loop (L : List SAct) (h : Prt L) : ∀ (m : Nat) (r pre : List SAct), L = pre ++ r → r.length < m → allG pre = true →
    g_script_Print_l2 L g_script_Print_k1 m (pre.length : Int) (pre.map fun a => (actT a).map mkF) = some (if allG r then (jT (L.map actT), 0) else ([], 1))
  | 0, _, _, _, h, _ => by omega
  | m + 1, [], pre, he, _, hp => by
    rw [g_script_Print_l2, he, List.append_nil, dec_f (by omega)]
    simp only [cond_false, g_script_Print_k1]
    have hpl : pre = L := by rw [he, List.append_nil]
    subst hpl
    have e : (pre.map fun a => (actT a).map mkF).map txs = pre.map actT := by
      rw [List.map_map]
      exact List.map_congr_left fun a _ => txs_mkF _
    rw [join_ok2 (x := pre.map fun a => (actT a).map mkF) (fun fs hfs => by
      obtain ⟨a, ha, rfl⟩ := List.mem_map.1 hfs
      obtain ⟨g1, g2⟩ := actT_good (h.b a ha) (List.all_eq_true.1 hp a ha)
      refine ⟨fun e => g1 (List.map_eq_nil_iff.1 e), by rw [List.length_map]; exact h.w a ha, fun f hf => ?_⟩
      obtain ⟨w, hw, rfl⟩ := List.mem_map.1 hf
      exact (gw_good (g2 w hw).1).1.1) (by rw [e]; exact jT_lim h hp) (by have := h.n; rw [List.length_map]; unfold lim; omega), e]
    rfl
  | m + 1, a :: r, pre, he, hm, hp => by
    have hlen : L.length = pre.length + (r.length + 1) := by rw [he]; simp
    have hn := h.n
    simp only [List.length_cons] at hm
    rw [g_script_Print_l2, dec_t (by omega), idx_nat (show L[pre.length]? = some a by rw [he]; exact app_get pre a _)]
    simp only [cond_true, bO_some]
    rw [write_ok (h.b a (by rw [he]; simp))]
    simp only [bO_some]
    have hag : allG (a :: r) = (actG a && allG r) := rfl
    rw [hag]
    cases hb : actG a with
    | false => rfl
    | true =>
      simp only [Bool.not_true, cond_false, Bool.true_and]
      rw [appO_eq (by rw [List.length_map, List.length_singleton]; unfold lim; omega)]
      simp only [bO_some]
      rw [w64_succ (by omega)]
      have ih := sprint_loop L h m r (pre ++ [a]) (by rw [he]; simp) (by omega) (by unfold allG at *; rw [List.all_append, hp]; simp [hb])
      rw [List.length_append, List.length_singleton, List.map_append] at ih
      exact ih
theorem sprint_ok {L : List SAct} (h : Prt L) : g_script_Print L = some (if allG L then (jT (L.map actT), 0) else ([], 1)) :=
  sprint_loop L h FUEL L [] rfl (fuel_lt (by have := h.n; unfold lim; omega)) rfl
end
section
open Go.RowKit

theorem kpL_ok (k : Option Bool) (n : Nat) (hn : n ≤ 3000) : ∀ (d i m : Nat) (xs : List UInt8), xs.length = n → i + d = n → d < m → kpL k n m (i : Int) xs = k
  | _, _, 0, _, _, _, h => by omega
  | 0, i, m + 1, xs, _, hi, _ => by rw [kpL, dec_f (by omega)]; rfl
  | d + 1, i, m + 1, xs, hl, hi, hm => by
    have hx : xs[i]? = some xs[i] := by simp
    rw [kpL, dec_t (by omega), idx_nat hx]
    simp only [cond_true, bO_some]
    rw [w64_succ (by omega)]
    exact kpL_ok k n hn d (i + 1) m _ (by rw [List.length_set]; exact hl) (by omega) (by omega)
theorem usesR_cnt : ∀ (us : List (List UInt8)) (u : List SUsage), (∀ s ∈ us, s.length ≤ BB) → usesR us = some u → u.length ≤ us.length := fun us u h1 h2 => (usesR_self us u h1 h2).2
def Cnt (k : Nat) (a : SAct) : Prop := a.raw.use.length ≤ k ∧ a.well.length ≤ k ∧ a.keep.length ≤ k
theorem cnt0 {k : Nat} {d s : Int} {p : SPod} {i : List UInt8} {w : List Bool} {l : List Int} (hw : w.length ≤ k) (hk : l.length ≤ k) : Cnt k ⟨d, p, i, raw0, w, s, l⟩ := ⟨Nat.zero_le _, hw, hk⟩
theorem lineV_cnt {ts : List (List UInt8)} (ho : OKT ts) {a : SAct} (h : lineV ts = some a) : Cnt ts.length a := by
  cases ts with
  | nil => cases h
  | cons t ts =>
    replace h : lineW t ts = some a := h
    unfold lineW at h
    split at h
    · unfold admV at h
      split at h
      · cases h; exact cnt0 (by simp) (by simp)
      · cases h
    · split at h
      · unfold delV at h
        split at h
        · rw [Option.map_eq_some_iff] at h
          obtain ⟨_, _, rfl⟩ := h
          exact cnt0 (by simp) (by simp)
        · cases h
      · split at h
        · split at h
          · cases h; exact cnt0 (by simp) (by simp)
          · cases h
        · split at h
          · rw [Option.map_eq_some_iff] at h
            obtain ⟨r, hq, rfl⟩ := h
            replace h := hq
            clear hq
            unfold rawV at h
            split at h
            · rename_i n x y z us
              rw [Option.bind_eq_some_iff] at h
              obtain ⟨n', h1, h⟩ := h
              rw [Option.bind_eq_some_iff] at h
              obtain ⟨a', h2, h⟩ := h
              rw [Option.bind_eq_some_iff] at h
              obtain ⟨b', h3, h⟩ := h
              rw [Option.bind_eq_some_iff] at h
              obtain ⟨c', h4, h⟩ := h
              rw [Option.map_eq_some_iff] at h
              obtain ⟨v, h, rfl⟩ := h
              have hin : ∀ s ∈ (t :: n :: x :: y :: z :: us), s.length ≤ BB := ho.2
              have hu := usesR_cnt us v (fun s hs => hin s (by simp [hs])) h
              exact ⟨by show v.length ≤ _; simp only [List.length_cons]; omega, Nat.zero_le _, Nat.zero_le _⟩
            · cases h
          · split at h
            · rw [Option.map_eq_some_iff] at h
              obtain ⟨u, hq, rfl⟩ := h
              have := allV_len _ _ _ hq
              exact cnt0 (by simp only [List.length_cons]; omega) (by simp)
            · split at h
              · unfold craV at h
                split at h
                · rename_i n ks
                  rw [Option.bind_eq_some_iff] at h
                  obtain ⟨n', h1, h⟩ := h
                  rw [Option.map_eq_some_iff] at h
                  obtain ⟨u, h, rfl⟩ := h
                  have := allV_len _ _ _ h
                  exact cnt0 (by simp) (by simp only [List.length_cons]; omega)
                · cases h
              · cases h
theorem readGo_pick : ∀ (L : List (List SField)) (acc : List SAct), ∀ a ∈ (readGo L acc).1, a ∈ acc ∨ ∃ fs ∈ L, lineV (txs fs) = some a
  | [], acc, a, h => .inl h
  | fs :: r, acc, a, h => by
    unfold readGo at h
    split at h
    · cases h
    · rename_i x hx
      rcases readGo_pick r (acc ++ [x]) a h with h | ⟨g, hg, h⟩
      · rcases List.mem_append.1 h with h | h
        · exact .inl h
        · rw [List.mem_singleton] at h; subst h
          exact .inr ⟨fs, List.mem_cons_self .., hx⟩
      · exact .inr ⟨g, List.mem_cons_of_mem _ hg, h⟩
theorem readGo_cnt : ∀ (L : List (List SField)) (acc : List SAct), (readGo L acc).1.length ≤ acc.length + L.length
  | [], acc => by simp [readGo]
  | fs :: r, acc => by
    unfold readGo
    split
    · simp
    · have := readGo_cnt r (acc ++ [‹SAct›])
      simp only [List.length_append, List.length_cons, List.length_nil] at *
      omega
theorem lines_cnt {b : List UInt8} (h : readableB b = true) (hb : b.length ≤ 3000) : (toLL (lexLines b)).length ≤ 3001 ∧ ∀ fs ∈ toLL (lexLines b), fs.length ≤ 3001 := by
  unfold lexLines
  rw [if_pos h]
  constructor
  · have := lexFrom_le (splitNl b) 1
    have := splitNl_le b
    unfold toLL
    rw [List.length_map]; omega
  · intro fs hfs
    unfold toLL at hfs
    obtain ⟨g, hg, rfl⟩ := List.mem_map.1 hfs
    obtain ⟨s, hs, m, rfl, hne⟩ := lexFrom_mem _ _ g hg
    have hw := words_len s m 0
    obtain ⟨k, hk⟩ := List.getElem?_of_mem hs
    have hsl := splitNl_mem b k s hk
    have := len_sum ((scan m 0 s).map fun f => f.text.length + 1) (fun x hx => by
      obtain ⟨f, _, rfl⟩ := List.mem_map.1 hx; omega)
    rw [List.length_map] at this
    rw [List.length_map]; omega
theorem readV_prt {b : List UInt8} (hb : b.length ≤ 3000) : Prt (readV b).1 ∧ allG (readV b).1 = true := by
  obtain ⟨h1, _⟩ := readV_from (b := b)
  have hr : ∀ a ∈ (readV b).1, ActB a ∧ actG a = true := fun a ha => by
    obtain ⟨ts, ho, h⟩ := h1 a ha
    exact lineV_right ho h
  refine ⟨⟨fun a ha => (hr a ha).1, ?_, fun a ha => ?_⟩, List.all_eq_true.2 fun a ha => (hr a ha).2⟩
  · unfold readV
    split
    · rename_i hq
      have := readGo_cnt (toLL (lexLines b)) []
      have := (lines_cnt hq hb).1
      simp only [List.length_nil] at *
      omega
    · simp
  · unfold readV at ha
    split at ha
    · rename_i hq
      rcases readGo_pick _ _ a ha with h | ⟨fs, hfs, h⟩
      · cases h
      · have hc := (lines_cnt hq hb).2 fs hfs
        have hok := ((lines_good hq).2 fs hfs).1
        obtain ⟨c1, c2, c3⟩ := lineV_cnt (okt_txs hok) h
        have hl : (txs fs).length = fs.length := by rw [txs, List.length_map]
        exact actT_short (by omega) (by omega) (by omega)
    · cases ha
theorem jT_ge : ∀ (l : List (List (List UInt8))), l.length ≤ (jT l).length
  | [] => by simp [jT]
  | a :: r => by
    have := jT_ge r
    rw [show jT (a :: r) = wT a ++ [10] ++ jT r by simp [jT]]
    simp only [List.length_append, List.length_cons, List.length_nil]
    omega
theorem ScriptKeeps_ok (b : List UInt8) : kpG b = some true := by
  unfold kpG
  rw [awake_ok]
  simp only [bO_some, Bool.not_true, Bool.false_or]
  by_cases hl : (b.length : Int) > 3000
  · rw [dec_t hl]; rfl
  · rw [dec_f hl]
    simp only [cond_false]
    have h3 : b.length ≤ 3000 := by omega
    have hb : b.length ≤ lim := by unfold lim; omega
    rw [appO_eq (by simpa using hb), List.nil_append]
    simp only [bO_some]
    rw [sread_ok hb]
    simp only [bO_some, beq_self_eq_true, Bool.not_true, cond_false]
    rw [show (0 : Int) = ((0 : Nat) : Int) from rfl, kpL_ok _ _ h3 b.length 0 FUEL b rfl (by omega) (by unfold FUEL; omega)]
    unfold kpK
    rw [rread2_ok hb]
    simp only [bO_some]
    cases he : (readV b).2.2 != 0 with
    | true => rfl
    | false =>
      simp only [cond_false]
      obtain ⟨hp, hg⟩ := readV_prt h3
      rw [sprint_ok hp, hg, read_same]
      simp only [bO_some, if_true, beq_self_eq_true, Bool.true_and]
      have := jT_ge ((readV b).1.map actT)
      rw [List.length_map] at this
      rw [dec_t (by omega)]
theorem ScriptKeeps_any (b : List UInt8) (M : Nat → Option (List AV)) : ACall Tryz.prog 10 [.list false 5 (byteAVs b)] M (fun r M' => r = .lit (.bool true) ∧ M = M') :=
  (kpG_w (ScriptKeeps_ok b)).all M
end
end Go.Proofs.YtgphopeclplahaaGreatDoor
