/- Walks over abstract values, printed by my program av.py. -/
import Derived.Test.YtfnbfkgknfagmaaAvSN
import Derived.Test.YtfnbfkgknfagmaaAvAny2
import Derived.Test.YtfnbfkgknfagmaaFacts
import Derived.Test.YtfnbfkgknfagmaaAvZ
namespace Go.Proofs.Ytfnbfkgknfagmaa
open Go.RowKit

structure Ev where
  kind : Int
  id : List UInt8
  sig : Int
  n : Int
def encE (e : Ev) : AV := .agg [.lit (.int .i64 e.kind), .str e.id, .lit (.int .i64 e.sig), .lit (.int .i64 e.n)]
def e0 : Ev := ⟨0, [], 0, 0⟩
theorem encE_at {l : List Ev} {i : Nat} (h : i < l.length) : (l.map encE)[i]? = some (encE (l.getD i e0)) := by
  rw [List.getElem?_map, List.getD_eq_getElem?_getD, List.getElem?_eq_getElem h]; rfl
def stOn (o h m f : Bool) (n p : Int) : Bool := if f && h then true else if !o || (!f || m) then o else if n + 1 ≥ p then false else true
def stN (o h m f : Bool) (n p : Int) : Int := if f && h then 0 else if !o || (!f || m) then 0 else if n + 1 ≥ p then 0 else n + 1
theorem st_eq {a a' : Bool} {b b' : Int} (h1 : a = a') (h2 : b = b') : AV.agg [.lit (.bool a), .lit (.int .i64 b)] = .agg [.lit (.bool a'), .lit (.int .i64 b')] := by rw [h1, h2]
def rightB (o : Bool) (n p : Int) : Bool := if o then decide (n ≥ 0) && decide (n < p) else n == 0
def periodB (p : Int) : Bool := decide (p ≥ 1) && decide (p ≤ 1000)
def evL (o o' : Bool) (i : Int) : List Ev := if o' && !o then [⟨6, [], i, 0⟩] else if !o' && o then [⟨7, [], i, 0⟩] else []
theorem evL_len (o o' : Bool) (i : Int) : (evL o o' i).length ≤ 1 := by cases o <;> cases o' <;> simp [evL]
theorem evl_on {o o' : Bool} {i : Int} (h : (bif o' then !o else false) = true) : evL o o' i = [⟨6, [], i, 0⟩] := by cases o <;> cases o' <;> simp_all [evL]
theorem evl_off {o o' : Bool} {i : Int} (h : (bif o' then !o else false) = false) (h2 : (bif !o' then o else false) = true) : evL o o' i = [⟨7, [], i, 0⟩] := by cases o <;> cases o' <;> simp_all [evL]
theorem evl_no {o o' : Bool} {i : Int} (h : (bif o' then !o else false) = false) (h2 : (bif !o' then o else false) = false) : evL o o' i = [] := by cases o <;> cases o' <;> simp_all [evL]

set_option maxRecDepth 20000 in
theorem cstep_any (o h m f : Bool) (n p : Int) (hn : 0 ≤ n ∧ n ≤ 1000) (M : Nat → Option (List AV)) : ACall Try.prog 8 [.agg [zB o, zI n], zB h, zB m, zB f, zI p] M (fun r M' => r = .agg [zB (stOn o h m f n p), zI (stN o h m f n p)] ∧ M = M') := by
  refine ACall.of Try.func8 rfl (n := 38) rfl rfl rfl ?_
  refine zg ?_
  refine AOps.box trivial rfl (by decide) rfl (noL rfl) rfl (v := .agg [zB o, zI n]) (.inl ⟨rfl, rfl⟩) rfl rfl (all_flat rfl) ?_
  refine zal [] zero_23 [zB false, zI 0] ?_
  refine zN ?_
  refine AWp.seq ?_
  refine AWp.block ?_
  refine zg ?_
  refine zM (zB f) ?_
  refine zM (zB f) ?_
  refine AOps.split (t := 13) (b := f) rfl (fun h1 => ?_) (fun h1 => ?_)
  · skip
    refine zM (zB h) ?_
    refine zr (zp true (zB h)) ?_
    refine zM (zB h) ?_
    refine zN ?_
    refine zC (b := h) rfl (fun h2 => ?_) (fun h2 => ?_)
    · skip
      refine zg ?_
      refine zr (Reader.build (xs := [(0, zB true)]) (Es := []) (places := places_23) rfl Try.underlying23 (by refine ⟨rfl, fun j p x hp hx => ?_⟩; match j, hp, hx with | 0, hp, hx => cases hp; cases hx; exact ⟨rfl, .inl ⟨rfl, rfl⟩, rfl, rfl⟩ | _ + 1, hp, hx => cases hp) zero_23 rfl places_23_ok (cs := [zB true, zI 0]) rfl) ?_
      refine zst sizeOf_23 (.agg [zB true, zI 0]) ?_
      refine zN ?_
      refine AWp.ret ?_
      exact ⟨.inl rfl, _, ResOf.cell 10 10 0 2 23 _ _ (.agg [zB true, zI 0]) rfl rfl Try.underlying23 sizeOf_23 rfl rfl, ⟨st_eq (by cases o <;> cases h <;> cases m <;> cases f <;> first | rfl | contradiction | (simp [stOn, stN]; omega)) (by cases o <;> cases h <;> cases m <;> cases f <;> first | rfl | contradiction | (simp [stOn, stN]; omega)), rfl⟩⟩
    · skip
      refine AWp.seq ?_
      refine zg ?_
      refine zr (zfL Try.underlying23 sizeOf_4) ?_
      refine zr (zlL (zB o) Try.underlying4 sizeOf_4) ?_
      refine zr (zn o) ?_
      refine zM (zB (!o)) ?_
      refine zN ?_
      refine zC (b := !o) rfl (fun h3 => ?_) (fun h3 => ?_)
      · skip
        have h3k := h3
        refine AWp.skip ?_
        refine AWp.cond (b := !o) rfl (fun _ => ?_) (fun hx => absurd (hx.symm.trans h3k) (by decide))
        refine zg ?_
        refine zr (zfL Try.underlying23 sizeOf_4) ?_
        refine zr (zlL (zB o) Try.underlying4 sizeOf_4) ?_
        refine zr (Reader.build (xs := [(0, zB o)]) (Es := []) (places := places_23) rfl Try.underlying23 (by refine ⟨rfl, fun j p x hp hx => ?_⟩; match j, hp, hx with | 0, hp, hx => cases hp; cases hx; exact ⟨rfl, .inl ⟨rfl, rfl⟩, rfl, rfl⟩ | _ + 1, hp, hx => cases hp) zero_23 rfl places_23_ok (cs := [zB o, zI 0]) rfl) ?_
        refine zst sizeOf_23 (.agg [zB o, zI 0]) ?_
        refine zN ?_
        refine AWp.ret ?_
        exact ⟨.inl rfl, _, ResOf.cell 10 10 0 2 23 _ _ (.agg [zB o, zI 0]) rfl rfl Try.underlying23 sizeOf_23 rfl rfl, ⟨st_eq (by cases o <;> cases h <;> cases m <;> cases f <;> first | rfl | contradiction | (simp [stOn, stN]; omega)) (by cases o <;> cases h <;> cases m <;> cases f <;> first | rfl | contradiction | (simp [stOn, stN]; omega)), rfl⟩⟩
      · skip
        have h3k := h3
        refine zg ?_
        refine zM (zB f) ?_
        refine zr (zn f) ?_
        refine zM (zB (!f)) ?_
        refine zN ?_
        refine zC (b := !f) rfl (fun h4 => ?_) (fun h4 => ?_)
        · skip
          have h4k := h4
          refine AWp.skip ?_
          refine AWp.cond (b := !f) rfl (fun _ => ?_) (fun hx => absurd (hx.symm.trans h4k) (by decide))
          refine zg ?_
          refine zr (zfL Try.underlying23 sizeOf_4) ?_
          refine zr (zlL (zB o) Try.underlying4 sizeOf_4) ?_
          refine zr (Reader.build (xs := [(0, zB o)]) (Es := []) (places := places_23) rfl Try.underlying23 (by refine ⟨rfl, fun j p x hp hx => ?_⟩; match j, hp, hx with | 0, hp, hx => cases hp; cases hx; exact ⟨rfl, .inl ⟨rfl, rfl⟩, rfl, rfl⟩ | _ + 1, hp, hx => cases hp) zero_23 rfl places_23_ok (cs := [zB o, zI 0]) rfl) ?_
          refine zst sizeOf_23 (.agg [zB o, zI 0]) ?_
          refine zN ?_
          refine AWp.ret ?_
          exact ⟨.inl rfl, _, ResOf.cell 10 10 0 2 23 _ _ (.agg [zB o, zI 0]) rfl rfl Try.underlying23 sizeOf_23 rfl rfl, ⟨st_eq (by cases o <;> cases h <;> cases m <;> cases f <;> first | rfl | contradiction | (simp [stOn, stN]; omega)) (by cases o <;> cases h <;> cases m <;> cases f <;> first | rfl | contradiction | (simp [stOn, stN]; omega)), rfl⟩⟩
        · skip
          have h4k := h4
          refine AWp.region ?_
          refine zM (zB m) ?_
          refine zM (zB m) ?_
          refine zN ?_
          refine zC (b := m) rfl (fun h5 => ?_) (fun h5 => ?_)
          · skip
            have h5k := h5
            refine zg ?_
            refine zr (zfL Try.underlying23 sizeOf_4) ?_
            refine zr (zlL (zB o) Try.underlying4 sizeOf_4) ?_
            refine zr (Reader.build (xs := [(0, zB o)]) (Es := []) (places := places_23) rfl Try.underlying23 (by refine ⟨rfl, fun j p x hp hx => ?_⟩; match j, hp, hx with | 0, hp, hx => cases hp; cases hx; exact ⟨rfl, .inl ⟨rfl, rfl⟩, rfl, rfl⟩ | _ + 1, hp, hx => cases hp) zero_23 rfl places_23_ok (cs := [zB o, zI 0]) rfl) ?_
            refine zst sizeOf_23 (.agg [zB o, zI 0]) ?_
            refine zN ?_
            refine AWp.ret ?_
            exact ⟨.inl rfl, _, ResOf.cell 10 10 0 2 23 _ _ (.agg [zB o, zI 0]) rfl rfl Try.underlying23 sizeOf_23 rfl rfl, ⟨st_eq (by cases o <;> cases h <;> cases m <;> cases f <;> first | rfl | contradiction | (simp [stOn, stN]; omega)) (by cases o <;> cases h <;> cases m <;> cases f <;> first | rfl | contradiction | (simp [stOn, stN]; omega)), rfl⟩⟩
          · skip
            have h5k := h5
            refine zg ?_
            refine zr (zfL Try.underlying23 sizeOf_3) ?_
            refine zr (zlL (zI n) Try.underlying3 sizeOf_3) ?_
            refine zr (zw (n + 1) (n + 1)) ?_
            refine zM (zI p) ?_
            refine zr (zi (decide (n + 1 ≥ p))) ?_
            refine zM (zB (decide (n + 1 ≥ p))) ?_
            refine zN ?_
            refine zC (b := decide (n + 1 ≥ p)) rfl (fun h6 => ?_) (fun h6 => ?_)
            · skip
              have h6' : (n + 1) ≥ p := (by have hh := of_decide_eq_true h6; omega)
              clear h6
              refine zg ?_
              refine zr (Reader.build (xs := []) (Es := []) (places := places_23) rfl Try.underlying23 (by refine ⟨rfl, fun j p x hp hx => ?_⟩; match j, hp, hx with | _ + 0, hp, hx => cases hp) zero_23 rfl places_23_ok (cs := [zB false, zI 0]) rfl) ?_
              refine zst sizeOf_23 (.agg [zB false, zI 0]) ?_
              refine zN ?_
              refine AWp.ret ?_
              exact ⟨.inl rfl, _, ResOf.cell 10 10 0 2 23 _ _ (.agg [zB false, zI 0]) rfl rfl Try.underlying23 sizeOf_23 rfl rfl, ⟨st_eq (by cases o <;> cases h <;> cases m <;> cases f <;> first | rfl | contradiction | (simp [stOn, stN]; omega)) (by cases o <;> cases h <;> cases m <;> cases f <;> first | rfl | contradiction | (simp [stOn, stN]; omega)), rfl⟩⟩
            · skip
              have h6' : ¬ ((n + 1) ≥ p) := (by have hh := of_decide_eq_false h6; omega)
              clear h6
              refine AWp.skip ?_
              refine zg ?_
              refine zr (zfL Try.underlying23 sizeOf_3) ?_
              refine zr (zlL (zI n) Try.underlying3 sizeOf_3) ?_
              refine zr (zw (n + 1) (n + 1)) ?_
              refine zr (Reader.build (xs := [(0, zB true), (1, zI (n + 1))]) (Es := []) (places := places_23) rfl Try.underlying23 (by refine ⟨rfl, fun j p x hp hx => ?_⟩; match j, hp, hx with | 0, hp, hx => cases hp; cases hx; exact ⟨rfl, .inl ⟨rfl, rfl⟩, rfl, rfl⟩ | 1, hp, hx => cases hp; cases hx; exact ⟨rfl, .inl ⟨rfl, rfl⟩, rfl, rfl⟩ | _ + 2, hp, hx => cases hp) zero_23 rfl places_23_ok (cs := [zB true, zI (n + 1)]) rfl) ?_
              refine zst sizeOf_23 (.agg [zB true, zI (n + 1)]) ?_
              refine zN ?_
              refine AWp.ret ?_
              exact ⟨.inl rfl, _, ResOf.cell 10 10 0 2 23 _ _ (.agg [zB true, zI (n + 1)]) rfl rfl Try.underlying23 sizeOf_23 rfl rfl, ⟨st_eq (by cases o <;> cases h <;> cases m <;> cases f <;> first | rfl | contradiction | (simp [stOn, stN]; omega)) (by cases o <;> cases h <;> cases m <;> cases f <;> first | rfl | contradiction | (simp [stOn, stN]; omega)), rfl⟩⟩
  · skip
    refine zs ?_
    refine zr (zp false (zB false)) ?_
    refine zM (zB false) ?_
    refine zN ?_
    refine AWp.cond (b := false) rfl (fun hx => by cases hx) (fun hx => ?_)
    refine AWp.seq ?_
    refine zg ?_
    refine zr (zfL Try.underlying23 sizeOf_4) ?_
    refine zr (zlL (zB o) Try.underlying4 sizeOf_4) ?_
    refine zr (zn o) ?_
    refine zM (zB (!o)) ?_
    refine zN ?_
    refine zC (b := !o) rfl (fun h7 => ?_) (fun h7 => ?_)
    · skip
      have h7k := h7
      refine AWp.skip ?_
      refine AWp.cond (b := !o) rfl (fun _ => ?_) (fun hx => absurd (hx.symm.trans h7k) (by decide))
      refine zg ?_
      refine zr (zfL Try.underlying23 sizeOf_4) ?_
      refine zr (zlL (zB o) Try.underlying4 sizeOf_4) ?_
      refine zr (Reader.build (xs := [(0, zB o)]) (Es := []) (places := places_23) rfl Try.underlying23 (by refine ⟨rfl, fun j p x hp hx => ?_⟩; match j, hp, hx with | 0, hp, hx => cases hp; cases hx; exact ⟨rfl, .inl ⟨rfl, rfl⟩, rfl, rfl⟩ | _ + 1, hp, hx => cases hp) zero_23 rfl places_23_ok (cs := [zB o, zI 0]) rfl) ?_
      refine zst sizeOf_23 (.agg [zB o, zI 0]) ?_
      refine zN ?_
      refine AWp.ret ?_
      exact ⟨.inl rfl, _, ResOf.cell 10 10 0 2 23 _ _ (.agg [zB o, zI 0]) rfl rfl Try.underlying23 sizeOf_23 rfl rfl, ⟨st_eq (by cases o <;> cases h <;> cases m <;> cases f <;> first | rfl | contradiction | (simp [stOn, stN]; omega)) (by cases o <;> cases h <;> cases m <;> cases f <;> first | rfl | contradiction | (simp [stOn, stN]; omega)), rfl⟩⟩
    · skip
      have h7k := h7
      refine zg ?_
      refine zM (zB f) ?_
      refine zr (zn f) ?_
      refine zM (zB (!f)) ?_
      refine zN ?_
      refine zC (b := !f) rfl (fun h8 => ?_) (fun h8 => ?_)
      · skip
        have h8k := h8
        refine AWp.skip ?_
        refine AWp.cond (b := !f) rfl (fun _ => ?_) (fun hx => absurd (hx.symm.trans h8k) (by decide))
        refine zg ?_
        refine zr (zfL Try.underlying23 sizeOf_4) ?_
        refine zr (zlL (zB o) Try.underlying4 sizeOf_4) ?_
        refine zr (Reader.build (xs := [(0, zB o)]) (Es := []) (places := places_23) rfl Try.underlying23 (by refine ⟨rfl, fun j p x hp hx => ?_⟩; match j, hp, hx with | 0, hp, hx => cases hp; cases hx; exact ⟨rfl, .inl ⟨rfl, rfl⟩, rfl, rfl⟩ | _ + 1, hp, hx => cases hp) zero_23 rfl places_23_ok (cs := [zB o, zI 0]) rfl) ?_
        refine zst sizeOf_23 (.agg [zB o, zI 0]) ?_
        refine zN ?_
        refine AWp.ret ?_
        exact ⟨.inl rfl, _, ResOf.cell 10 10 0 2 23 _ _ (.agg [zB o, zI 0]) rfl rfl Try.underlying23 sizeOf_23 rfl rfl, ⟨st_eq (by cases o <;> cases h <;> cases m <;> cases f <;> first | rfl | contradiction | (simp [stOn, stN]; omega)) (by cases o <;> cases h <;> cases m <;> cases f <;> first | rfl | contradiction | (simp [stOn, stN]; omega)), rfl⟩⟩
      · skip
        have h8k := h8
        refine AWp.region ?_
        refine zM (zB m) ?_
        refine zM (zB m) ?_
        refine zN ?_
        refine zC (b := m) rfl (fun h9 => ?_) (fun h9 => ?_)
        · skip
          have h9k := h9
          refine zg ?_
          refine zr (zfL Try.underlying23 sizeOf_4) ?_
          refine zr (zlL (zB o) Try.underlying4 sizeOf_4) ?_
          refine zr (Reader.build (xs := [(0, zB o)]) (Es := []) (places := places_23) rfl Try.underlying23 (by refine ⟨rfl, fun j p x hp hx => ?_⟩; match j, hp, hx with | 0, hp, hx => cases hp; cases hx; exact ⟨rfl, .inl ⟨rfl, rfl⟩, rfl, rfl⟩ | _ + 1, hp, hx => cases hp) zero_23 rfl places_23_ok (cs := [zB o, zI 0]) rfl) ?_
          refine zst sizeOf_23 (.agg [zB o, zI 0]) ?_
          refine zN ?_
          refine AWp.ret ?_
          exact ⟨.inl rfl, _, ResOf.cell 10 10 0 2 23 _ _ (.agg [zB o, zI 0]) rfl rfl Try.underlying23 sizeOf_23 rfl rfl, ⟨st_eq (by cases o <;> cases h <;> cases m <;> cases f <;> first | rfl | contradiction | (simp [stOn, stN]; omega)) (by cases o <;> cases h <;> cases m <;> cases f <;> first | rfl | contradiction | (simp [stOn, stN]; omega)), rfl⟩⟩
        · skip
          have h9k := h9
          refine zg ?_
          refine zr (zfL Try.underlying23 sizeOf_3) ?_
          refine zr (zlL (zI n) Try.underlying3 sizeOf_3) ?_
          refine zr (zw (n + 1) (n + 1)) ?_
          refine zM (zI p) ?_
          refine zr (zi (decide (n + 1 ≥ p))) ?_
          refine zM (zB (decide (n + 1 ≥ p))) ?_
          refine zN ?_
          refine zC (b := decide (n + 1 ≥ p)) rfl (fun h10 => ?_) (fun h10 => ?_)
          · skip
            have h10' : (n + 1) ≥ p := (by have hh := of_decide_eq_true h10; omega)
            clear h10
            refine zg ?_
            refine zr (Reader.build (xs := []) (Es := []) (places := places_23) rfl Try.underlying23 (by refine ⟨rfl, fun j p x hp hx => ?_⟩; match j, hp, hx with | _ + 0, hp, hx => cases hp) zero_23 rfl places_23_ok (cs := [zB false, zI 0]) rfl) ?_
            refine zst sizeOf_23 (.agg [zB false, zI 0]) ?_
            refine zN ?_
            refine AWp.ret ?_
            exact ⟨.inl rfl, _, ResOf.cell 10 10 0 2 23 _ _ (.agg [zB false, zI 0]) rfl rfl Try.underlying23 sizeOf_23 rfl rfl, ⟨st_eq (by cases o <;> cases h <;> cases m <;> cases f <;> first | rfl | contradiction | (simp [stOn, stN]; omega)) (by cases o <;> cases h <;> cases m <;> cases f <;> first | rfl | contradiction | (simp [stOn, stN]; omega)), rfl⟩⟩
          · skip
            have h10' : ¬ ((n + 1) ≥ p) := (by have hh := of_decide_eq_false h10; omega)
            clear h10
            refine AWp.skip ?_
            refine zg ?_
            refine zr (zfL Try.underlying23 sizeOf_3) ?_
            refine zr (zlL (zI n) Try.underlying3 sizeOf_3) ?_
            refine zr (zw (n + 1) (n + 1)) ?_
            refine zr (Reader.build (xs := [(0, zB true), (1, zI (n + 1))]) (Es := []) (places := places_23) rfl Try.underlying23 (by refine ⟨rfl, fun j p x hp hx => ?_⟩; match j, hp, hx with | 0, hp, hx => cases hp; cases hx; exact ⟨rfl, .inl ⟨rfl, rfl⟩, rfl, rfl⟩ | 1, hp, hx => cases hp; cases hx; exact ⟨rfl, .inl ⟨rfl, rfl⟩, rfl, rfl⟩ | _ + 2, hp, hx => cases hp) zero_23 rfl places_23_ok (cs := [zB true, zI (n + 1)]) rfl) ?_
            refine zst sizeOf_23 (.agg [zB true, zI (n + 1)]) ?_
            refine zN ?_
            refine AWp.ret ?_
            exact ⟨.inl rfl, _, ResOf.cell 10 10 0 2 23 _ _ (.agg [zB true, zI (n + 1)]) rfl rfl Try.underlying23 sizeOf_23 rfl rfl, ⟨st_eq (by cases o <;> cases h <;> cases m <;> cases f <;> first | rfl | contradiction | (simp [stOn, stN]; omega)) (by cases o <;> cases h <;> cases m <;> cases f <;> first | rfl | contradiction | (simp [stOn, stN]; omega)), rfl⟩⟩

set_option maxRecDepth 20000 in
theorem cright_any (o : Bool) (n p : Int) (M : Nat → Option (List AV)) : ACall Try.prog 9 [.agg [zB o, zI n], zI p] M (fun r M' => r = zB (rightB o n p) ∧ M = M') := by
  refine ACall.of Try.func9 rfl (n := 20) rfl rfl rfl ?_
  refine zg ?_
  refine AOps.box trivial rfl (by decide) rfl (noL rfl) rfl (v := .agg [zB o, zI n]) (.inl ⟨rfl, rfl⟩) rfl rfl (all_flat rfl) ?_
  refine zM (zB false) ?_
  refine zN ?_
  refine AWp.seq ?_
  refine zg ?_
  refine zr (zfL Try.underlying23 sizeOf_4) ?_
  refine zr (zlL (zB o) Try.underlying4 sizeOf_4) ?_
  refine zr (zn o) ?_
  refine zN ?_
  refine zC (b := !o) rfl (fun h1 => ?_) (fun h1 => ?_)
  · skip
    refine zg ?_
    refine zr (zfL Try.underlying23 sizeOf_3) ?_
    refine zr (zlL (zI n) Try.underlying3 sizeOf_3) ?_
    refine zr (zi (n == 0)) ?_
    refine zM (zB (n == 0)) ?_
    refine zN ?_
    refine AWp.ret ?_
    exact ⟨.inl rfl, _, ResOf.one 4 (zB (n == 0)) rfl rfl, ⟨congrArg (fun b => AV.lit (.bool b)) (by cases o <;> simp_all [rightB]), rfl⟩⟩
  · skip
    refine AWp.skip ?_
    refine zj 4 [(0, .agg [zB o, zI n]), (1, zI p), (2, .lptr 2 0), (7, zB (!o))] [(2, [zB o, zI n])] M (bif (decide (n ≥ 0)) then (decide (n < p)) else false) ?_ ?_
    · skip
      refine zr (zfL Try.underlying23 sizeOf_3) ?_
      refine zr (zlL (zI n) Try.underlying3 sizeOf_3) ?_
      refine zr (zi (decide (n ≥ 0))) ?_
      refine zM (zB (decide (n ≥ 0))) ?_
      refine AOps.splitJ (t := 14) (b := decide (n ≥ 0)) (x := (decide (n < p))) (y := false) rfl (fun h2 => ?_) (fun h2 => ?_)
      · skip
        have h2' : n ≥ 0 := (by have hh := of_decide_eq_true h2; omega)
        clear h2
        refine zr (zfL Try.underlying23 sizeOf_3) ?_
        refine zr (zlL (zI n) Try.underlying3 sizeOf_3) ?_
        refine zM (zI p) ?_
        refine zr (zi (decide (n < p))) ?_
        refine zr (zp true (zB (decide (n < p)))) ?_
        refine zM (zB (decide (n < p))) ?_
        exact AOps.nil rfl
      · skip
        have h2' : ¬ (n ≥ 0) := (by have hh := of_decide_eq_false h2; omega)
        clear h2
        refine zs ?_
        refine zs ?_
        refine zs ?_
        refine zs ?_
        refine zr (zp false (zB false)) ?_
        refine zM (zB false) ?_
        exact AOps.nil rfl
    refine AWp.ret ?_
    exact ⟨.inl rfl, _, ResOf.one 4 (zB (bif (decide (n ≥ 0)) then (decide (n < p)) else false)) rfl rfl, ⟨congrArg (fun b => AV.lit (.bool b)) (by cases o <;> simp_all [rightB]), rfl⟩⟩

set_option maxRecDepth 20000 in
theorem rright_any (o : Bool) (n p : Int) (M : Nat → Option (List AV)) : ACall Try.prog 6 [.agg [zB o, zI n], zI p] M (fun r M' => r = zB (rightB o n p) ∧ M = M') := by
  refine ACall.of Try.func6 rfl (n := 19) rfl rfl rfl ?_
  refine zg ?_
  refine AOps.box trivial rfl (by decide) rfl (noL rfl) rfl (v := .agg [zB o, zI n]) (.inl ⟨rfl, rfl⟩) rfl rfl (all_flat rfl) ?_
  refine zM (zB false) ?_
  refine zN ?_
  refine AWp.seq ?_
  refine zg ?_
  refine zr (zfL Try.underlying23 sizeOf_4) ?_
  refine zr (zlL (zB o) Try.underlying4 sizeOf_4) ?_
  refine zN ?_
  refine zC (b := o) rfl (fun h1 => ?_) (fun h1 => ?_)
  · skip
    refine zj 4 [(0, .agg [zB o, zI n]), (1, zI p), (2, .lptr 2 0), (6, zB o)] [(2, [zB o, zI n])] M (bif (decide (n ≥ 0)) then (decide (n < p)) else false) ?_ ?_
    · skip
      refine zr (zfL Try.underlying23 sizeOf_3) ?_
      refine zr (zlL (zI n) Try.underlying3 sizeOf_3) ?_
      refine zr (zi (decide (n ≥ 0))) ?_
      refine zM (zB (decide (n ≥ 0))) ?_
      refine AOps.splitJ (t := 10) (b := decide (n ≥ 0)) (x := (decide (n < p))) (y := false) rfl (fun h2 => ?_) (fun h2 => ?_)
      · skip
        have h2' : n ≥ 0 := (by have hh := of_decide_eq_true h2; omega)
        clear h2
        refine zr (zfL Try.underlying23 sizeOf_3) ?_
        refine zr (zlL (zI n) Try.underlying3 sizeOf_3) ?_
        refine zM (zI p) ?_
        refine zr (zi (decide (n < p))) ?_
        refine zr (zp true (zB (decide (n < p)))) ?_
        refine zM (zB (decide (n < p))) ?_
        exact AOps.nil rfl
      · skip
        have h2' : ¬ (n ≥ 0) := (by have hh := of_decide_eq_false h2; omega)
        clear h2
        refine zs ?_
        refine zs ?_
        refine zs ?_
        refine zs ?_
        refine zr (zp false (zB false)) ?_
        refine zM (zB false) ?_
        exact AOps.nil rfl
    refine AWp.ret ?_
    exact ⟨.inl rfl, _, ResOf.one 4 (zB (bif (decide (n ≥ 0)) then (decide (n < p)) else false)) rfl rfl, ⟨congrArg (fun b => AV.lit (.bool b)) (by cases o <;> simp_all [rightB]), rfl⟩⟩
  · skip
    refine AWp.skip ?_
    refine zg ?_
    refine zr (zfL Try.underlying23 sizeOf_3) ?_
    refine zr (zlL (zI n) Try.underlying3 sizeOf_3) ?_
    refine zr (zi (n == 0)) ?_
    refine zM (zB (n == 0)) ?_
    refine zN ?_
    refine AWp.ret ?_
    exact ⟨.inl rfl, _, ResOf.one 4 (zB (n == 0)) rfl rfl, ⟨congrArg (fun b => AV.lit (.bool b)) (by cases o <;> simp_all [rightB]), rfl⟩⟩

set_option maxRecDepth 20000 in
theorem period_any (p : Int) (M : Nat → Option (List AV)) : ACall Try.prog 5 [zI p] M (fun r M' => r = zB (periodB p) ∧ M = M') := by
  refine ACall.of Try.func5 rfl (n := 9) rfl rfl rfl ?_
  refine zg ?_
  refine zM (zB false) ?_
  refine zN ?_
  refine zj 2 [(0, zI p)] [] M (bif (decide (p ≥ 1)) then (decide (p ≤ 1000)) else false) ?_ ?_
  · skip
    refine zM (zI p) ?_
    refine zr (zi (decide (p ≥ 1))) ?_
    refine zM (zB (decide (p ≥ 1))) ?_
    refine AOps.splitJ (t := 5) (b := decide (p ≥ 1)) (x := (decide (p ≤ 1000))) (y := false) rfl (fun h1 => ?_) (fun h1 => ?_)
    · skip
      have h1' : p ≥ 1 := (by have hh := of_decide_eq_true h1; omega)
      clear h1
      refine zM (zI p) ?_
      refine zr (zi (decide (p ≤ 1000))) ?_
      refine zr (zp true (zB (decide (p ≤ 1000)))) ?_
      refine zM (zB (decide (p ≤ 1000))) ?_
      exact AOps.nil rfl
    · skip
      have h1' : ¬ (p ≥ 1) := (by have hh := of_decide_eq_false h1; omega)
      clear h1
      refine zs ?_
      refine zs ?_
      refine zr (zp false (zB false)) ?_
      refine zM (zB false) ?_
      exact AOps.nil rfl
  refine AWp.ret ?_
  exact ⟨.inl rfl, _, ResOf.one 2 (zB (bif (decide (p ≥ 1)) then (decide (p ≤ 1000)) else false)) rfl rfl, ⟨congrArg (fun b => AV.lit (.bool b)) (by rw [Bool.eq_iff_iff]; simp [periodB]), rfl⟩⟩

set_option maxRecDepth 20000 in
theorem call_any (o0 o1 o2 u0 u1 u2 m0 m1 m2 f : Bool) (n0 n1 n2 p : Int) (b0 : 0 ≤ n0 ∧ n0 ≤ 1000) (b1 : 0 ≤ n1 ∧ n1 ≤ 1000) (b2 : 0 ≤ n2 ∧ n2 ≤ 1000) (M : Nat → Option (List AV)) : ACall Try.prog 7 [.agg [zB o0, zI n0, zB o1, zI n1, zB o2, zI n2], .agg [zB u0, zB u1, zB u2], .agg [zB m0, zB m1, zB m2], zB f, zI p] M (fun r M' => r = .tuple [.agg [zB (stOn o0 u0 m0 f n0 p), zI (stN o0 u0 m0 f n0 p), zB (stOn o1 u1 m1 f n1 p), zI (stN o1 u1 m1 f n1 p), zB (stOn o2 u2 m2 f n2 p), zI (stN o2 u2 m2 f n2 p)], .list true 33 (((([] ++ evL o0 (stOn o0 u0 m0 f n0 p) 0) ++ evL o1 (stOn o1 u1 m1 f n1 p) 1) ++ evL o2 (stOn o2 u2 m2 f n2 p) 2).map encE)] ∧ M = M') := by
  refine ACall.of Try.func7 rfl (n := 65) rfl rfl rfl ?_
  refine zg ?_
  refine AOps.box trivial rfl (by decide) rfl (noL rfl) rfl (v := .agg [zB o0, zI n0, zB o1, zI n1, zB o2, zI n2]) (.inl ⟨rfl, rfl⟩) rfl rfl (all_flat rfl) ?_
  refine AOps.box trivial rfl (by decide) rfl (noL rfl) rfl (v := .agg [zB u0, zB u1, zB u2]) (.inl ⟨rfl, rfl⟩) rfl rfl (all_flat rfl) ?_
  refine AOps.box trivial rfl (by decide) rfl (noL rfl) rfl (v := .agg [zB m0, zB m1, zB m2]) (.inl ⟨rfl, rfl⟩) rfl rfl (all_flat rfl) ?_
  refine zal [] zero_24 [zB false, zI 0, zB false, zI 0, zB false, zI 0] ?_
  refine AOps.nilList 33 trivial rfl (by decide) (.inl rfl) ?_
  refine zN ?_
  refine zg ?_
  refine AOps.nilList 33 trivial rfl (by decide) (.inl rfl) ?_
  refine zN ?_
  refine AWp.seq ?_
  refine zg ?_
  refine zr (zlL (.agg [zB o0, zI n0, zB o1, zI n1, zB o2, zI n2]) Try.underlying24 sizeOf_24) ?_
  refine zM (zI 0) ?_
  refine zN ?_
  refine AWp.block ?_
  refine AWp.unroll 4 ?_
  refine AWp.round ?_
  refine zg ?_
  refine zr (zi true) ?_
  refine zN ?_
  refine AWp.seq ?_
  refine AWp.cond (b := true) rfl (fun hx => ?_) (fun hx => by cases hx)
  refine AWp.skip ?_
  refine AWp.mid [0, 1, 2, 3, 4, 5, 6, 7, 10, 11, 15, 16, 17, 12] [6, 7, 10, 5] (fun s => ∃ (E0 : List Ev), s = ⟨[(0, .agg [zB o0, zI n0, zB o1, zI n1, zB o2, zI n2]), (1, .agg [zB u0, zB u1, zB u2]), (2, .agg [zB m0, zB m1, zB m2]), (3, zB f), (4, zI p), (5, .lptr 5 0), (6, .lptr 6 0), (7, .lptr 7 0), (10, .lptr 10 0), (11, .list true 33 []), (15, .agg [zB o0, zI n0, zB o1, zI n1, zB o2, zI n2]), (16, zI 0), (17, zB true), (12, .list true 33 (E0.map encE))], [(6, [zB u0, zB u1, zB u2]), (7, [zB m0, zB m1, zB m2]), (10, [zB false, zI 0, zB false, zI 0, zB false, zI 0]), (5, [zB (stOn o0 u0 m0 f n0 p), zI (stN o0 u0 m0 f n0 p), zB o1, zI n1, zB o2, zI n2])], M⟩ ∧ (E0 = ([] : List Ev) ++ evL o0 (stOn o0 u0 m0 f n0 p) 0)) ?_ ?_
  · skip
    refine AWp.block ?_
    refine zg ?_
    refine zM (zI 0) ?_
    refine zr (Reader.indexV (m := 0) rfl Try.underlying24 Try.underlying23 sizeOf_23 rfl ⟨_, rfl⟩ rfl rfl (by decide) (v := .agg [zB o0, zI n0]) rfl rfl) ?_
    refine zal [] zero_23 [zB false, zI 0] ?_
    refine zM (zI 0) ?_
    refine zst sizeOf_23 (.agg [zB o0, zI n0]) ?_
    refine zN ?_
    refine AWp.seq (AWp.anyR [0, 1, 2, 3, 4, 5, 6, 7, 10, 11, 12, 15, 16, 17, 14, 13] [5, 6, 7, 10, 14] (⟨[(0, .agg [zB o0, zI n0, zB o1, zI n1, zB o2, zI n2]), (1, .agg [zB u0, zB u1, zB u2]), (2, .agg [zB m0, zB m1, zB m2]), (3, zB f), (4, zI p), (5, .lptr 5 0), (6, .lptr 6 0), (7, .lptr 7 0), (10, .lptr 10 0), (11, .list true 33 []), (12, .list true 33 []), (15, .agg [zB o0, zI n0, zB o1, zI n1, zB o2, zI n2]), (16, zI 0), (17, zB true), (14, .lptr 14 0), (13, zI 0)], [(5, [zB (stOn o0 u0 m0 f n0 p), zI (stN o0 u0 m0 f n0 p), zB o1, zI n1, zB o2, zI n2]), (6, [zB u0, zB u1, zB u2]), (7, [zB m0, zB m1, zB m2]), (10, [zB false, zI 0, zB false, zI 0, zB false, zI 0]), (14, [zB o0, zI n0])], M⟩) (by kernel_rfl) ?_ ?_)
    · skip
      skip
      refine SAny.share 3 #[true, true, true, true, true, true, true, true, true, true, false, false, false] (⟨[(0, .agg [zB o0, zI n0, zB o1, zI n1, zB o2, zI n2]), (1, .agg [zB u0, zB u1, zB u2]), (2, .agg [zB m0, zB m1, zB m2]), (3, zB f), (4, zI p), (5, .lptr 5 0), (6, .lptr 6 0), (7, .lptr 7 0), (10, .lptr 10 0), (11, .list true 33 []), (12, .list true 33 []), (15, .agg [zB o0, zI n0, zB o1, zI n1, zB o2, zI n2]), (16, zI 0), (17, zB true), (18, zI 0), (19, .agg [zB o0, zI n0]), (14, .lptr 14 0), (13, zI 0), (20, zI 0), (22, zI 0), (23, .lptr 6 0), (25, zI 0), (26, .lptr 7 0), (28, zB f), (29, zI p), (27, zB m0), (24, zB u0), (21, .agg [zB o0, zI n0])], [(5, [zB o0, zI n0, zB o1, zI n1, zB o2, zI n2]), (6, [zB u0, zB u1, zB u2]), (7, [zB m0, zB m1, zB m2]), (10, [zB false, zI 0, zB false, zI 0, zB false, zI 0]), (14, [zB o0, zI n0])], M⟩) ?_ (fun sh0 => ?_)
      · skip
        refine zq [10] ⟨⟨_, rfl, ?_⟩, trivial⟩
        · skip
          refine zc [.agg [zB o0, zI n0], zB u0, zB m0, zB f, zI p] Try.call8 (cstep_any o0 u0 m0 f n0 p (by omega) M) ?_
          rintro _ _ ⟨rfl, rfl⟩
          refine zN ?_
          refine zk 11 rfl (PReader.indexL (m := 0) rfl Try.underlying24 sizeOf_23 rfl rfl rfl (by decide)) ?_
          refine zq [12] ⟨⟨_, rfl, ?_⟩, trivial⟩
          · skip
            refine zst sizeOf_23 (.agg [zB (stOn o0 u0 m0 f n0 p), zI (stN o0 u0 m0 f n0 p)]) ?_
            refine zN ?_
            exact SAny.done (by kernel_rfl) rfl
      refine SAny.share 4 #[true, true, true, true, false, true, true, true, true, true, false, false, false] (⟨[(0, .agg [zB o0, zI n0, zB o1, zI n1, zB o2, zI n2]), (1, .agg [zB u0, zB u1, zB u2]), (2, .agg [zB m0, zB m1, zB m2]), (3, zB f), (4, zI p), (5, .lptr 5 0), (6, .lptr 6 0), (7, .lptr 7 0), (10, .lptr 10 0), (11, .list true 33 []), (12, .list true 33 []), (15, .agg [zB o0, zI n0, zB o1, zI n1, zB o2, zI n2]), (16, zI 0), (17, zB true), (18, zI 0), (19, .agg [zB o0, zI n0]), (14, .lptr 14 0), (13, zI 0), (20, zI 0), (22, zI 0), (23, .lptr 6 0), (25, zI 0), (26, .lptr 7 0), (28, zB f), (29, zI p), (27, zB m0), (21, .agg [zB o0, zI n0])], [(5, [zB o0, zI n0, zB o1, zI n1, zB o2, zI n2]), (6, [zB u0, zB u1, zB u2]), (7, [zB m0, zB m1, zB m2]), (10, [zB false, zI 0, zB false, zI 0, zB false, zI 0]), (14, [zB o0, zI n0])], M⟩) ?_ (fun sh1 => ?_)
      · skip
        refine zq [4] ⟨⟨_, rfl, ?_⟩, trivial⟩
        · skip
          refine zr (zlL (zB u0) Try.underlying4 sizeOf_4) ?_
          refine zN ?_
          exact SAny.same [0, 1, 2, 3, 4, 5, 6, 7, 10, 11, 12, 15, 16, 17, 18, 19, 14, 13, 20, 22, 23, 25, 26, 28, 29, 27, 24, 21] [5, 6, 7, 10, 14] sh0 (by kernel_rfl) rfl
      refine SAny.share 4 #[true, false, true, true, true, true, true, true, true, true, false, false, false] (⟨[(0, .agg [zB o0, zI n0, zB o1, zI n1, zB o2, zI n2]), (1, .agg [zB u0, zB u1, zB u2]), (2, .agg [zB m0, zB m1, zB m2]), (3, zB f), (4, zI p), (5, .lptr 5 0), (6, .lptr 6 0), (7, .lptr 7 0), (10, .lptr 10 0), (11, .list true 33 []), (12, .list true 33 []), (15, .agg [zB o0, zI n0, zB o1, zI n1, zB o2, zI n2]), (16, zI 0), (17, zB true), (18, zI 0), (19, .agg [zB o0, zI n0]), (14, .lptr 14 0), (13, zI 0), (20, zI 0), (22, zI 0), (23, .lptr 6 0), (25, zI 0), (26, .lptr 7 0), (28, zB f), (29, zI p), (27, zB m0), (24, zB u0)], [(5, [zB o0, zI n0, zB o1, zI n1, zB o2, zI n2]), (6, [zB u0, zB u1, zB u2]), (7, [zB m0, zB m1, zB m2]), (10, [zB false, zI 0, zB false, zI 0, zB false, zI 0]), (14, [zB o0, zI n0])], M⟩) ?_ (fun sh2 => ?_)
      · skip
        refine zq [1] ⟨⟨_, rfl, ?_⟩, trivial⟩
        · skip
          refine zr (zlL (.agg [zB o0, zI n0]) Try.underlying23 sizeOf_23) ?_
          refine zN ?_
          exact SAny.same [0, 1, 2, 3, 4, 5, 6, 7, 10, 11, 12, 15, 16, 17, 18, 19, 14, 13, 20, 22, 23, 25, 26, 28, 29, 27, 24, 21] [5, 6, 7, 10, 14] sh0 (by kernel_rfl) rfl
      refine SAny.share 4 #[true, true, true, true, true, true, true, false, true, true, false, false, false] (⟨[(0, .agg [zB o0, zI n0, zB o1, zI n1, zB o2, zI n2]), (1, .agg [zB u0, zB u1, zB u2]), (2, .agg [zB m0, zB m1, zB m2]), (3, zB f), (4, zI p), (5, .lptr 5 0), (6, .lptr 6 0), (7, .lptr 7 0), (10, .lptr 10 0), (11, .list true 33 []), (12, .list true 33 []), (15, .agg [zB o0, zI n0, zB o1, zI n1, zB o2, zI n2]), (16, zI 0), (17, zB true), (18, zI 0), (19, .agg [zB o0, zI n0]), (14, .lptr 14 0), (13, zI 0), (20, zI 0), (22, zI 0), (23, .lptr 6 0), (25, zI 0), (26, .lptr 7 0), (28, zB f), (29, zI p), (24, zB u0), (21, .agg [zB o0, zI n0])], [(5, [zB o0, zI n0, zB o1, zI n1, zB o2, zI n2]), (6, [zB u0, zB u1, zB u2]), (7, [zB m0, zB m1, zB m2]), (10, [zB false, zI 0, zB false, zI 0, zB false, zI 0]), (14, [zB o0, zI n0])], M⟩) ?_ (fun sh3 => ?_)
      · skip
        refine zq [7] ⟨⟨_, rfl, ?_⟩, trivial⟩
        · skip
          refine zr (zlL (zB m0) Try.underlying4 sizeOf_4) ?_
          refine zN ?_
          exact SAny.same [0, 1, 2, 3, 4, 5, 6, 7, 10, 11, 12, 15, 16, 17, 18, 19, 14, 13, 20, 22, 23, 25, 26, 28, 29, 27, 24, 21] [5, 6, 7, 10, 14] sh0 (by kernel_rfl) rfl
      refine zkm 0 (zI 0) ?_
      refine zkm 2 (zI 0) ?_
      refine zk 3 rfl (PReader.indexL (m := 0) rfl Try.underlying25 sizeOf_4 rfl rfl rfl (by decide)) ?_
      refine zkm 5 (zI 0) ?_
      refine zk 6 rfl (PReader.indexL (m := 0) rfl Try.underlying25 sizeOf_4 rfl rfl rfl (by decide)) ?_
      refine zkm 8 (zB f) ?_
      refine zkm 9 (zI p) ?_
      refine zq [1, 4, 7] ⟨⟨_, rfl, ?_⟩, ⟨_, rfl, ?_⟩, ⟨_, rfl, ?_⟩, trivial⟩
      · skip
        refine zr (zlL (.agg [zB o0, zI n0]) Try.underlying23 sizeOf_23) ?_
        refine zN ?_
        refine zq [4, 7] ⟨⟨_, rfl, ?_⟩, ⟨_, rfl, ?_⟩, trivial⟩
        · skip
          refine zr (zlL (zB u0) Try.underlying4 sizeOf_4) ?_
          refine zN ?_
          exact SAny.same [0, 1, 2, 3, 4, 5, 6, 7, 10, 11, 12, 15, 16, 17, 18, 19, 14, 13, 20, 22, 23, 25, 26, 28, 29, 24, 21] [5, 6, 7, 10, 14] sh3 (by kernel_rfl) rfl
        · skip
          refine zr (zlL (zB m0) Try.underlying4 sizeOf_4) ?_
          refine zN ?_
          exact SAny.same [0, 1, 2, 3, 4, 5, 6, 7, 10, 11, 12, 15, 16, 17, 18, 19, 14, 13, 20, 22, 23, 25, 26, 28, 29, 27, 21] [5, 6, 7, 10, 14] sh1 (by kernel_rfl) rfl
      · skip
        refine zr (zlL (zB u0) Try.underlying4 sizeOf_4) ?_
        refine zN ?_
        refine zq [1, 7] ⟨⟨_, rfl, ?_⟩, ⟨_, rfl, ?_⟩, trivial⟩
        · skip
          refine zr (zlL (.agg [zB o0, zI n0]) Try.underlying23 sizeOf_23) ?_
          refine zN ?_
          exact SAny.same [0, 1, 2, 3, 4, 5, 6, 7, 10, 11, 12, 15, 16, 17, 18, 19, 14, 13, 20, 22, 23, 25, 26, 28, 29, 24, 21] [5, 6, 7, 10, 14] sh3 (by kernel_rfl) rfl
        · skip
          refine zr (zlL (zB m0) Try.underlying4 sizeOf_4) ?_
          refine zN ?_
          exact SAny.same [0, 1, 2, 3, 4, 5, 6, 7, 10, 11, 12, 15, 16, 17, 18, 19, 14, 13, 20, 22, 23, 25, 26, 28, 29, 27, 24] [5, 6, 7, 10, 14] sh2 (by kernel_rfl) rfl
      · skip
        refine zr (zlL (zB m0) Try.underlying4 sizeOf_4) ?_
        refine zN ?_
        refine zq [1, 4] ⟨⟨_, rfl, ?_⟩, ⟨_, rfl, ?_⟩, trivial⟩
        · skip
          refine zr (zlL (.agg [zB o0, zI n0]) Try.underlying23 sizeOf_23) ?_
          refine zN ?_
          exact SAny.same [0, 1, 2, 3, 4, 5, 6, 7, 10, 11, 12, 15, 16, 17, 18, 19, 14, 13, 20, 22, 23, 25, 26, 28, 29, 27, 21] [5, 6, 7, 10, 14] sh1 (by kernel_rfl) rfl
        · skip
          refine zr (zlL (zB u0) Try.underlying4 sizeOf_4) ?_
          refine zN ?_
          exact SAny.same [0, 1, 2, 3, 4, 5, 6, 7, 10, 11, 12, 15, 16, 17, 18, 19, 14, 13, 20, 22, 23, 25, 26, 28, 29, 27, 24] [5, 6, 7, 10, 14] sh2 (by kernel_rfl) rfl
    refine AWp.block ?_
    refine zj 32 [(0, .agg [zB o0, zI n0, zB o1, zI n1, zB o2, zI n2]), (1, .agg [zB u0, zB u1, zB u2]), (2, .agg [zB m0, zB m1, zB m2]), (3, zB f), (4, zI p), (5, .lptr 5 0), (6, .lptr 6 0), (7, .lptr 7 0), (10, .lptr 10 0), (11, .list true 33 []), (12, .list true 33 []), (15, .agg [zB o0, zI n0, zB o1, zI n1, zB o2, zI n2]), (16, zI 0), (17, zB true), (14, .lptr 14 0), (13, zI 0)] [(5, [zB (stOn o0 u0 m0 f n0 p), zI (stN o0 u0 m0 f n0 p), zB o1, zI n1, zB o2, zI n2]), (6, [zB u0, zB u1, zB u2]), (7, [zB m0, zB m1, zB m2]), (10, [zB false, zI 0, zB false, zI 0, zB false, zI 0]), (14, [zB o0, zI n0])] M (bif (stOn o0 u0 m0 f n0 p) then (!o0) else false) ?_ ?_
    · skip
      refine zM (zI 0) ?_
      refine zr (ziL 0 Try.underlying24 sizeOf_23) ?_
      refine zr (zfL Try.underlying23 sizeOf_4) ?_
      refine zr (zlL (zB (stOn o0 u0 m0 f n0 p)) Try.underlying4 sizeOf_4) ?_
      refine zM (zB (stOn o0 u0 m0 f n0 p)) ?_
      refine AOps.splitJ (t := 37) (b := stOn o0 u0 m0 f n0 p) (x := (!o0)) (y := false) rfl (fun h1 => ?_) (fun h1 => ?_)
      · skip
        refine zr (zfL Try.underlying23 sizeOf_4) ?_
        refine zr (zlL (zB o0) Try.underlying4 sizeOf_4) ?_
        refine zr (zn o0) ?_
        refine zr (zp true (zB (!o0))) ?_
        refine zM (zB (!o0)) ?_
        exact AOps.nil rfl
      · skip
        refine zs ?_
        refine zs ?_
        refine zs ?_
        refine zr (zp false (zB false)) ?_
        refine zM (zB false) ?_
        exact AOps.nil rfl
    refine zC (b := bif (stOn o0 u0 m0 f n0 p) then (!o0) else false) rfl (fun h2 => ?_) (fun h2 => ?_)
    · skip
      refine AWp.region ?_
      refine zT (v := .list true 33 []) rfl ?_
      refine zM (zI 0) ?_
      refine zr (Reader.build (xs := [(0, zI 6), (2, zI 0)]) (Es := []) (places := places_33) rfl Try.underlying33 (by refine ⟨rfl, fun j p x hp hx => ?_⟩; match j, hp, hx with | 0, hp, hx => cases hp; cases hx; exact ⟨rfl, .inl ⟨rfl, rfl⟩, rfl, rfl⟩ | 1, hp, hx => cases hp; cases hx; exact ⟨rfl, .inl ⟨rfl, rfl⟩, rfl, rfl⟩ | _ + 2, hp, hx => cases hp) zero_33 rfl places_33_ok (cs := [zI 6, .str [], zI 0, zI 0]) rfl) ?_
      refine zbS [] [.agg [zI 6, .str [], zI 0, zI 0]] Try.underlying29 Try.i33 ?_
      refine zap (m1 := 0) (m2 := 1) 40 [] [.agg [zI 6, .str [], zI 0, zI 0]] ((([] : List Ev) ++ [(⟨6, [], 0, 0⟩ : Ev)]).map encE) Try.underlying29 Try.underlying29 Try.i33 rfl rfl (by simp [encE]) ?_
      refine zT (v := .list true 33 ((([] : List Ev) ++ [(⟨6, [], 0, 0⟩ : Ev)]).map encE)) rfl ?_
      refine zN ?_
      exact ⟨(([] : List Ev) ++ [(⟨6, [], 0, 0⟩ : Ev)]), rfl, (congrArg (([] : List Ev) ++ ·) (evl_on (by assumption))).symm⟩
    · skip
      refine zj 47 [(32, zB (bif (stOn o0 u0 m0 f n0 p) then (!o0) else false)), (0, .agg [zB o0, zI n0, zB o1, zI n1, zB o2, zI n2]), (1, .agg [zB u0, zB u1, zB u2]), (2, .agg [zB m0, zB m1, zB m2]), (3, zB f), (4, zI p), (5, .lptr 5 0), (6, .lptr 6 0), (7, .lptr 7 0), (10, .lptr 10 0), (11, .list true 33 []), (12, .list true 33 []), (15, .agg [zB o0, zI n0, zB o1, zI n1, zB o2, zI n2]), (16, zI 0), (17, zB true), (14, .lptr 14 0), (13, zI 0)] [(5, [zB (stOn o0 u0 m0 f n0 p), zI (stN o0 u0 m0 f n0 p), zB o1, zI n1, zB o2, zI n2]), (6, [zB u0, zB u1, zB u2]), (7, [zB m0, zB m1, zB m2]), (10, [zB false, zI 0, zB false, zI 0, zB false, zI 0]), (14, [zB o0, zI n0])] M (bif (!(stOn o0 u0 m0 f n0 p)) then o0 else false) ?_ ?_
      · skip
        refine zM (zI 0) ?_
        refine zr (ziL 0 Try.underlying24 sizeOf_23) ?_
        refine zr (zfL Try.underlying23 sizeOf_4) ?_
        refine zr (zlL (zB (stOn o0 u0 m0 f n0 p)) Try.underlying4 sizeOf_4) ?_
        refine zr (zn (stOn o0 u0 m0 f n0 p)) ?_
        refine zM (zB (!(stOn o0 u0 m0 f n0 p))) ?_
        refine AOps.splitJ (t := 53) (b := !(stOn o0 u0 m0 f n0 p)) (x := o0) (y := false) rfl (fun h3 => ?_) (fun h3 => ?_)
        · skip
          refine zr (zfL Try.underlying23 sizeOf_4) ?_
          refine zr (zlL (zB o0) Try.underlying4 sizeOf_4) ?_
          refine zr (zp true (zB o0)) ?_
          refine zM (zB o0) ?_
          exact AOps.nil rfl
        · skip
          refine zs ?_
          refine zs ?_
          refine zr (zp false (zB false)) ?_
          refine zM (zB false) ?_
          exact AOps.nil rfl
      refine zC (b := bif (!(stOn o0 u0 m0 f n0 p)) then o0 else false) rfl (fun h4 => ?_) (fun h4 => ?_)
      · skip
        refine AWp.region ?_
        refine zT (v := .list true 33 []) rfl ?_
        refine zM (zI 0) ?_
        refine zr (Reader.build (xs := [(0, zI 7), (2, zI 0)]) (Es := []) (places := places_33) rfl Try.underlying33 (by refine ⟨rfl, fun j p x hp hx => ?_⟩; match j, hp, hx with | 0, hp, hx => cases hp; cases hx; exact ⟨rfl, .inl ⟨rfl, rfl⟩, rfl, rfl⟩ | 1, hp, hx => cases hp; cases hx; exact ⟨rfl, .inl ⟨rfl, rfl⟩, rfl, rfl⟩ | _ + 2, hp, hx => cases hp) zero_33 rfl places_33_ok (cs := [zI 7, .str [], zI 0, zI 0]) rfl) ?_
        refine zbS [] [.agg [zI 7, .str [], zI 0, zI 0]] Try.underlying29 Try.i33 ?_
        refine zap (m1 := 0) (m2 := 1) 40 [] [.agg [zI 7, .str [], zI 0, zI 0]] ((([] : List Ev) ++ [(⟨7, [], 0, 0⟩ : Ev)]).map encE) Try.underlying29 Try.underlying29 Try.i33 rfl rfl (by simp [encE]) ?_
        refine zT (v := .list true 33 ((([] : List Ev) ++ [(⟨7, [], 0, 0⟩ : Ev)]).map encE)) rfl ?_
        refine zN ?_
        exact ⟨(([] : List Ev) ++ [(⟨7, [], 0, 0⟩ : Ev)]), rfl, (congrArg (([] : List Ev) ++ ·) (evl_off (by assumption) (by assumption))).symm⟩
      · skip
        refine AWp.skip ?_
        exact ⟨([] : List Ev), rfl, (by rw [evl_no (by assumption) (by assumption), List.append_nil])⟩
  rintro _ ⟨E0, rfl, hE0⟩
  have hl0 : E0.length ≤ 1 := by rw [hE0, List.length_append]; have := evL_len o0 (stOn o0 u0 m0 f n0 p) 0; first | omega | (simp only [List.length_nil]; omega)
  refine AWp.region ?_
  refine zr (zd (0 + 1) 1) ?_
  refine zM (zI 1) ?_
  refine zN ?_
  refine AWp.round ?_
  refine zg ?_
  refine zr (zi true) ?_
  refine zN ?_
  refine AWp.seq ?_
  refine AWp.cond (b := true) rfl (fun hx => ?_) (fun hx => by cases hx)
  refine AWp.skip ?_
  refine AWp.mid [0, 1, 2, 3, 4, 5, 6, 7, 10, 11, 15, 16, 17, 12] [6, 7, 10, 5] (fun s => ∃ (E1 : List Ev), s = ⟨[(0, .agg [zB o0, zI n0, zB o1, zI n1, zB o2, zI n2]), (1, .agg [zB u0, zB u1, zB u2]), (2, .agg [zB m0, zB m1, zB m2]), (3, zB f), (4, zI p), (5, .lptr 5 0), (6, .lptr 6 0), (7, .lptr 7 0), (10, .lptr 10 0), (11, .list true 33 []), (15, .agg [zB o0, zI n0, zB o1, zI n1, zB o2, zI n2]), (16, zI 1), (17, zB true), (12, .list true 33 (E1.map encE))], [(6, [zB u0, zB u1, zB u2]), (7, [zB m0, zB m1, zB m2]), (10, [zB false, zI 0, zB false, zI 0, zB false, zI 0]), (5, [zB (stOn o0 u0 m0 f n0 p), zI (stN o0 u0 m0 f n0 p), zB (stOn o1 u1 m1 f n1 p), zI (stN o1 u1 m1 f n1 p), zB o2, zI n2])], M⟩ ∧ (E1 = E0 ++ evL o1 (stOn o1 u1 m1 f n1 p) 1)) ?_ ?_
  · skip
    refine AWp.block ?_
    refine zg ?_
    refine zM (zI 1) ?_
    refine zr (Reader.indexV (m := 1) rfl Try.underlying24 Try.underlying23 sizeOf_23 rfl ⟨_, rfl⟩ rfl rfl (by decide) (v := .agg [zB o1, zI n1]) rfl rfl) ?_
    refine zal [] zero_23 [zB false, zI 0] ?_
    refine zM (zI 1) ?_
    refine zst sizeOf_23 (.agg [zB o1, zI n1]) ?_
    refine zN ?_
    refine AWp.seq (AWp.anyR [0, 1, 2, 3, 4, 5, 6, 7, 10, 11, 15, 16, 17, 12, 14, 13] [6, 7, 10, 5, 14] (⟨[(0, .agg [zB o0, zI n0, zB o1, zI n1, zB o2, zI n2]), (1, .agg [zB u0, zB u1, zB u2]), (2, .agg [zB m0, zB m1, zB m2]), (3, zB f), (4, zI p), (5, .lptr 5 0), (6, .lptr 6 0), (7, .lptr 7 0), (10, .lptr 10 0), (11, .list true 33 []), (15, .agg [zB o0, zI n0, zB o1, zI n1, zB o2, zI n2]), (16, zI 1), (17, zB true), (12, .list true 33 (E0.map encE)), (14, .lptr 14 0), (13, zI 1)], [(6, [zB u0, zB u1, zB u2]), (7, [zB m0, zB m1, zB m2]), (10, [zB false, zI 0, zB false, zI 0, zB false, zI 0]), (5, [zB (stOn o0 u0 m0 f n0 p), zI (stN o0 u0 m0 f n0 p), zB (stOn o1 u1 m1 f n1 p), zI (stN o1 u1 m1 f n1 p), zB o2, zI n2]), (14, [zB o1, zI n1])], M⟩) (by kernel_rfl) ?_ ?_)
    · skip
      skip
      refine SAny.share 3 #[true, true, true, true, true, true, true, true, true, true, false, false, false] (⟨[(0, .agg [zB o0, zI n0, zB o1, zI n1, zB o2, zI n2]), (1, .agg [zB u0, zB u1, zB u2]), (2, .agg [zB m0, zB m1, zB m2]), (3, zB f), (4, zI p), (5, .lptr 5 0), (6, .lptr 6 0), (7, .lptr 7 0), (10, .lptr 10 0), (11, .list true 33 []), (15, .agg [zB o0, zI n0, zB o1, zI n1, zB o2, zI n2]), (16, zI 1), (17, zB true), (12, .list true 33 (E0.map encE)), (62, zI 1), (18, zI 1), (19, .agg [zB o1, zI n1]), (14, .lptr 14 0), (13, zI 1), (20, zI 1), (22, zI 1), (23, .lptr 6 1), (25, zI 1), (26, .lptr 7 1), (28, zB f), (29, zI p), (27, zB m1), (24, zB u1), (21, .agg [zB o1, zI n1])], [(6, [zB u0, zB u1, zB u2]), (7, [zB m0, zB m1, zB m2]), (10, [zB false, zI 0, zB false, zI 0, zB false, zI 0]), (5, [zB (stOn o0 u0 m0 f n0 p), zI (stN o0 u0 m0 f n0 p), zB o1, zI n1, zB o2, zI n2]), (14, [zB o1, zI n1])], M⟩) ?_ (fun sh0 => ?_)
      · skip
        refine zq [10] ⟨⟨_, rfl, ?_⟩, trivial⟩
        · skip
          refine zc [.agg [zB o1, zI n1], zB u1, zB m1, zB f, zI p] Try.call8 (cstep_any o1 u1 m1 f n1 p (by omega) M) ?_
          rintro _ _ ⟨rfl, rfl⟩
          refine zN ?_
          refine zk 11 rfl (PReader.indexL (m := 1) rfl Try.underlying24 sizeOf_23 rfl rfl rfl (by decide)) ?_
          refine zq [12] ⟨⟨_, rfl, ?_⟩, trivial⟩
          · skip
            refine zst sizeOf_23 (.agg [zB (stOn o1 u1 m1 f n1 p), zI (stN o1 u1 m1 f n1 p)]) ?_
            refine zN ?_
            exact SAny.done (by kernel_rfl) rfl
      refine SAny.share 4 #[true, true, true, true, false, true, true, true, true, true, false, false, false] (⟨[(0, .agg [zB o0, zI n0, zB o1, zI n1, zB o2, zI n2]), (1, .agg [zB u0, zB u1, zB u2]), (2, .agg [zB m0, zB m1, zB m2]), (3, zB f), (4, zI p), (5, .lptr 5 0), (6, .lptr 6 0), (7, .lptr 7 0), (10, .lptr 10 0), (11, .list true 33 []), (15, .agg [zB o0, zI n0, zB o1, zI n1, zB o2, zI n2]), (16, zI 1), (17, zB true), (12, .list true 33 (E0.map encE)), (62, zI 1), (18, zI 1), (19, .agg [zB o1, zI n1]), (14, .lptr 14 0), (13, zI 1), (20, zI 1), (22, zI 1), (23, .lptr 6 1), (25, zI 1), (26, .lptr 7 1), (28, zB f), (29, zI p), (27, zB m1), (21, .agg [zB o1, zI n1])], [(6, [zB u0, zB u1, zB u2]), (7, [zB m0, zB m1, zB m2]), (10, [zB false, zI 0, zB false, zI 0, zB false, zI 0]), (5, [zB (stOn o0 u0 m0 f n0 p), zI (stN o0 u0 m0 f n0 p), zB o1, zI n1, zB o2, zI n2]), (14, [zB o1, zI n1])], M⟩) ?_ (fun sh1 => ?_)
      · skip
        refine zq [4] ⟨⟨_, rfl, ?_⟩, trivial⟩
        · skip
          refine zr (zlL (zB u1) Try.underlying4 sizeOf_4) ?_
          refine zN ?_
          exact SAny.same [0, 1, 2, 3, 4, 5, 6, 7, 10, 11, 15, 16, 17, 12, 62, 18, 19, 14, 13, 20, 22, 23, 25, 26, 28, 29, 27, 24, 21] [6, 7, 10, 5, 14] sh0 (by kernel_rfl) rfl
      refine SAny.share 4 #[true, false, true, true, true, true, true, true, true, true, false, false, false] (⟨[(0, .agg [zB o0, zI n0, zB o1, zI n1, zB o2, zI n2]), (1, .agg [zB u0, zB u1, zB u2]), (2, .agg [zB m0, zB m1, zB m2]), (3, zB f), (4, zI p), (5, .lptr 5 0), (6, .lptr 6 0), (7, .lptr 7 0), (10, .lptr 10 0), (11, .list true 33 []), (15, .agg [zB o0, zI n0, zB o1, zI n1, zB o2, zI n2]), (16, zI 1), (17, zB true), (12, .list true 33 (E0.map encE)), (62, zI 1), (18, zI 1), (19, .agg [zB o1, zI n1]), (14, .lptr 14 0), (13, zI 1), (20, zI 1), (22, zI 1), (23, .lptr 6 1), (25, zI 1), (26, .lptr 7 1), (28, zB f), (29, zI p), (27, zB m1), (24, zB u1)], [(6, [zB u0, zB u1, zB u2]), (7, [zB m0, zB m1, zB m2]), (10, [zB false, zI 0, zB false, zI 0, zB false, zI 0]), (5, [zB (stOn o0 u0 m0 f n0 p), zI (stN o0 u0 m0 f n0 p), zB o1, zI n1, zB o2, zI n2]), (14, [zB o1, zI n1])], M⟩) ?_ (fun sh2 => ?_)
      · skip
        refine zq [1] ⟨⟨_, rfl, ?_⟩, trivial⟩
        · skip
          refine zr (zlL (.agg [zB o1, zI n1]) Try.underlying23 sizeOf_23) ?_
          refine zN ?_
          exact SAny.same [0, 1, 2, 3, 4, 5, 6, 7, 10, 11, 15, 16, 17, 12, 62, 18, 19, 14, 13, 20, 22, 23, 25, 26, 28, 29, 27, 24, 21] [6, 7, 10, 5, 14] sh0 (by kernel_rfl) rfl
      refine SAny.share 4 #[true, true, true, true, true, true, true, false, true, true, false, false, false] (⟨[(0, .agg [zB o0, zI n0, zB o1, zI n1, zB o2, zI n2]), (1, .agg [zB u0, zB u1, zB u2]), (2, .agg [zB m0, zB m1, zB m2]), (3, zB f), (4, zI p), (5, .lptr 5 0), (6, .lptr 6 0), (7, .lptr 7 0), (10, .lptr 10 0), (11, .list true 33 []), (15, .agg [zB o0, zI n0, zB o1, zI n1, zB o2, zI n2]), (16, zI 1), (17, zB true), (12, .list true 33 (E0.map encE)), (62, zI 1), (18, zI 1), (19, .agg [zB o1, zI n1]), (14, .lptr 14 0), (13, zI 1), (20, zI 1), (22, zI 1), (23, .lptr 6 1), (25, zI 1), (26, .lptr 7 1), (28, zB f), (29, zI p), (24, zB u1), (21, .agg [zB o1, zI n1])], [(6, [zB u0, zB u1, zB u2]), (7, [zB m0, zB m1, zB m2]), (10, [zB false, zI 0, zB false, zI 0, zB false, zI 0]), (5, [zB (stOn o0 u0 m0 f n0 p), zI (stN o0 u0 m0 f n0 p), zB o1, zI n1, zB o2, zI n2]), (14, [zB o1, zI n1])], M⟩) ?_ (fun sh3 => ?_)
      · skip
        refine zq [7] ⟨⟨_, rfl, ?_⟩, trivial⟩
        · skip
          refine zr (zlL (zB m1) Try.underlying4 sizeOf_4) ?_
          refine zN ?_
          exact SAny.same [0, 1, 2, 3, 4, 5, 6, 7, 10, 11, 15, 16, 17, 12, 62, 18, 19, 14, 13, 20, 22, 23, 25, 26, 28, 29, 27, 24, 21] [6, 7, 10, 5, 14] sh0 (by kernel_rfl) rfl
      refine zkm 0 (zI 1) ?_
      refine zkm 2 (zI 1) ?_
      refine zk 3 rfl (PReader.indexL (m := 1) rfl Try.underlying25 sizeOf_4 rfl rfl rfl (by decide)) ?_
      refine zkm 5 (zI 1) ?_
      refine zk 6 rfl (PReader.indexL (m := 1) rfl Try.underlying25 sizeOf_4 rfl rfl rfl (by decide)) ?_
      refine zkm 8 (zB f) ?_
      refine zkm 9 (zI p) ?_
      refine zq [1, 4, 7] ⟨⟨_, rfl, ?_⟩, ⟨_, rfl, ?_⟩, ⟨_, rfl, ?_⟩, trivial⟩
      · skip
        refine zr (zlL (.agg [zB o1, zI n1]) Try.underlying23 sizeOf_23) ?_
        refine zN ?_
        refine zq [4, 7] ⟨⟨_, rfl, ?_⟩, ⟨_, rfl, ?_⟩, trivial⟩
        · skip
          refine zr (zlL (zB u1) Try.underlying4 sizeOf_4) ?_
          refine zN ?_
          exact SAny.same [0, 1, 2, 3, 4, 5, 6, 7, 10, 11, 15, 16, 17, 12, 62, 18, 19, 14, 13, 20, 22, 23, 25, 26, 28, 29, 24, 21] [6, 7, 10, 5, 14] sh3 (by kernel_rfl) rfl
        · skip
          refine zr (zlL (zB m1) Try.underlying4 sizeOf_4) ?_
          refine zN ?_
          exact SAny.same [0, 1, 2, 3, 4, 5, 6, 7, 10, 11, 15, 16, 17, 12, 62, 18, 19, 14, 13, 20, 22, 23, 25, 26, 28, 29, 27, 21] [6, 7, 10, 5, 14] sh1 (by kernel_rfl) rfl
      · skip
        refine zr (zlL (zB u1) Try.underlying4 sizeOf_4) ?_
        refine zN ?_
        refine zq [1, 7] ⟨⟨_, rfl, ?_⟩, ⟨_, rfl, ?_⟩, trivial⟩
        · skip
          refine zr (zlL (.agg [zB o1, zI n1]) Try.underlying23 sizeOf_23) ?_
          refine zN ?_
          exact SAny.same [0, 1, 2, 3, 4, 5, 6, 7, 10, 11, 15, 16, 17, 12, 62, 18, 19, 14, 13, 20, 22, 23, 25, 26, 28, 29, 24, 21] [6, 7, 10, 5, 14] sh3 (by kernel_rfl) rfl
        · skip
          refine zr (zlL (zB m1) Try.underlying4 sizeOf_4) ?_
          refine zN ?_
          exact SAny.same [0, 1, 2, 3, 4, 5, 6, 7, 10, 11, 15, 16, 17, 12, 62, 18, 19, 14, 13, 20, 22, 23, 25, 26, 28, 29, 27, 24] [6, 7, 10, 5, 14] sh2 (by kernel_rfl) rfl
      · skip
        refine zr (zlL (zB m1) Try.underlying4 sizeOf_4) ?_
        refine zN ?_
        refine zq [1, 4] ⟨⟨_, rfl, ?_⟩, ⟨_, rfl, ?_⟩, trivial⟩
        · skip
          refine zr (zlL (.agg [zB o1, zI n1]) Try.underlying23 sizeOf_23) ?_
          refine zN ?_
          exact SAny.same [0, 1, 2, 3, 4, 5, 6, 7, 10, 11, 15, 16, 17, 12, 62, 18, 19, 14, 13, 20, 22, 23, 25, 26, 28, 29, 27, 21] [6, 7, 10, 5, 14] sh1 (by kernel_rfl) rfl
        · skip
          refine zr (zlL (zB u1) Try.underlying4 sizeOf_4) ?_
          refine zN ?_
          exact SAny.same [0, 1, 2, 3, 4, 5, 6, 7, 10, 11, 15, 16, 17, 12, 62, 18, 19, 14, 13, 20, 22, 23, 25, 26, 28, 29, 27, 24] [6, 7, 10, 5, 14] sh2 (by kernel_rfl) rfl
    refine AWp.block ?_
    refine zj 32 [(0, .agg [zB o0, zI n0, zB o1, zI n1, zB o2, zI n2]), (1, .agg [zB u0, zB u1, zB u2]), (2, .agg [zB m0, zB m1, zB m2]), (3, zB f), (4, zI p), (5, .lptr 5 0), (6, .lptr 6 0), (7, .lptr 7 0), (10, .lptr 10 0), (11, .list true 33 []), (15, .agg [zB o0, zI n0, zB o1, zI n1, zB o2, zI n2]), (16, zI 1), (17, zB true), (12, .list true 33 (E0.map encE)), (14, .lptr 14 0), (13, zI 1)] [(6, [zB u0, zB u1, zB u2]), (7, [zB m0, zB m1, zB m2]), (10, [zB false, zI 0, zB false, zI 0, zB false, zI 0]), (5, [zB (stOn o0 u0 m0 f n0 p), zI (stN o0 u0 m0 f n0 p), zB (stOn o1 u1 m1 f n1 p), zI (stN o1 u1 m1 f n1 p), zB o2, zI n2]), (14, [zB o1, zI n1])] M (bif (stOn o1 u1 m1 f n1 p) then (!o1) else false) ?_ ?_
    · skip
      refine zM (zI 1) ?_
      refine zr (ziL 1 Try.underlying24 sizeOf_23) ?_
      refine zr (zfL Try.underlying23 sizeOf_4) ?_
      refine zr (zlL (zB (stOn o1 u1 m1 f n1 p)) Try.underlying4 sizeOf_4) ?_
      refine zM (zB (stOn o1 u1 m1 f n1 p)) ?_
      refine AOps.splitJ (t := 37) (b := stOn o1 u1 m1 f n1 p) (x := (!o1)) (y := false) rfl (fun h5 => ?_) (fun h5 => ?_)
      · skip
        refine zr (zfL Try.underlying23 sizeOf_4) ?_
        refine zr (zlL (zB o1) Try.underlying4 sizeOf_4) ?_
        refine zr (zn o1) ?_
        refine zr (zp true (zB (!o1))) ?_
        refine zM (zB (!o1)) ?_
        exact AOps.nil rfl
      · skip
        refine zs ?_
        refine zs ?_
        refine zs ?_
        refine zr (zp false (zB false)) ?_
        refine zM (zB false) ?_
        exact AOps.nil rfl
    refine zC (b := bif (stOn o1 u1 m1 f n1 p) then (!o1) else false) rfl (fun h6 => ?_) (fun h6 => ?_)
    · skip
      refine AWp.region ?_
      refine zT (v := .list true 33 (E0.map encE)) rfl ?_
      refine zM (zI 1) ?_
      refine zr (Reader.build (xs := [(0, zI 6), (2, zI 1)]) (Es := []) (places := places_33) rfl Try.underlying33 (by refine ⟨rfl, fun j p x hp hx => ?_⟩; match j, hp, hx with | 0, hp, hx => cases hp; cases hx; exact ⟨rfl, .inl ⟨rfl, rfl⟩, rfl, rfl⟩ | 1, hp, hx => cases hp; cases hx; exact ⟨rfl, .inl ⟨rfl, rfl⟩, rfl, rfl⟩ | _ + 2, hp, hx => cases hp) zero_33 rfl places_33_ok (cs := [zI 6, .str [], zI 1, zI 0]) rfl) ?_
      refine zbS [] [.agg [zI 6, .str [], zI 1, zI 0]] Try.underlying29 Try.i33 ?_
      refine zap (m1 := E0.length) (m2 := 1) 40 (E0.map encE) [.agg [zI 6, .str [], zI 1, zI 0]] ((E0 ++ [(⟨6, [], 1, 0⟩ : Ev)]).map encE) Try.underlying29 Try.underlying29 Try.i33 (by simp) rfl (by simp [encE]) ?_
      refine zT (v := .list true 33 ((E0 ++ [(⟨6, [], 1, 0⟩ : Ev)]).map encE)) rfl ?_
      refine zN ?_
      exact ⟨(E0 ++ [(⟨6, [], 1, 0⟩ : Ev)]), rfl, (congrArg (E0 ++ ·) (evl_on (by assumption))).symm⟩
    · skip
      refine zj 47 [(32, zB (bif (stOn o1 u1 m1 f n1 p) then (!o1) else false)), (0, .agg [zB o0, zI n0, zB o1, zI n1, zB o2, zI n2]), (1, .agg [zB u0, zB u1, zB u2]), (2, .agg [zB m0, zB m1, zB m2]), (3, zB f), (4, zI p), (5, .lptr 5 0), (6, .lptr 6 0), (7, .lptr 7 0), (10, .lptr 10 0), (11, .list true 33 []), (15, .agg [zB o0, zI n0, zB o1, zI n1, zB o2, zI n2]), (16, zI 1), (17, zB true), (12, .list true 33 (E0.map encE)), (14, .lptr 14 0), (13, zI 1)] [(6, [zB u0, zB u1, zB u2]), (7, [zB m0, zB m1, zB m2]), (10, [zB false, zI 0, zB false, zI 0, zB false, zI 0]), (5, [zB (stOn o0 u0 m0 f n0 p), zI (stN o0 u0 m0 f n0 p), zB (stOn o1 u1 m1 f n1 p), zI (stN o1 u1 m1 f n1 p), zB o2, zI n2]), (14, [zB o1, zI n1])] M (bif (!(stOn o1 u1 m1 f n1 p)) then o1 else false) ?_ ?_
      · skip
        refine zM (zI 1) ?_
        refine zr (ziL 1 Try.underlying24 sizeOf_23) ?_
        refine zr (zfL Try.underlying23 sizeOf_4) ?_
        refine zr (zlL (zB (stOn o1 u1 m1 f n1 p)) Try.underlying4 sizeOf_4) ?_
        refine zr (zn (stOn o1 u1 m1 f n1 p)) ?_
        refine zM (zB (!(stOn o1 u1 m1 f n1 p))) ?_
        refine AOps.splitJ (t := 53) (b := !(stOn o1 u1 m1 f n1 p)) (x := o1) (y := false) rfl (fun h7 => ?_) (fun h7 => ?_)
        · skip
          refine zr (zfL Try.underlying23 sizeOf_4) ?_
          refine zr (zlL (zB o1) Try.underlying4 sizeOf_4) ?_
          refine zr (zp true (zB o1)) ?_
          refine zM (zB o1) ?_
          exact AOps.nil rfl
        · skip
          refine zs ?_
          refine zs ?_
          refine zr (zp false (zB false)) ?_
          refine zM (zB false) ?_
          exact AOps.nil rfl
      refine zC (b := bif (!(stOn o1 u1 m1 f n1 p)) then o1 else false) rfl (fun h8 => ?_) (fun h8 => ?_)
      · skip
        refine AWp.region ?_
        refine zT (v := .list true 33 (E0.map encE)) rfl ?_
        refine zM (zI 1) ?_
        refine zr (Reader.build (xs := [(0, zI 7), (2, zI 1)]) (Es := []) (places := places_33) rfl Try.underlying33 (by refine ⟨rfl, fun j p x hp hx => ?_⟩; match j, hp, hx with | 0, hp, hx => cases hp; cases hx; exact ⟨rfl, .inl ⟨rfl, rfl⟩, rfl, rfl⟩ | 1, hp, hx => cases hp; cases hx; exact ⟨rfl, .inl ⟨rfl, rfl⟩, rfl, rfl⟩ | _ + 2, hp, hx => cases hp) zero_33 rfl places_33_ok (cs := [zI 7, .str [], zI 1, zI 0]) rfl) ?_
        refine zbS [] [.agg [zI 7, .str [], zI 1, zI 0]] Try.underlying29 Try.i33 ?_
        refine zap (m1 := E0.length) (m2 := 1) 40 (E0.map encE) [.agg [zI 7, .str [], zI 1, zI 0]] ((E0 ++ [(⟨7, [], 1, 0⟩ : Ev)]).map encE) Try.underlying29 Try.underlying29 Try.i33 (by simp) rfl (by simp [encE]) ?_
        refine zT (v := .list true 33 ((E0 ++ [(⟨7, [], 1, 0⟩ : Ev)]).map encE)) rfl ?_
        refine zN ?_
        exact ⟨(E0 ++ [(⟨7, [], 1, 0⟩ : Ev)]), rfl, (congrArg (E0 ++ ·) (evl_off (by assumption) (by assumption))).symm⟩
      · skip
        refine AWp.skip ?_
        exact ⟨E0, rfl, (by rw [evl_no (by assumption) (by assumption), List.append_nil])⟩
  rintro _ ⟨E1, rfl, hE1⟩
  have hl1 : E1.length ≤ 2 := by rw [hE1, List.length_append]; have := evL_len o1 (stOn o1 u1 m1 f n1 p) 1; first | omega | (simp only [List.length_nil]; omega)
  refine AWp.region ?_
  refine zr (zd (1 + 1) 2) ?_
  refine zM (zI 2) ?_
  refine zN ?_
  refine AWp.round ?_
  refine zg ?_
  refine zr (zi true) ?_
  refine zN ?_
  refine AWp.seq ?_
  refine AWp.cond (b := true) rfl (fun hx => ?_) (fun hx => by cases hx)
  refine AWp.skip ?_
  refine AWp.mid [0, 1, 2, 3, 4, 5, 6, 7, 10, 11, 15, 16, 17, 12] [6, 7, 10, 5] (fun s => ∃ (E2 : List Ev), s = ⟨[(0, .agg [zB o0, zI n0, zB o1, zI n1, zB o2, zI n2]), (1, .agg [zB u0, zB u1, zB u2]), (2, .agg [zB m0, zB m1, zB m2]), (3, zB f), (4, zI p), (5, .lptr 5 0), (6, .lptr 6 0), (7, .lptr 7 0), (10, .lptr 10 0), (11, .list true 33 []), (15, .agg [zB o0, zI n0, zB o1, zI n1, zB o2, zI n2]), (16, zI 2), (17, zB true), (12, .list true 33 (E2.map encE))], [(6, [zB u0, zB u1, zB u2]), (7, [zB m0, zB m1, zB m2]), (10, [zB false, zI 0, zB false, zI 0, zB false, zI 0]), (5, [zB (stOn o0 u0 m0 f n0 p), zI (stN o0 u0 m0 f n0 p), zB (stOn o1 u1 m1 f n1 p), zI (stN o1 u1 m1 f n1 p), zB (stOn o2 u2 m2 f n2 p), zI (stN o2 u2 m2 f n2 p)])], M⟩ ∧ (E2 = E1 ++ evL o2 (stOn o2 u2 m2 f n2 p) 2)) ?_ ?_
  · skip
    refine AWp.block ?_
    refine zg ?_
    refine zM (zI 2) ?_
    refine zr (Reader.indexV (m := 2) rfl Try.underlying24 Try.underlying23 sizeOf_23 rfl ⟨_, rfl⟩ rfl rfl (by decide) (v := .agg [zB o2, zI n2]) rfl rfl) ?_
    refine zal [] zero_23 [zB false, zI 0] ?_
    refine zM (zI 2) ?_
    refine zst sizeOf_23 (.agg [zB o2, zI n2]) ?_
    refine zN ?_
    refine AWp.seq (AWp.anyR [0, 1, 2, 3, 4, 5, 6, 7, 10, 11, 15, 16, 17, 12, 14, 13] [6, 7, 10, 5, 14] (⟨[(0, .agg [zB o0, zI n0, zB o1, zI n1, zB o2, zI n2]), (1, .agg [zB u0, zB u1, zB u2]), (2, .agg [zB m0, zB m1, zB m2]), (3, zB f), (4, zI p), (5, .lptr 5 0), (6, .lptr 6 0), (7, .lptr 7 0), (10, .lptr 10 0), (11, .list true 33 []), (15, .agg [zB o0, zI n0, zB o1, zI n1, zB o2, zI n2]), (16, zI 2), (17, zB true), (12, .list true 33 (E1.map encE)), (14, .lptr 14 0), (13, zI 2)], [(6, [zB u0, zB u1, zB u2]), (7, [zB m0, zB m1, zB m2]), (10, [zB false, zI 0, zB false, zI 0, zB false, zI 0]), (5, [zB (stOn o0 u0 m0 f n0 p), zI (stN o0 u0 m0 f n0 p), zB (stOn o1 u1 m1 f n1 p), zI (stN o1 u1 m1 f n1 p), zB (stOn o2 u2 m2 f n2 p), zI (stN o2 u2 m2 f n2 p)]), (14, [zB o2, zI n2])], M⟩) (by kernel_rfl) ?_ ?_)
    · skip
      skip
      refine SAny.share 3 #[true, true, true, true, true, true, true, true, true, true, false, false, false] (⟨[(0, .agg [zB o0, zI n0, zB o1, zI n1, zB o2, zI n2]), (1, .agg [zB u0, zB u1, zB u2]), (2, .agg [zB m0, zB m1, zB m2]), (3, zB f), (4, zI p), (5, .lptr 5 0), (6, .lptr 6 0), (7, .lptr 7 0), (10, .lptr 10 0), (11, .list true 33 []), (15, .agg [zB o0, zI n0, zB o1, zI n1, zB o2, zI n2]), (16, zI 2), (17, zB true), (12, .list true 33 (E1.map encE)), (62, zI 2), (18, zI 2), (19, .agg [zB o2, zI n2]), (14, .lptr 14 0), (13, zI 2), (20, zI 2), (22, zI 2), (23, .lptr 6 2), (25, zI 2), (26, .lptr 7 2), (28, zB f), (29, zI p), (27, zB m2), (24, zB u2), (21, .agg [zB o2, zI n2])], [(6, [zB u0, zB u1, zB u2]), (7, [zB m0, zB m1, zB m2]), (10, [zB false, zI 0, zB false, zI 0, zB false, zI 0]), (5, [zB (stOn o0 u0 m0 f n0 p), zI (stN o0 u0 m0 f n0 p), zB (stOn o1 u1 m1 f n1 p), zI (stN o1 u1 m1 f n1 p), zB o2, zI n2]), (14, [zB o2, zI n2])], M⟩) ?_ (fun sh0 => ?_)
      · skip
        refine zq [10] ⟨⟨_, rfl, ?_⟩, trivial⟩
        · skip
          refine zc [.agg [zB o2, zI n2], zB u2, zB m2, zB f, zI p] Try.call8 (cstep_any o2 u2 m2 f n2 p (by omega) M) ?_
          rintro _ _ ⟨rfl, rfl⟩
          refine zN ?_
          refine zk 11 rfl (PReader.indexL (m := 2) rfl Try.underlying24 sizeOf_23 rfl rfl rfl (by decide)) ?_
          refine zq [12] ⟨⟨_, rfl, ?_⟩, trivial⟩
          · skip
            refine zst sizeOf_23 (.agg [zB (stOn o2 u2 m2 f n2 p), zI (stN o2 u2 m2 f n2 p)]) ?_
            refine zN ?_
            exact SAny.done (by kernel_rfl) rfl
      refine SAny.share 4 #[true, true, true, true, false, true, true, true, true, true, false, false, false] (⟨[(0, .agg [zB o0, zI n0, zB o1, zI n1, zB o2, zI n2]), (1, .agg [zB u0, zB u1, zB u2]), (2, .agg [zB m0, zB m1, zB m2]), (3, zB f), (4, zI p), (5, .lptr 5 0), (6, .lptr 6 0), (7, .lptr 7 0), (10, .lptr 10 0), (11, .list true 33 []), (15, .agg [zB o0, zI n0, zB o1, zI n1, zB o2, zI n2]), (16, zI 2), (17, zB true), (12, .list true 33 (E1.map encE)), (62, zI 2), (18, zI 2), (19, .agg [zB o2, zI n2]), (14, .lptr 14 0), (13, zI 2), (20, zI 2), (22, zI 2), (23, .lptr 6 2), (25, zI 2), (26, .lptr 7 2), (28, zB f), (29, zI p), (27, zB m2), (21, .agg [zB o2, zI n2])], [(6, [zB u0, zB u1, zB u2]), (7, [zB m0, zB m1, zB m2]), (10, [zB false, zI 0, zB false, zI 0, zB false, zI 0]), (5, [zB (stOn o0 u0 m0 f n0 p), zI (stN o0 u0 m0 f n0 p), zB (stOn o1 u1 m1 f n1 p), zI (stN o1 u1 m1 f n1 p), zB o2, zI n2]), (14, [zB o2, zI n2])], M⟩) ?_ (fun sh1 => ?_)
      · skip
        refine zq [4] ⟨⟨_, rfl, ?_⟩, trivial⟩
        · skip
          refine zr (zlL (zB u2) Try.underlying4 sizeOf_4) ?_
          refine zN ?_
          exact SAny.same [0, 1, 2, 3, 4, 5, 6, 7, 10, 11, 15, 16, 17, 12, 62, 18, 19, 14, 13, 20, 22, 23, 25, 26, 28, 29, 27, 24, 21] [6, 7, 10, 5, 14] sh0 (by kernel_rfl) rfl
      refine SAny.share 4 #[true, false, true, true, true, true, true, true, true, true, false, false, false] (⟨[(0, .agg [zB o0, zI n0, zB o1, zI n1, zB o2, zI n2]), (1, .agg [zB u0, zB u1, zB u2]), (2, .agg [zB m0, zB m1, zB m2]), (3, zB f), (4, zI p), (5, .lptr 5 0), (6, .lptr 6 0), (7, .lptr 7 0), (10, .lptr 10 0), (11, .list true 33 []), (15, .agg [zB o0, zI n0, zB o1, zI n1, zB o2, zI n2]), (16, zI 2), (17, zB true), (12, .list true 33 (E1.map encE)), (62, zI 2), (18, zI 2), (19, .agg [zB o2, zI n2]), (14, .lptr 14 0), (13, zI 2), (20, zI 2), (22, zI 2), (23, .lptr 6 2), (25, zI 2), (26, .lptr 7 2), (28, zB f), (29, zI p), (27, zB m2), (24, zB u2)], [(6, [zB u0, zB u1, zB u2]), (7, [zB m0, zB m1, zB m2]), (10, [zB false, zI 0, zB false, zI 0, zB false, zI 0]), (5, [zB (stOn o0 u0 m0 f n0 p), zI (stN o0 u0 m0 f n0 p), zB (stOn o1 u1 m1 f n1 p), zI (stN o1 u1 m1 f n1 p), zB o2, zI n2]), (14, [zB o2, zI n2])], M⟩) ?_ (fun sh2 => ?_)
      · skip
        refine zq [1] ⟨⟨_, rfl, ?_⟩, trivial⟩
        · skip
          refine zr (zlL (.agg [zB o2, zI n2]) Try.underlying23 sizeOf_23) ?_
          refine zN ?_
          exact SAny.same [0, 1, 2, 3, 4, 5, 6, 7, 10, 11, 15, 16, 17, 12, 62, 18, 19, 14, 13, 20, 22, 23, 25, 26, 28, 29, 27, 24, 21] [6, 7, 10, 5, 14] sh0 (by kernel_rfl) rfl
      refine SAny.share 4 #[true, true, true, true, true, true, true, false, true, true, false, false, false] (⟨[(0, .agg [zB o0, zI n0, zB o1, zI n1, zB o2, zI n2]), (1, .agg [zB u0, zB u1, zB u2]), (2, .agg [zB m0, zB m1, zB m2]), (3, zB f), (4, zI p), (5, .lptr 5 0), (6, .lptr 6 0), (7, .lptr 7 0), (10, .lptr 10 0), (11, .list true 33 []), (15, .agg [zB o0, zI n0, zB o1, zI n1, zB o2, zI n2]), (16, zI 2), (17, zB true), (12, .list true 33 (E1.map encE)), (62, zI 2), (18, zI 2), (19, .agg [zB o2, zI n2]), (14, .lptr 14 0), (13, zI 2), (20, zI 2), (22, zI 2), (23, .lptr 6 2), (25, zI 2), (26, .lptr 7 2), (28, zB f), (29, zI p), (24, zB u2), (21, .agg [zB o2, zI n2])], [(6, [zB u0, zB u1, zB u2]), (7, [zB m0, zB m1, zB m2]), (10, [zB false, zI 0, zB false, zI 0, zB false, zI 0]), (5, [zB (stOn o0 u0 m0 f n0 p), zI (stN o0 u0 m0 f n0 p), zB (stOn o1 u1 m1 f n1 p), zI (stN o1 u1 m1 f n1 p), zB o2, zI n2]), (14, [zB o2, zI n2])], M⟩) ?_ (fun sh3 => ?_)
      · skip
        refine zq [7] ⟨⟨_, rfl, ?_⟩, trivial⟩
        · skip
          refine zr (zlL (zB m2) Try.underlying4 sizeOf_4) ?_
          refine zN ?_
          exact SAny.same [0, 1, 2, 3, 4, 5, 6, 7, 10, 11, 15, 16, 17, 12, 62, 18, 19, 14, 13, 20, 22, 23, 25, 26, 28, 29, 27, 24, 21] [6, 7, 10, 5, 14] sh0 (by kernel_rfl) rfl
      refine zkm 0 (zI 2) ?_
      refine zkm 2 (zI 2) ?_
      refine zk 3 rfl (PReader.indexL (m := 2) rfl Try.underlying25 sizeOf_4 rfl rfl rfl (by decide)) ?_
      refine zkm 5 (zI 2) ?_
      refine zk 6 rfl (PReader.indexL (m := 2) rfl Try.underlying25 sizeOf_4 rfl rfl rfl (by decide)) ?_
      refine zkm 8 (zB f) ?_
      refine zkm 9 (zI p) ?_
      refine zq [1, 4, 7] ⟨⟨_, rfl, ?_⟩, ⟨_, rfl, ?_⟩, ⟨_, rfl, ?_⟩, trivial⟩
      · skip
        refine zr (zlL (.agg [zB o2, zI n2]) Try.underlying23 sizeOf_23) ?_
        refine zN ?_
        refine zq [4, 7] ⟨⟨_, rfl, ?_⟩, ⟨_, rfl, ?_⟩, trivial⟩
        · skip
          refine zr (zlL (zB u2) Try.underlying4 sizeOf_4) ?_
          refine zN ?_
          exact SAny.same [0, 1, 2, 3, 4, 5, 6, 7, 10, 11, 15, 16, 17, 12, 62, 18, 19, 14, 13, 20, 22, 23, 25, 26, 28, 29, 24, 21] [6, 7, 10, 5, 14] sh3 (by kernel_rfl) rfl
        · skip
          refine zr (zlL (zB m2) Try.underlying4 sizeOf_4) ?_
          refine zN ?_
          exact SAny.same [0, 1, 2, 3, 4, 5, 6, 7, 10, 11, 15, 16, 17, 12, 62, 18, 19, 14, 13, 20, 22, 23, 25, 26, 28, 29, 27, 21] [6, 7, 10, 5, 14] sh1 (by kernel_rfl) rfl
      · skip
        refine zr (zlL (zB u2) Try.underlying4 sizeOf_4) ?_
        refine zN ?_
        refine zq [1, 7] ⟨⟨_, rfl, ?_⟩, ⟨_, rfl, ?_⟩, trivial⟩
        · skip
          refine zr (zlL (.agg [zB o2, zI n2]) Try.underlying23 sizeOf_23) ?_
          refine zN ?_
          exact SAny.same [0, 1, 2, 3, 4, 5, 6, 7, 10, 11, 15, 16, 17, 12, 62, 18, 19, 14, 13, 20, 22, 23, 25, 26, 28, 29, 24, 21] [6, 7, 10, 5, 14] sh3 (by kernel_rfl) rfl
        · skip
          refine zr (zlL (zB m2) Try.underlying4 sizeOf_4) ?_
          refine zN ?_
          exact SAny.same [0, 1, 2, 3, 4, 5, 6, 7, 10, 11, 15, 16, 17, 12, 62, 18, 19, 14, 13, 20, 22, 23, 25, 26, 28, 29, 27, 24] [6, 7, 10, 5, 14] sh2 (by kernel_rfl) rfl
      · skip
        refine zr (zlL (zB m2) Try.underlying4 sizeOf_4) ?_
        refine zN ?_
        refine zq [1, 4] ⟨⟨_, rfl, ?_⟩, ⟨_, rfl, ?_⟩, trivial⟩
        · skip
          refine zr (zlL (.agg [zB o2, zI n2]) Try.underlying23 sizeOf_23) ?_
          refine zN ?_
          exact SAny.same [0, 1, 2, 3, 4, 5, 6, 7, 10, 11, 15, 16, 17, 12, 62, 18, 19, 14, 13, 20, 22, 23, 25, 26, 28, 29, 27, 21] [6, 7, 10, 5, 14] sh1 (by kernel_rfl) rfl
        · skip
          refine zr (zlL (zB u2) Try.underlying4 sizeOf_4) ?_
          refine zN ?_
          exact SAny.same [0, 1, 2, 3, 4, 5, 6, 7, 10, 11, 15, 16, 17, 12, 62, 18, 19, 14, 13, 20, 22, 23, 25, 26, 28, 29, 27, 24] [6, 7, 10, 5, 14] sh2 (by kernel_rfl) rfl
    refine AWp.block ?_
    refine zj 32 [(0, .agg [zB o0, zI n0, zB o1, zI n1, zB o2, zI n2]), (1, .agg [zB u0, zB u1, zB u2]), (2, .agg [zB m0, zB m1, zB m2]), (3, zB f), (4, zI p), (5, .lptr 5 0), (6, .lptr 6 0), (7, .lptr 7 0), (10, .lptr 10 0), (11, .list true 33 []), (15, .agg [zB o0, zI n0, zB o1, zI n1, zB o2, zI n2]), (16, zI 2), (17, zB true), (12, .list true 33 (E1.map encE)), (14, .lptr 14 0), (13, zI 2)] [(6, [zB u0, zB u1, zB u2]), (7, [zB m0, zB m1, zB m2]), (10, [zB false, zI 0, zB false, zI 0, zB false, zI 0]), (5, [zB (stOn o0 u0 m0 f n0 p), zI (stN o0 u0 m0 f n0 p), zB (stOn o1 u1 m1 f n1 p), zI (stN o1 u1 m1 f n1 p), zB (stOn o2 u2 m2 f n2 p), zI (stN o2 u2 m2 f n2 p)]), (14, [zB o2, zI n2])] M (bif (stOn o2 u2 m2 f n2 p) then (!o2) else false) ?_ ?_
    · skip
      refine zM (zI 2) ?_
      refine zr (ziL 2 Try.underlying24 sizeOf_23) ?_
      refine zr (zfL Try.underlying23 sizeOf_4) ?_
      refine zr (zlL (zB (stOn o2 u2 m2 f n2 p)) Try.underlying4 sizeOf_4) ?_
      refine zM (zB (stOn o2 u2 m2 f n2 p)) ?_
      refine AOps.splitJ (t := 37) (b := stOn o2 u2 m2 f n2 p) (x := (!o2)) (y := false) rfl (fun h9 => ?_) (fun h9 => ?_)
      · skip
        refine zr (zfL Try.underlying23 sizeOf_4) ?_
        refine zr (zlL (zB o2) Try.underlying4 sizeOf_4) ?_
        refine zr (zn o2) ?_
        refine zr (zp true (zB (!o2))) ?_
        refine zM (zB (!o2)) ?_
        exact AOps.nil rfl
      · skip
        refine zs ?_
        refine zs ?_
        refine zs ?_
        refine zr (zp false (zB false)) ?_
        refine zM (zB false) ?_
        exact AOps.nil rfl
    refine zC (b := bif (stOn o2 u2 m2 f n2 p) then (!o2) else false) rfl (fun h10 => ?_) (fun h10 => ?_)
    · skip
      refine AWp.region ?_
      refine zT (v := .list true 33 (E1.map encE)) rfl ?_
      refine zM (zI 2) ?_
      refine zr (Reader.build (xs := [(0, zI 6), (2, zI 2)]) (Es := []) (places := places_33) rfl Try.underlying33 (by refine ⟨rfl, fun j p x hp hx => ?_⟩; match j, hp, hx with | 0, hp, hx => cases hp; cases hx; exact ⟨rfl, .inl ⟨rfl, rfl⟩, rfl, rfl⟩ | 1, hp, hx => cases hp; cases hx; exact ⟨rfl, .inl ⟨rfl, rfl⟩, rfl, rfl⟩ | _ + 2, hp, hx => cases hp) zero_33 rfl places_33_ok (cs := [zI 6, .str [], zI 2, zI 0]) rfl) ?_
      refine zbS [] [.agg [zI 6, .str [], zI 2, zI 0]] Try.underlying29 Try.i33 ?_
      refine zap (m1 := E1.length) (m2 := 1) 40 (E1.map encE) [.agg [zI 6, .str [], zI 2, zI 0]] ((E1 ++ [(⟨6, [], 2, 0⟩ : Ev)]).map encE) Try.underlying29 Try.underlying29 Try.i33 (by simp) rfl (by simp [encE]) ?_
      refine zT (v := .list true 33 ((E1 ++ [(⟨6, [], 2, 0⟩ : Ev)]).map encE)) rfl ?_
      refine zN ?_
      exact ⟨(E1 ++ [(⟨6, [], 2, 0⟩ : Ev)]), rfl, (congrArg (E1 ++ ·) (evl_on (by assumption))).symm⟩
    · skip
      refine zj 47 [(32, zB (bif (stOn o2 u2 m2 f n2 p) then (!o2) else false)), (0, .agg [zB o0, zI n0, zB o1, zI n1, zB o2, zI n2]), (1, .agg [zB u0, zB u1, zB u2]), (2, .agg [zB m0, zB m1, zB m2]), (3, zB f), (4, zI p), (5, .lptr 5 0), (6, .lptr 6 0), (7, .lptr 7 0), (10, .lptr 10 0), (11, .list true 33 []), (15, .agg [zB o0, zI n0, zB o1, zI n1, zB o2, zI n2]), (16, zI 2), (17, zB true), (12, .list true 33 (E1.map encE)), (14, .lptr 14 0), (13, zI 2)] [(6, [zB u0, zB u1, zB u2]), (7, [zB m0, zB m1, zB m2]), (10, [zB false, zI 0, zB false, zI 0, zB false, zI 0]), (5, [zB (stOn o0 u0 m0 f n0 p), zI (stN o0 u0 m0 f n0 p), zB (stOn o1 u1 m1 f n1 p), zI (stN o1 u1 m1 f n1 p), zB (stOn o2 u2 m2 f n2 p), zI (stN o2 u2 m2 f n2 p)]), (14, [zB o2, zI n2])] M (bif (!(stOn o2 u2 m2 f n2 p)) then o2 else false) ?_ ?_
      · skip
        refine zM (zI 2) ?_
        refine zr (ziL 2 Try.underlying24 sizeOf_23) ?_
        refine zr (zfL Try.underlying23 sizeOf_4) ?_
        refine zr (zlL (zB (stOn o2 u2 m2 f n2 p)) Try.underlying4 sizeOf_4) ?_
        refine zr (zn (stOn o2 u2 m2 f n2 p)) ?_
        refine zM (zB (!(stOn o2 u2 m2 f n2 p))) ?_
        refine AOps.splitJ (t := 53) (b := !(stOn o2 u2 m2 f n2 p)) (x := o2) (y := false) rfl (fun h11 => ?_) (fun h11 => ?_)
        · skip
          refine zr (zfL Try.underlying23 sizeOf_4) ?_
          refine zr (zlL (zB o2) Try.underlying4 sizeOf_4) ?_
          refine zr (zp true (zB o2)) ?_
          refine zM (zB o2) ?_
          exact AOps.nil rfl
        · skip
          refine zs ?_
          refine zs ?_
          refine zr (zp false (zB false)) ?_
          refine zM (zB false) ?_
          exact AOps.nil rfl
      refine zC (b := bif (!(stOn o2 u2 m2 f n2 p)) then o2 else false) rfl (fun h12 => ?_) (fun h12 => ?_)
      · skip
        refine AWp.region ?_
        refine zT (v := .list true 33 (E1.map encE)) rfl ?_
        refine zM (zI 2) ?_
        refine zr (Reader.build (xs := [(0, zI 7), (2, zI 2)]) (Es := []) (places := places_33) rfl Try.underlying33 (by refine ⟨rfl, fun j p x hp hx => ?_⟩; match j, hp, hx with | 0, hp, hx => cases hp; cases hx; exact ⟨rfl, .inl ⟨rfl, rfl⟩, rfl, rfl⟩ | 1, hp, hx => cases hp; cases hx; exact ⟨rfl, .inl ⟨rfl, rfl⟩, rfl, rfl⟩ | _ + 2, hp, hx => cases hp) zero_33 rfl places_33_ok (cs := [zI 7, .str [], zI 2, zI 0]) rfl) ?_
        refine zbS [] [.agg [zI 7, .str [], zI 2, zI 0]] Try.underlying29 Try.i33 ?_
        refine zap (m1 := E1.length) (m2 := 1) 40 (E1.map encE) [.agg [zI 7, .str [], zI 2, zI 0]] ((E1 ++ [(⟨7, [], 2, 0⟩ : Ev)]).map encE) Try.underlying29 Try.underlying29 Try.i33 (by simp) rfl (by simp [encE]) ?_
        refine zT (v := .list true 33 ((E1 ++ [(⟨7, [], 2, 0⟩ : Ev)]).map encE)) rfl ?_
        refine zN ?_
        exact ⟨(E1 ++ [(⟨7, [], 2, 0⟩ : Ev)]), rfl, (congrArg (E1 ++ ·) (evl_off (by assumption) (by assumption))).symm⟩
      · skip
        refine AWp.skip ?_
        exact ⟨E1, rfl, (by rw [evl_no (by assumption) (by assumption), List.append_nil])⟩
  rintro _ ⟨E2, rfl, hE2⟩
  have hl2 : E2.length ≤ 3 := by rw [hE2, List.length_append]; have := evL_len o2 (stOn o2 u2 m2 f n2 p) 2; first | omega | (simp only [List.length_nil]; omega)
  refine AWp.region ?_
  refine zr (zd (2 + 1) 3) ?_
  refine zM (zI 3) ?_
  refine zN ?_
  refine AWp.round ?_
  refine zg ?_
  refine zr (zi false) ?_
  refine zN ?_
  refine AWp.seq ?_
  refine AWp.cond (b := false) rfl (fun hx => by cases hx) (fun hx => ?_)
  refine AWp.exit ?_
  refine zg ?_
  refine zr (zlL (.agg [zB (stOn o0 u0 m0 f n0 p), zI (stN o0 u0 m0 f n0 p), zB (stOn o1 u1 m1 f n1 p), zI (stN o1 u1 m1 f n1 p), zB (stOn o2 u2 m2 f n2 p), zI (stN o2 u2 m2 f n2 p)]) Try.underlying24 sizeOf_24) ?_
  refine zT (v := .list true 33 (E2.map encE)) rfl ?_
  refine zst sizeOf_24 (.agg [zB (stOn o0 u0 m0 f n0 p), zI (stN o0 u0 m0 f n0 p), zB (stOn o1 u1 m1 f n1 p), zI (stN o1 u1 m1 f n1 p), zB (stOn o2 u2 m2 f n2 p), zI (stN o2 u2 m2 f n2 p)]) ?_
  refine zT (v := .list true 33 (E2.map encE)) rfl ?_
  refine zN ?_
  refine AWp.ret ?_
  exact ⟨.inl rfl, _, ResOf.cellTmp 10 10 0 6 24 _ _ (.agg [zB (stOn o0 u0 m0 f n0 p), zI (stN o0 u0 m0 f n0 p), zB (stOn o1 u1 m1 f n1 p), zI (stN o1 u1 m1 f n1 p), zB (stOn o2 u2 m2 f n2 p), zI (stN o2 u2 m2 f n2 p)]) rfl rfl Try.underlying24 sizeOf_24 rfl (Eq.refl true) 11 (.list true 33 (E2.map encE)) rfl (.inr ⟨_, _, rfl⟩), ⟨by rw [hE2, hE1, hE0], rfl⟩⟩

end Go.Proofs.Ytfnbfkgknfagmaa
