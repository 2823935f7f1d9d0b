/- Walks over abstract values, printed by my program av.py. -/
import Derived.Test.YtfnbfkgknfagmaaCo3
import Derived.Test.YtfnbfkgknfagmaaAvZ
namespace Go.Proofs.Ytfnbfkgknfagmaa
open Go.RowKit

set_option maxRecDepth 20000 in
theorem CondApart_1 (w0 : World) (hfx : Fix (Gh.start w0) w0) (o0 o1 o2 u0 u1 u2 m0 m1 m2 f : Bool) (n0 n1 n2 p : Int) (n : Nat) (hk : n % 3 = 1) : Calls Try.prog 3 [.agg #[.bool o0, .int .i64 n0, .bool o1, .int .i64 n1, .bool o2, .int .i64 n2], .agg #[.bool u0, .bool u1, .bool u2], .agg #[.bool m0, .bool m1, .bool m2], .bool f, .int .i64 p, .int .u8 (n : Int)].toArray w0 fun e w' => e = .returned (.bool true) ∧ Below w0.heap.size w0 w' := by
  refine TWp.law (args := [.agg [zB o0, zI n0, zB o1, zI n1, zB o2, zI n2], .agg [zB u0, zB u1, zB u2], .agg [zB m0, zB m1, zB m2], zB f, zI p, .lit (.int .u8 (n : Int))]) Try.func3 rfl (n := 135) rfl rfl hfx rfl (by intro j x v hx hv; match j, hx, hv with | 0, hx, hv => cases hx; cases hv; exact rel_conc rfl | 1, hx, hv => cases hx; cases hv; exact rel_conc rfl | 2, hx, hv => cases hx; cases hv; exact rel_conc rfl | 3, hx, hv => cases hx; cases hv; exact RelV.lit _ | 4, hx, hv => cases hx; cases hv; exact RelV.lit _ | 5, hx, hv => cases hx; cases hv; exact RelV.lit _ | _ + 6, hx, hv => cases hx) ?_
  refine TWp.seqA (AWp.region ?_)
  refine AOps.box trivial rfl (by decide) rfl (noL rfl) rfl (v := .agg [zB o0, zI n0, zB o1, zI n1, zB o2, zI n2]) (.inl ⟨rfl, rfl⟩) rfl rfl (all_flat rfl) ?_
  refine AOps.box trivial rfl (by decide) rfl (noL rfl) rfl (v := .agg [zB u0, zB u1, zB u2]) (.inl ⟨rfl, rfl⟩) rfl rfl (all_flat rfl) ?_
  refine AOps.box trivial rfl (by decide) rfl (noL rfl) rfl (v := .agg [zB m0, zB m1, zB m2]) (.inl ⟨rfl, rfl⟩) rfl rfl (all_flat rfl) ?_
  refine zM (zB false) ?_
  refine zN ?_
  refine TWp.seq ?_
  refine TWp.seqA (AWp.region ?_)
  refine zc [] Try.call4 (awake_any noM) ?_
  rintro _ _ ⟨rfl, rfl⟩
  refine zr (zn true) ?_
  refine zM (zB false) ?_
  refine zM (zI p) ?_
  refine zc [zI p] Try.call5 (period_any p noM) ?_
  rintro _ _ ⟨rfl, rfl⟩
  refine zr (zn (periodB p)) ?_
  refine zr (zp false (zB (!(periodB p)))) ?_
  refine zN ?_
  refine TWp.cond (b := !(periodB p)) rfl (fun h1 => ?_) (fun h1 => ?_)
  · skip
    have h1' : ¬ (1 ≤ p ∧ p ≤ 1000) := (per_f (bnot_t h1))
    clear h1
    refine TWp.seqA (AWp.region ?_)
    refine zc [] Try.call4 (awake_any noM) ?_
    rintro _ _ ⟨rfl, rfl⟩
    refine zM (zB true) ?_
    refine zN ?_
    refine TWp.ret ?_
    exact ⟨.inl rfl, _, ResOf.one 12 (zB true) rfl rfl, rfl⟩
  · skip
    have h1' : 1 ≤ p ∧ p ≤ 1000 := (per_t (bnot_f h1))
    clear h1
    refine TWp.skip ?_
    refine TWp.seq ?_
    refine TWp.seqA (AWp.region ?_)
    refine zM (zI 0) ?_
    refine zN ?_
    refine TWp.block ?_
    refine TWp.unroll 4 ?_
    refine TWp.round ?_
    refine TWp.seq ?_
    refine TWp.seqA (AWp.region ?_)
    refine zM (zI 0) ?_
    refine zr (zi true) ?_
    refine zN ?_
    refine TWp.cond (b := true) rfl (fun hx => ?_) (fun hx => by cases hx)
    refine TWp.skip ?_
    refine TWp.seq ?_
    refine TWp.block ?_
    refine TWp.seqA (AWp.region ?_)
    refine zM (zI 0) ?_
    refine zr (ziL 0 Try.underlying24 sizeOf_23) ?_
    refine zr (zlL (.agg [zB o0, zI n0]) Try.underlying23 sizeOf_23) ?_
    refine zM (zI p) ?_
    refine zc [.agg [zB o0, zI n0], zI p] Try.call6 (rright_any o0 n0 p noM) ?_
    rintro _ _ ⟨rfl, rfl⟩
    refine zr (zn (rightB o0 n0 p)) ?_
    refine zN ?_
    refine TWp.cond (b := !(rightB o0 n0 p)) rfl (fun h2 => ?_) (fun h2 => ?_)
    · skip
      have h2' : rightB o0 n0 p = false := (bnot_t h2)
      clear h2
      refine TWp.seqA (AWp.region ?_)
      refine zM (zB true) ?_
      refine zN ?_
      refine TWp.ret ?_
      exact ⟨.inl rfl, _, ResOf.one 12 (zB true) rfl rfl, rfl⟩
    · skip
      have h2' : rightB o0 n0 p = true := (bnot_f h2)
      clear h2
      refine TWp.skip ?_
      refine TWp.region ?_
      refine zM (zI 0) ?_
      refine zr (zd (0 + 1) 1) ?_
      refine zM (zI 1) ?_
      refine zN ?_
      refine TWp.round ?_
      refine TWp.seq ?_
      refine TWp.seqA (AWp.region ?_)
      refine zM (zI 1) ?_
      refine zr (zi true) ?_
      refine zN ?_
      refine TWp.cond (b := true) rfl (fun hx => ?_) (fun hx => by cases hx)
      refine TWp.skip ?_
      refine TWp.seq ?_
      refine TWp.block ?_
      refine TWp.seqA (AWp.region ?_)
      refine zM (zI 1) ?_
      refine zr (ziL 1 Try.underlying24 sizeOf_23) ?_
      refine zr (zlL (.agg [zB o1, zI n1]) Try.underlying23 sizeOf_23) ?_
      refine zM (zI p) ?_
      refine zc [.agg [zB o1, zI n1], zI p] Try.call6 (rright_any o1 n1 p noM) ?_
      rintro _ _ ⟨rfl, rfl⟩
      refine zr (zn (rightB o1 n1 p)) ?_
      refine zN ?_
      refine TWp.cond (b := !(rightB o1 n1 p)) rfl (fun h3 => ?_) (fun h3 => ?_)
      · skip
        have h3' : rightB o1 n1 p = false := (bnot_t h3)
        clear h3
        refine TWp.seqA (AWp.region ?_)
        refine zM (zB true) ?_
        refine zN ?_
        refine TWp.ret ?_
        exact ⟨.inl rfl, _, ResOf.one 12 (zB true) rfl rfl, rfl⟩
      · skip
        have h3' : rightB o1 n1 p = true := (bnot_f h3)
        clear h3
        refine TWp.skip ?_
        refine TWp.region ?_
        refine zM (zI 1) ?_
        refine zr (zd (1 + 1) 2) ?_
        refine zM (zI 2) ?_
        refine zN ?_
        refine TWp.round ?_
        refine TWp.seq ?_
        refine TWp.seqA (AWp.region ?_)
        refine zM (zI 2) ?_
        refine zr (zi true) ?_
        refine zN ?_
        refine TWp.cond (b := true) rfl (fun hx => ?_) (fun hx => by cases hx)
        refine TWp.skip ?_
        refine TWp.seq ?_
        refine TWp.block ?_
        refine TWp.seqA (AWp.region ?_)
        refine zM (zI 2) ?_
        refine zr (ziL 2 Try.underlying24 sizeOf_23) ?_
        refine zr (zlL (.agg [zB o2, zI n2]) Try.underlying23 sizeOf_23) ?_
        refine zM (zI p) ?_
        refine zc [.agg [zB o2, zI n2], zI p] Try.call6 (rright_any o2 n2 p noM) ?_
        rintro _ _ ⟨rfl, rfl⟩
        refine zr (zn (rightB o2 n2 p)) ?_
        refine zN ?_
        refine TWp.cond (b := !(rightB o2 n2 p)) rfl (fun h4 => ?_) (fun h4 => ?_)
        · skip
          have h4' : rightB o2 n2 p = false := (bnot_t h4)
          clear h4
          refine TWp.seqA (AWp.region ?_)
          refine zM (zB true) ?_
          refine zN ?_
          refine TWp.ret ?_
          exact ⟨.inl rfl, _, ResOf.one 12 (zB true) rfl rfl, rfl⟩
        · skip
          have h4' : rightB o2 n2 p = true := (bnot_f h4)
          clear h4
          refine TWp.skip ?_
          refine TWp.region ?_
          refine zM (zI 2) ?_
          refine zr (zd (2 + 1) 3) ?_
          refine zM (zI 3) ?_
          refine zN ?_
          refine TWp.round ?_
          refine TWp.seq ?_
          refine TWp.seqA (AWp.region ?_)
          refine zM (zI 3) ?_
          refine zr (zi false) ?_
          refine zN ?_
          refine TWp.cond (b := false) rfl (fun hx => by cases hx) (fun hx => ?_)
          refine TWp.exit ?_
          refine TWp.seqA (AWp.region ?_)
          refine zM (.lit (.int .u8 (n : Int))) ?_
          refine zr (Reader.rem rfl rfl rfl (by decide) (c := 1) (by exact (nat_rem _ _).trans (congrArg (fun z : Nat => (z : Int)) hk))) ?_
          refine zr (Reader.conv rfl Try.underlying5 Try.underlying3 (by simp) rfl (c := 1) (by first | exact IntWalk.i64_in _ (by omega) | exact IntWalk.i64_in _ (by constructor <;> omega) | (simp only [];omega))) ?_
          refine zM (zI 1) ?_
          refine zN ?_
          refine TWp.seqA (AWp.region ?_)
          refine zr (zlL (.agg [zB o0, zI n0, zB o1, zI n1, zB o2, zI n2]) Try.underlying24 sizeOf_24) ?_
          refine zr (zlL (.agg [zB u0, zB u1, zB u2]) Try.underlying25 sizeOf_25) ?_
          refine zr (zlL (.agg [zB m0, zB m1, zB m2]) Try.underlying25 sizeOf_25) ?_
          refine zM (zB f) ?_
          refine zM (zI p) ?_
          refine zc [.agg [zB o0, zI n0, zB o1, zI n1, zB o2, zI n2], .agg [zB u0, zB u1, zB u2], .agg [zB m0, zB m1, zB m2], zB f, zI p] Try.call7 (call_any o0 o1 o2 u0 u1 u2 m0 m1 m2 f n0 n1 n2 p (rb_b (show rightB o0 n0 p = true by assumption) (by omega)) (rb_b (show rightB o1 n1 p = true by assumption) (by omega)) (rb_b (show rightB o2 n2 p = true by assumption) (by omega)) noM) ?_
          rintro _ _ ⟨rfl, rfl⟩
          refine zT (v := .tuple [.agg [zB (stOn o0 u0 m0 f n0 p), zI (stN o0 u0 m0 f n0 p), zB (stOn o1 u1 m1 f n1 p), zI (stN o1 u1 m1 f n1 p), zB (stOn o2 u2 m2 f n2 p), zI (stN o2 u2 m2 f n2 p)], .list true 33 ((evA o0 o1 o2 (stOn o0 u0 m0 f n0 p) (stOn o1 u1 m1 f n1 p) (stOn o2 u2 m2 f n2 p)).map encE)]) rfl ?_
          refine zr (zx (.agg [zB (stOn o0 u0 m0 f n0 p), zI (stN o0 u0 m0 f n0 p), zB (stOn o1 u1 m1 f n1 p), zI (stN o1 u1 m1 f n1 p), zB (stOn o2 u2 m2 f n2 p), zI (stN o2 u2 m2 f n2 p)])) ?_
          refine AOps.take trivial rfl (by decide) (by decide) rfl rfl (v := .list true 33 ((evA o0 o1 o2 (stOn o0 u0 m0 f n0 p) (stOn o1 u1 m1 f n1 p) (stOn o2 u2 m2 f n2 p)).map encE)) rfl (.inr ⟨_, _, rfl⟩) ?_
          refine zal [] zero_24 [zB false, zI 0, zB false, zI 0, zB false, zI 0] ?_
          refine zst sizeOf_24 (.agg [zB (stOn o0 u0 m0 f n0 p), zI (stN o0 u0 m0 f n0 p), zB (stOn o1 u1 m1 f n1 p), zI (stN o1 u1 m1 f n1 p), zB (stOn o2 u2 m2 f n2 p), zI (stN o2 u2 m2 f n2 p)]) ?_
          refine zT (v := .list true 33 ((evA o0 o1 o2 (stOn o0 u0 m0 f n0 p) (stOn o1 u1 m1 f n1 p) (stOn o2 u2 m2 f n2 p)).map encE)) rfl ?_
          refine zN ?_
          refine TWp.seq ?_
          refine TWp.seqA (AWp.region ?_)
          refine zM (zI 0) ?_
          refine zN ?_
          refine TWp.block ?_
          refine TWp.loopE [3, 4, 6, 7, 8, 14, 15, 16, 17] [6, 7, 8, 15] (fun m s => ∃ (i : Nat) (E : List Ev), m = (evA o0 o1 o2 (stOn o0 u0 m0 f n0 p) (stOn o1 u1 m1 f n1 p) (stOn o2 u2 m2 f n2 p)).length - i ∧ s = ⟨[(3, zB f), (4, zI p), (6, .lptr 6 0), (7, .lptr 7 0), (8, .lptr 8 0), (14, zI 1), (15, .lptr 15 0), (16, .list true 33 (E.map encE)), (17, zI (i : Int))], [(6, [zB o0, zI n0, zB o1, zI n1, zB o2, zI n2]), (7, [zB u0, zB u1, zB u2]), (8, [zB m0, zB m1, zB m2]), (15, [zB (stOn o0 u0 m0 f n0 p), zI (stN o0 u0 m0 f n0 p), zB (stOn o1 u1 m1 f n1 p), zI (stN o1 u1 m1 f n1 p), zB (stOn o2 u2 m2 f n2 p), zI (stN o2 u2 m2 f n2 p)])], noM⟩ ∧ (i ≤ (evA o0 o1 o2 (stOn o0 u0 m0 f n0 p) (stOn o1 u1 m1 f n1 p) (stOn o2 u2 m2 f n2 p)).length) ∧ (E.length = (evA o0 o1 o2 (stOn o0 u0 m0 f n0 p) (stOn o1 u1 m1 f n1 p) (stOn o2 u2 m2 f n2 p)).length)) ?_ ?_
          · exact ⟨_, 0, (evA o0 o1 o2 (stOn o0 u0 m0 f n0 p) (stOn o1 u1 m1 f n1 p) (stOn o2 u2 m2 f n2 p)), rfl, rfl, Nat.zero_le _, rfl⟩
          · rintro _ _ ⟨i, E, rfl, rfl, hi, hE⟩
            have hl1 := evA_le o0 o1 o2 (stOn o0 u0 m0 f n0 p) (stOn o1 u1 m1 f n1 p) (stOn o2 u2 m2 f n2 p)
            refine TWp.seq ?_
            refine TWp.seqA (AWp.region ?_)
            refine zM (zI (i : Int)) ?_
            refine zM (.list false 33 (E.map encE)) ?_
            refine zr (zL (E.map encE) E.length Try.underlying29 (by simp)) ?_
            refine zr (zi (decide ((i : Int) < (E.length : Int)))) ?_
            refine zN ?_
            refine TWp.cond (b := decide ((i : Int) < (E.length : Int))) rfl (fun h5 => ?_) (fun h5 => ?_)
            · skip
              have h5' : i < E.length := (by have hh := of_decide_eq_true h5; omega)
              clear h5
              refine TWp.skip ?_
              refine TWp.seq ?_
              refine TWp.block ?_
              refine TWp.setAgg (m := i) (ys := ((E.set i e0).map encE)) (vs := [(.int .i64 0), .string ⟨([]).toArray⟩, (.int .i64 0), (.int .i64 0)]) (cs := [zI 0, .str [], zI 0, zI 0]) [3, 4, 6, 7, 8, 14, 15, 16, 17] .i64 ⟨rfl, rfl, rfl⟩ ⟨rfl, rfl, rfl⟩ ⟨rfl, rfl, rfl⟩ ⟨rfl, rfl, rfl⟩ ⟨rfl, rfl⟩ (Reader.build (xs := []) (Es := []) (places := places_33) rfl Try.underlying33 (by refine ⟨rfl, fun j p x hp hx => ?_⟩; match j, hp, hx with | _ + 0, hp, hx => cases hp) zero_33 rfl places_33_ok (cs := [zI 0, .str [], zI 0, zI 0]) rfl) rfl (by decide) Try.underlying29 sizeOf_33 sizeOf_33 rfl rfl (by rw [List.length_map]; omega) rfl (by simp [Value.oneCell']) (evs_mf _) rfl (loc_mf rfl) rfl (all_scalar rfl) (by rw [List.map_set]; rfl) ?_
              refine TWp.region ?_
              refine zM (zI (i : Int)) ?_
              refine zr (zw ((i : Int) + 1) ((i + 1 : Nat) : Int)) ?_
              refine zM (zI ((i + 1 : Nat) : Int)) ?_
              refine zN ?_
              exact ⟨_, by omega, i + 1, E.set i e0, rfl, rfl, by omega, by rw [List.length_set]; exact hE⟩
            · skip
              have h5' : ¬ (i < E.length) := (by have hh := of_decide_eq_false h5; omega)
              clear h5
              refine TWp.exit ?_
              refine TWp.seqA (AWp.region ?_)
              refine zM (zI 1) ?_
              refine zM (zI 1) ?_
              refine zr (ziL 1 Try.underlying25 sizeOf_4) ?_
              refine zr (zlL (zB u1) Try.underlying4 sizeOf_4) ?_
              refine zr (zn u1) ?_
              refine zr (ziL 1 Try.underlying25 sizeOf_4) ?_
              refine zst sizeOf_4 (zB (!u1)) ?_
              refine zN ?_
              refine TWp.seqA (AWp.region ?_)
              refine zM (zI 1) ?_
              refine zM (zI 1) ?_
              refine zr (ziL 1 Try.underlying25 sizeOf_4) ?_
              refine zr (zlL (zB m1) Try.underlying4 sizeOf_4) ?_
              refine zr (zn m1) ?_
              refine zr (ziL 1 Try.underlying25 sizeOf_4) ?_
              refine zst sizeOf_4 (zB (!m1)) ?_
              refine zN ?_
              refine TWp.seqA (AWp.region ?_)
              refine zr (zlL (.agg [zB o0, zI n0, zB o1, zI n1, zB o2, zI n2]) Try.underlying24 sizeOf_24) ?_
              refine zr (zlL (.agg [zB u0, zB (!u1), zB u2]) Try.underlying25 sizeOf_25) ?_
              refine zr (zlL (.agg [zB m0, zB (!m1), zB m2]) Try.underlying25 sizeOf_25) ?_
              refine zM (zB f) ?_
              refine zM (zI p) ?_
              refine zc [.agg [zB o0, zI n0, zB o1, zI n1, zB o2, zI n2], .agg [zB u0, zB (!u1), zB u2], .agg [zB m0, zB (!m1), zB m2], zB f, zI p] Try.call7 (call_any o0 o1 o2 u0 (!u1) u2 m0 (!m1) m2 f n0 n1 n2 p (rb_b (show rightB o0 n0 p = true by assumption) (by omega)) (rb_b (show rightB o1 n1 p = true by assumption) (by omega)) (rb_b (show rightB o2 n2 p = true by assumption) (by omega)) noM) ?_
              rintro _ _ ⟨rfl, rfl⟩
              refine zT (v := .tuple [.agg [zB (stOn o0 u0 m0 f n0 p), zI (stN o0 u0 m0 f n0 p), zB (stOn o1 (!u1) (!m1) f n1 p), zI (stN o1 (!u1) (!m1) f n1 p), zB (stOn o2 u2 m2 f n2 p), zI (stN o2 u2 m2 f n2 p)], .list true 33 ((evA o0 o1 o2 (stOn o0 u0 m0 f n0 p) (stOn o1 (!u1) (!m1) f n1 p) (stOn o2 u2 m2 f n2 p)).map encE)]) rfl ?_
              refine zr (zx (.agg [zB (stOn o0 u0 m0 f n0 p), zI (stN o0 u0 m0 f n0 p), zB (stOn o1 (!u1) (!m1) f n1 p), zI (stN o1 (!u1) (!m1) f n1 p), zB (stOn o2 u2 m2 f n2 p), zI (stN o2 u2 m2 f n2 p)])) ?_
              refine AOps.take trivial rfl (by decide) (by decide) rfl rfl (v := .list true 33 ((evA o0 o1 o2 (stOn o0 u0 m0 f n0 p) (stOn o1 (!u1) (!m1) f n1 p) (stOn o2 u2 m2 f n2 p)).map encE)) rfl (.inr ⟨_, _, rfl⟩) ?_
              refine zal [] zero_24 [zB false, zI 0, zB false, zI 0, zB false, zI 0] ?_
              refine zst sizeOf_24 (.agg [zB (stOn o0 u0 m0 f n0 p), zI (stN o0 u0 m0 f n0 p), zB (stOn o1 (!u1) (!m1) f n1 p), zI (stN o1 (!u1) (!m1) f n1 p), zB (stOn o2 u2 m2 f n2 p), zI (stN o2 u2 m2 f n2 p)]) ?_
              refine zT (v := .list true 33 ((evA o0 o1 o2 (stOn o0 u0 m0 f n0 p) (stOn o1 (!u1) (!m1) f n1 p) (stOn o2 u2 m2 f n2 p)).map encE)) rfl ?_
              refine zN ?_
              refine TWp.seqA (AWp.region ?_)
              refine zM (zI 0) ?_
              refine zN ?_
              refine TWp.seq ?_
              refine TWp.seqA (AWp.region ?_)
              refine zM (zI 0) ?_
              refine zN ?_
              refine TWp.block ?_
              refine TWp.unroll 4 ?_
              refine TWp.round ?_
              refine TWp.seq ?_
              refine TWp.seqA (AWp.region ?_)
              refine zM (zI 0) ?_
              refine zr (zi true) ?_
              refine zN ?_
              refine TWp.cond (b := true) rfl (fun hx => ?_) (fun hx => by cases hx)
              refine TWp.skip ?_
              refine TWp.mid [3, 4, 6, 7, 8, 14, 15, 16, 17, 56, 18, 19, 21, 85, 99, 108, 20] [6, 7, 8, 15, 18] (fun s => ∃ (T0 : Nat), s = ⟨[(3, zB f), (4, zI p), (6, .lptr 6 0), (7, .lptr 7 0), (8, .lptr 8 0), (14, zI 1), (15, .lptr 15 0), (16, .list true 33 (E.map encE)), (17, zI (i : Int)), (56, zB (decide ((i : Int) < (E.length : Int)))), (18, .lptr 18 0), (19, .list true 33 ((evA o0 o1 o2 (stOn o0 u0 m0 f n0 p) (stOn o1 (!u1) (!m1) f n1 p) (stOn o2 u2 m2 f n2 p)).map encE)), (21, zI 0), (85, zB true), (99, zB false), (108, zB (!((stOn o0 u0 m0 f n0 p) == o0))), (20, zI (T0 : Int))], [(6, [zB o0, zI n0, zB o1, zI n1, zB o2, zI n2]), (7, [zB u0, zB (!u1), zB u2]), (8, [zB m0, zB (!m1), zB m2]), (15, [zB (stOn o0 u0 m0 f n0 p), zI (stN o0 u0 m0 f n0 p), zB (stOn o1 u1 m1 f n1 p), zI (stN o1 u1 m1 f n1 p), zB (stOn o2 u2 m2 f n2 p), zI (stN o2 u2 m2 f n2 p)]), (18, [zB (stOn o0 u0 m0 f n0 p), zI (stN o0 u0 m0 f n0 p), zB (stOn o1 (!u1) (!m1) f n1 p), zI (stN o1 (!u1) (!m1) f n1 p), zB (stOn o2 u2 m2 f n2 p), zI (stN o2 u2 m2 f n2 p)])], noM⟩ ∧ (T0 = 0 + evN o0 (stOn o0 u0 m0 f n0 p))) ?_ ?_
              · skip
                refine TWp.block ?_
                refine TWp.seq ?_
                refine TWp.seqA (AWp.anyR [3, 4, 6, 7, 8, 14, 15, 16, 17, 56, 18, 19, 20, 21, 85, 99] [6, 7, 8, 15, 18] (⟨[(3, zB f), (4, zI p), (6, .lptr 6 0), (7, .lptr 7 0), (8, .lptr 8 0), (14, zI 1), (15, .lptr 15 0), (16, .list true 33 (E.map encE)), (17, zI (i : Int)), (56, zB (decide ((i : Int) < (E.length : Int)))), (18, .lptr 18 0), (19, .list true 33 ((evA o0 o1 o2 (stOn o0 u0 m0 f n0 p) (stOn o1 (!u1) (!m1) f n1 p) (stOn o2 u2 m2 f n2 p)).map encE)), (20, zI 0), (21, zI 0), (85, zB true), (99, zB false)], [(6, [zB o0, zI n0, zB o1, zI n1, zB o2, zI n2]), (7, [zB u0, zB (!u1), zB u2]), (8, [zB m0, zB (!m1), zB m2]), (15, [zB (stOn o0 u0 m0 f n0 p), zI (stN o0 u0 m0 f n0 p), zB (stOn o1 u1 m1 f n1 p), zI (stN o1 u1 m1 f n1 p), zB (stOn o2 u2 m2 f n2 p), zI (stN o2 u2 m2 f n2 p)]), (18, [zB (stOn o0 u0 m0 f n0 p), zI (stN o0 u0 m0 f n0 p), zB (stOn o1 (!u1) (!m1) f n1 p), zI (stN o1 (!u1) (!m1) f n1 p), zB (stOn o2 u2 m2 f n2 p), zI (stN o2 u2 m2 f n2 p)])], noM⟩) (by kernel_rfl) ?_ ?_)
                · skip
                  skip
                  refine SAny.share 2 #[true, true, true, true, true, true, true, true, true, true, false, false] (⟨[(3, zB f), (4, zI p), (6, .lptr 6 0), (7, .lptr 7 0), (8, .lptr 8 0), (14, zI 1), (15, .lptr 15 0), (16, .list true 33 (E.map encE)), (17, zI (i : Int)), (53, zI (i : Int)), (54, .list false 33 (E.map encE)), (55, zI (E.length : Int)), (56, zB (decide ((i : Int) < (E.length : Int)))), (63, zI 1), (64, zI 1), (65, .lptr 7 1), (66, zB u1), (67, zB (!u1)), (68, .lptr 7 1), (69, zI 1), (70, zI 1), (71, .lptr 8 1), (72, zB m1), (73, zB (!m1)), (74, .lptr 8 1), (76, .agg [zB o0, zI n0, zB o1, zI n1, zB o2, zI n2]), (77, .agg [zB u0, zB (!u1), zB u2]), (78, .agg [zB m0, zB (!m1), zB m2]), (79, zB f), (80, zI p), (81, .tuple [.agg [zB (stOn o0 u0 m0 f n0 p), zI (stN o0 u0 m0 f n0 p), zB (stOn o1 (!u1) (!m1) f n1 p), zI (stN o1 (!u1) (!m1) f n1 p), zB (stOn o2 u2 m2 f n2 p), zI (stN o2 u2 m2 f n2 p)], .list false 33 ((evA o0 o1 o2 (stOn o0 u0 m0 f n0 p) (stOn o1 (!u1) (!m1) f n1 p) (stOn o2 u2 m2 f n2 p)).map encE)]), (75, .tuple [.agg [zB (stOn o0 u0 m0 f n0 p), zI (stN o0 u0 m0 f n0 p), zB (stOn o1 (!u1) (!m1) f n1 p), zI (stN o1 (!u1) (!m1) f n1 p), zB (stOn o2 u2 m2 f n2 p), zI (stN o2 u2 m2 f n2 p)], .list false 33 ((evA o0 o1 o2 (stOn o0 u0 m0 f n0 p) (stOn o1 (!u1) (!m1) f n1 p) (stOn o2 u2 m2 f n2 p)).map encE)]), (82, .agg [zB (stOn o0 u0 m0 f n0 p), zI (stN o0 u0 m0 f n0 p), zB (stOn o1 (!u1) (!m1) f n1 p), zI (stN o1 (!u1) (!m1) f n1 p), zB (stOn o2 u2 m2 f n2 p), zI (stN o2 u2 m2 f n2 p)]), (83, .list false 33 ((evA o0 o1 o2 (stOn o0 u0 m0 f n0 p) (stOn o1 (!u1) (!m1) f n1 p) (stOn o2 u2 m2 f n2 p)).map encE)), (18, .lptr 18 0), (19, .list true 33 ((evA o0 o1 o2 (stOn o0 u0 m0 f n0 p) (stOn o1 (!u1) (!m1) f n1 p) (stOn o2 u2 m2 f n2 p)).map encE)), (20, zI 0), (21, zI 0), (84, zI 0), (85, zB true), (88, zI 0), (89, zI 1), (90, zB true), (91, zB true), (92, zI 0), (93, .lptr 15 0), (95, zI 0), (96, .lptr 18 0), (97, .agg [zB (stOn o0 u0 m0 f n0 p), zI (stN o0 u0 m0 f n0 p)]), (94, .agg [zB (stOn o0 u0 m0 f n0 p), zI (stN o0 u0 m0 f n0 p)])], [(6, [zB o0, zI n0, zB o1, zI n1, zB o2, zI n2]), (7, [zB u0, zB (!u1), zB u2]), (8, [zB m0, zB (!m1), zB m2]), (15, [zB (stOn o0 u0 m0 f n0 p), zI (stN o0 u0 m0 f n0 p), zB (stOn o1 u1 m1 f n1 p), zI (stN o1 u1 m1 f n1 p), zB (stOn o2 u2 m2 f n2 p), zI (stN o2 u2 m2 f n2 p)]), (18, [zB (stOn o0 u0 m0 f n0 p), zI (stN o0 u0 m0 f n0 p), zB (stOn o1 (!u1) (!m1) f n1 p), zI (stN o1 (!u1) (!m1) f n1 p), zB (stOn o2 u2 m2 f n2 p), zI (stN o2 u2 m2 f n2 p)])], noM⟩) ?_ (fun sh0 => ?_)
                  · skip
                    refine zq [10] ⟨⟨_, rfl, ?_⟩, trivial⟩
                    · skip
                      refine zr (Reader.eqAgg (us := [(.bool (stOn o0 u0 m0 f n0 p)), (.int .i64 (stN o0 u0 m0 f n0 p))]) (vs := [(.bool (stOn o0 u0 m0 f n0 p)), (.int .i64 (stN o0 u0 m0 f n0 p))]) (b := (((stOn o0 u0 m0 f n0 p) == (stOn o0 u0 m0 f n0 p)) && (((stN o0 u0 m0 f n0 p) == (stN o0 u0 m0 f n0 p)) && true))) (r := false) 9 rfl rfl rfl ⟨_, rfl⟩ ⟨_, rfl⟩ Try.underlying23 rfl eqg_23 (by decide) rfl rfl (eqV_23 (stOn o0 u0 m0 f n0 p) (stOn o0 u0 m0 f n0 p) (stN o0 u0 m0 f n0 p) (stN o0 u0 m0 f n0 p)) (.inr ⟨rfl, (by simp)⟩)) ?_
                      refine zN ?_
                      refine zk 11 rfl (PReader.pick rfl (b := true) rfl (ok_const rfl) (ok_const rfl) (v := zB false) rfl) ?_
                      exact SAny.done (by kernel_rfl) rfl
                  refine zkm 0 (zI 0) ?_
                  refine zkm 1 (zI 1) ?_
                  refine zk 2 rfl (PReader.int rfl rfl rfl (r := .bool true) rfl) ?_
                  refine zkm 3 (zB true) ?_
                  refine zkm 4 (zI 0) ?_
                  refine zk 5 rfl (PReader.indexL (m := 0) rfl Try.underlying24 sizeOf_23 rfl rfl rfl (by decide)) ?_
                  refine zkm 7 (zI 0) ?_
                  refine zk 8 rfl (PReader.indexL (m := 0) rfl Try.underlying24 sizeOf_23 rfl rfl rfl (by decide)) ?_
                  refine zq [6, 9] ⟨⟨_, rfl, ?_⟩, ⟨_, rfl, ?_⟩, trivial⟩
                  · skip
                    refine zr (zlL (.agg [zB (stOn o0 u0 m0 f n0 p), zI (stN o0 u0 m0 f n0 p)]) Try.underlying23 sizeOf_23) ?_
                    refine zN ?_
                    refine zq [9] ⟨⟨_, rfl, ?_⟩, trivial⟩
                    · skip
                      refine zr (zlL (.agg [zB (stOn o0 u0 m0 f n0 p), zI (stN o0 u0 m0 f n0 p)]) Try.underlying23 sizeOf_23) ?_
                      refine zN ?_
                      exact SAny.same [3, 4, 6, 7, 8, 14, 15, 16, 17, 53, 54, 55, 56, 63, 64, 65, 66, 67, 68, 69, 70, 71, 72, 73, 74, 76, 77, 78, 79, 80, 81, 75, 82, 83, 18, 19, 20, 21, 84, 85, 88, 89, 90, 91, 92, 93, 95, 96, 97, 94] [6, 7, 8, 15, 18] sh0 (by kernel_rfl) rfl
                  · skip
                    refine zr (zlL (.agg [zB (stOn o0 u0 m0 f n0 p), zI (stN o0 u0 m0 f n0 p)]) Try.underlying23 sizeOf_23) ?_
                    refine zN ?_
                    refine zq [6] ⟨⟨_, rfl, ?_⟩, trivial⟩
                    · skip
                      refine zr (zlL (.agg [zB (stOn o0 u0 m0 f n0 p), zI (stN o0 u0 m0 f n0 p)]) Try.underlying23 sizeOf_23) ?_
                      refine zN ?_
                      exact SAny.same [3, 4, 6, 7, 8, 14, 15, 16, 17, 53, 54, 55, 56, 63, 64, 65, 66, 67, 68, 69, 70, 71, 72, 73, 74, 76, 77, 78, 79, 80, 81, 75, 82, 83, 18, 19, 20, 21, 84, 85, 88, 89, 90, 91, 92, 93, 95, 96, 97, 94] [6, 7, 8, 15, 18] sh0 (by kernel_rfl) rfl
                refine TWp.cond (b := false) rfl (fun hx => by cases hx) (fun hx => ?_)
                refine TWp.skip ?_
                refine TWp.seqA (AWp.anyR [3, 4, 6, 7, 8, 14, 15, 16, 17, 56, 18, 19, 20, 21, 85, 99, 108] [6, 7, 8, 15, 18] (⟨[(3, zB f), (4, zI p), (6, .lptr 6 0), (7, .lptr 7 0), (8, .lptr 8 0), (14, zI 1), (15, .lptr 15 0), (16, .list true 33 (E.map encE)), (17, zI (i : Int)), (56, zB (decide ((i : Int) < (E.length : Int)))), (18, .lptr 18 0), (19, .list true 33 ((evA o0 o1 o2 (stOn o0 u0 m0 f n0 p) (stOn o1 (!u1) (!m1) f n1 p) (stOn o2 u2 m2 f n2 p)).map encE)), (20, zI 0), (21, zI 0), (85, zB true), (99, zB false), (108, zB (!((stOn o0 u0 m0 f n0 p) == o0)))], [(6, [zB o0, zI n0, zB o1, zI n1, zB o2, zI n2]), (7, [zB u0, zB (!u1), zB u2]), (8, [zB m0, zB (!m1), zB m2]), (15, [zB (stOn o0 u0 m0 f n0 p), zI (stN o0 u0 m0 f n0 p), zB (stOn o1 u1 m1 f n1 p), zI (stN o1 u1 m1 f n1 p), zB (stOn o2 u2 m2 f n2 p), zI (stN o2 u2 m2 f n2 p)]), (18, [zB (stOn o0 u0 m0 f n0 p), zI (stN o0 u0 m0 f n0 p), zB (stOn o1 (!u1) (!m1) f n1 p), zI (stN o1 (!u1) (!m1) f n1 p), zB (stOn o2 u2 m2 f n2 p), zI (stN o2 u2 m2 f n2 p)])], noM⟩) (by kernel_rfl) ?_ ?_)
                · skip
                  skip
                  refine zkm 0 (zI 0) ?_
                  refine zk 1 rfl (PReader.indexL (m := 0) rfl Try.underlying24 sizeOf_23 rfl rfl rfl (by decide)) ?_
                  refine zk 2 rfl (PReader.fieldL rfl ⟨_, _, Try.underlying23, rfl, rfl, rfl, sizeOf_4⟩ (by decide) rfl) ?_
                  refine zkm 4 (zI 0) ?_
                  refine zk 5 rfl (PReader.indexL (m := 0) rfl Try.underlying24 sizeOf_23 rfl rfl rfl (by decide)) ?_
                  refine zk 6 rfl (PReader.fieldL rfl ⟨_, _, Try.underlying23, rfl, rfl, rfl, sizeOf_4⟩ (by decide) rfl) ?_
                  refine zq [3, 7] ⟨⟨_, rfl, ?_⟩, ⟨_, rfl, ?_⟩, trivial⟩
                  · skip
                    refine zr (zlL (zB (stOn o0 u0 m0 f n0 p)) Try.underlying4 sizeOf_4) ?_
                    refine zN ?_
                    refine zq [7] ⟨⟨_, rfl, ?_⟩, trivial⟩
                    · skip
                      refine zr (zlL (zB o0) Try.underlying4 sizeOf_4) ?_
                      refine zN ?_
                      refine zk 8 rfl (PReader.bools (r := !((stOn o0 u0 m0 f n0 p) == o0)) rfl Try.underlying4 rfl rfl (.inr ⟨rfl, rfl⟩)) ?_
                      exact SAny.done (by kernel_rfl) rfl
                  · skip
                    refine zr (zlL (zB o0) Try.underlying4 sizeOf_4) ?_
                    refine zN ?_
                    refine zq [3] ⟨⟨_, rfl, ?_⟩, trivial⟩
                    · skip
                      refine zr (zlL (zB (stOn o0 u0 m0 f n0 p)) Try.underlying4 sizeOf_4) ?_
                      refine zN ?_
                      refine zk 8 rfl (PReader.bools (r := !((stOn o0 u0 m0 f n0 p) == o0)) rfl Try.underlying4 rfl rfl (.inr ⟨rfl, rfl⟩)) ?_
                      exact SAny.done (by kernel_rfl) rfl
                refine TWp.cond (b := !((stOn o0 u0 m0 f n0 p) == o0)) rfl (fun h6 => ?_) (fun h6 => ?_)
                · skip
                  refine TWp.region ?_
                  refine zM (zI 0) ?_
                  refine zr (zd (0 + 1) 1) ?_
                  refine zM (zI 1) ?_
                  refine zN ?_
                  exact ⟨1, rfl, (by simp [evN, *])⟩
                · skip
                  refine TWp.skip ?_
                  exact ⟨0, rfl, (by simp [evN, *])⟩
              rintro _ ⟨T0, rfl, hT0⟩
              have hTl0 : T0 ≤ 1 := by have := evN_le o0 (stOn o0 u0 m0 f n0 p); omega
              refine TWp.region ?_
              refine zM (zI 0) ?_
              refine zr (zd (0 + 1) 1) ?_
              refine zM (zI 1) ?_
              refine zN ?_
              refine TWp.round ?_
              refine TWp.seq ?_
              refine TWp.seqA (AWp.region ?_)
              refine zM (zI 1) ?_
              refine zr (zi true) ?_
              refine zN ?_
              refine TWp.cond (b := true) rfl (fun hx => ?_) (fun hx => by cases hx)
              refine TWp.skip ?_
              refine TWp.mid [3, 4, 6, 7, 8, 14, 15, 16, 17, 56, 18, 19, 21, 85, 99, 20] [6, 7, 8, 15, 18] (fun s => ∃ (T1 : Nat), s = ⟨[(3, zB f), (4, zI p), (6, .lptr 6 0), (7, .lptr 7 0), (8, .lptr 8 0), (14, zI 1), (15, .lptr 15 0), (16, .list true 33 (E.map encE)), (17, zI (i : Int)), (56, zB (decide ((i : Int) < (E.length : Int)))), (18, .lptr 18 0), (19, .list true 33 ((evA o0 o1 o2 (stOn o0 u0 m0 f n0 p) (stOn o1 (!u1) (!m1) f n1 p) (stOn o2 u2 m2 f n2 p)).map encE)), (21, zI 1), (85, zB true), (99, zB false), (20, zI (T1 : Int))], [(6, [zB o0, zI n0, zB o1, zI n1, zB o2, zI n2]), (7, [zB u0, zB (!u1), zB u2]), (8, [zB m0, zB (!m1), zB m2]), (15, [zB (stOn o0 u0 m0 f n0 p), zI (stN o0 u0 m0 f n0 p), zB (stOn o1 u1 m1 f n1 p), zI (stN o1 u1 m1 f n1 p), zB (stOn o2 u2 m2 f n2 p), zI (stN o2 u2 m2 f n2 p)]), (18, [zB (stOn o0 u0 m0 f n0 p), zI (stN o0 u0 m0 f n0 p), zB (stOn o1 (!u1) (!m1) f n1 p), zI (stN o1 (!u1) (!m1) f n1 p), zB (stOn o2 u2 m2 f n2 p), zI (stN o2 u2 m2 f n2 p)])], noM⟩ ∧ (T1 = T0 + evN o1 (stOn o1 (!u1) (!m1) f n1 p))) ?_ ?_
              · skip
                refine TWp.block ?_
                refine TWp.seq ?_
                refine TWp.seqA (AWp.anyR [3, 4, 6, 7, 8, 14, 15, 16, 17, 56, 18, 19, 21, 85, 99, 108, 20] [6, 7, 8, 15, 18] (⟨[(3, zB f), (4, zI p), (6, .lptr 6 0), (7, .lptr 7 0), (8, .lptr 8 0), (14, zI 1), (15, .lptr 15 0), (16, .list true 33 (E.map encE)), (17, zI (i : Int)), (56, zB (decide ((i : Int) < (E.length : Int)))), (18, .lptr 18 0), (19, .list true 33 ((evA o0 o1 o2 (stOn o0 u0 m0 f n0 p) (stOn o1 (!u1) (!m1) f n1 p) (stOn o2 u2 m2 f n2 p)).map encE)), (21, zI 1), (85, zB true), (99, zB false), (108, zB (!((stOn o0 u0 m0 f n0 p) == o0))), (20, zI (T0 : Int))], [(6, [zB o0, zI n0, zB o1, zI n1, zB o2, zI n2]), (7, [zB u0, zB (!u1), zB u2]), (8, [zB m0, zB (!m1), zB m2]), (15, [zB (stOn o0 u0 m0 f n0 p), zI (stN o0 u0 m0 f n0 p), zB (stOn o1 u1 m1 f n1 p), zI (stN o1 u1 m1 f n1 p), zB (stOn o2 u2 m2 f n2 p), zI (stN o2 u2 m2 f n2 p)]), (18, [zB (stOn o0 u0 m0 f n0 p), zI (stN o0 u0 m0 f n0 p), zB (stOn o1 (!u1) (!m1) f n1 p), zI (stN o1 (!u1) (!m1) f n1 p), zB (stOn o2 u2 m2 f n2 p), zI (stN o2 u2 m2 f n2 p)])], noM⟩) (by kernel_rfl) ?_ ?_)
                · skip
                  skip
                  refine SAny.share 2 #[true, true, true, true, true, true, true, true, true, true, false, false] (⟨[(3, zB f), (4, zI p), (6, .lptr 6 0), (7, .lptr 7 0), (8, .lptr 8 0), (14, zI 1), (15, .lptr 15 0), (16, .list true 33 (E.map encE)), (17, zI (i : Int)), (56, zB (decide ((i : Int) < (E.length : Int)))), (18, .lptr 18 0), (19, .list true 33 ((evA o0 o1 o2 (stOn o0 u0 m0 f n0 p) (stOn o1 (!u1) (!m1) f n1 p) (stOn o2 u2 m2 f n2 p)).map encE)), (21, zI 1), (85, zB true), (99, zB false), (108, zB (!((stOn o0 u0 m0 f n0 p) == o0))), (20, zI (T0 : Int)), (86, zI 0), (87, zI 1), (84, zI 1), (88, zI 1), (89, zI 1), (90, zB false), (91, zB false), (95, .lit undef), (96, .lit undef), (97, .lit undef), (92, .lit undef), (93, .lit undef), (94, .lit undef)], [(6, [zB o0, zI n0, zB o1, zI n1, zB o2, zI n2]), (7, [zB u0, zB (!u1), zB u2]), (8, [zB m0, zB (!m1), zB m2]), (15, [zB (stOn o0 u0 m0 f n0 p), zI (stN o0 u0 m0 f n0 p), zB (stOn o1 u1 m1 f n1 p), zI (stN o1 u1 m1 f n1 p), zB (stOn o2 u2 m2 f n2 p), zI (stN o2 u2 m2 f n2 p)]), (18, [zB (stOn o0 u0 m0 f n0 p), zI (stN o0 u0 m0 f n0 p), zB (stOn o1 (!u1) (!m1) f n1 p), zI (stN o1 (!u1) (!m1) f n1 p), zB (stOn o2 u2 m2 f n2 p), zI (stN o2 u2 m2 f n2 p)])], noM⟩) ?_ (fun sh0 => ?_)
                  · skip
                    refine zq [10] ⟨⟨_, rfl, ?_⟩, trivial⟩
                    · skip
                      refine zs ?_
                      refine zN ?_
                      refine zk 11 rfl (PReader.pick rfl (b := false) rfl (ok_const rfl) (ok_const rfl) (v := zB false) rfl) ?_
                      exact SAny.done (by kernel_rfl) rfl
                  refine SAny.share 3 #[true, true, true, true, true, true, false, true, true, true, false, false] (⟨[(3, zB f), (4, zI p), (6, .lptr 6 0), (7, .lptr 7 0), (8, .lptr 8 0), (14, zI 1), (15, .lptr 15 0), (16, .list true 33 (E.map encE)), (17, zI (i : Int)), (56, zB (decide ((i : Int) < (E.length : Int)))), (18, .lptr 18 0), (19, .list true 33 ((evA o0 o1 o2 (stOn o0 u0 m0 f n0 p) (stOn o1 (!u1) (!m1) f n1 p) (stOn o2 u2 m2 f n2 p)).map encE)), (21, zI 1), (85, zB true), (99, zB false), (108, zB (!((stOn o0 u0 m0 f n0 p) == o0))), (20, zI (T0 : Int)), (86, zI 0), (87, zI 1), (84, zI 1), (88, zI 1), (89, zI 1), (90, zB false), (91, zB false), (95, .lit undef), (96, .lit undef), (97, .lit undef), (92, .lit undef), (93, .lit undef)], [(6, [zB o0, zI n0, zB o1, zI n1, zB o2, zI n2]), (7, [zB u0, zB (!u1), zB u2]), (8, [zB m0, zB (!m1), zB m2]), (15, [zB (stOn o0 u0 m0 f n0 p), zI (stN o0 u0 m0 f n0 p), zB (stOn o1 u1 m1 f n1 p), zI (stN o1 u1 m1 f n1 p), zB (stOn o2 u2 m2 f n2 p), zI (stN o2 u2 m2 f n2 p)]), (18, [zB (stOn o0 u0 m0 f n0 p), zI (stN o0 u0 m0 f n0 p), zB (stOn o1 (!u1) (!m1) f n1 p), zI (stN o1 (!u1) (!m1) f n1 p), zB (stOn o2 u2 m2 f n2 p), zI (stN o2 u2 m2 f n2 p)])], noM⟩) ?_ (fun sh1 => ?_)
                  · skip
                    refine zq [6] ⟨⟨_, rfl, ?_⟩, trivial⟩
                    · skip
                      refine zs ?_
                      refine zN ?_
                      exact SAny.same [3, 4, 6, 7, 8, 14, 15, 16, 17, 56, 18, 19, 21, 85, 99, 108, 20, 86, 87, 84, 88, 89, 90, 91, 95, 96, 97, 92, 93, 94] [6, 7, 8, 15, 18] sh0 (by kernel_rfl) rfl
                  refine SAny.share 3 #[true, true, true, true, true, true, true, true, true, false, false, false] (⟨[(3, zB f), (4, zI p), (6, .lptr 6 0), (7, .lptr 7 0), (8, .lptr 8 0), (14, zI 1), (15, .lptr 15 0), (16, .list true 33 (E.map encE)), (17, zI (i : Int)), (56, zB (decide ((i : Int) < (E.length : Int)))), (18, .lptr 18 0), (19, .list true 33 ((evA o0 o1 o2 (stOn o0 u0 m0 f n0 p) (stOn o1 (!u1) (!m1) f n1 p) (stOn o2 u2 m2 f n2 p)).map encE)), (21, zI 1), (85, zB true), (99, zB false), (108, zB (!((stOn o0 u0 m0 f n0 p) == o0))), (20, zI (T0 : Int)), (86, zI 0), (87, zI 1), (84, zI 1), (88, zI 1), (89, zI 1), (90, zB false), (91, zB false), (95, .lit undef), (96, .lit undef), (92, .lit undef), (93, .lit undef), (94, .lit undef)], [(6, [zB o0, zI n0, zB o1, zI n1, zB o2, zI n2]), (7, [zB u0, zB (!u1), zB u2]), (8, [zB m0, zB (!m1), zB m2]), (15, [zB (stOn o0 u0 m0 f n0 p), zI (stN o0 u0 m0 f n0 p), zB (stOn o1 u1 m1 f n1 p), zI (stN o1 u1 m1 f n1 p), zB (stOn o2 u2 m2 f n2 p), zI (stN o2 u2 m2 f n2 p)]), (18, [zB (stOn o0 u0 m0 f n0 p), zI (stN o0 u0 m0 f n0 p), zB (stOn o1 (!u1) (!m1) f n1 p), zI (stN o1 (!u1) (!m1) f n1 p), zB (stOn o2 u2 m2 f n2 p), zI (stN o2 u2 m2 f n2 p)])], noM⟩) ?_ (fun sh2 => ?_)
                  · skip
                    refine zq [9] ⟨⟨_, rfl, ?_⟩, trivial⟩
                    · skip
                      refine zs ?_
                      refine zN ?_
                      exact SAny.same [3, 4, 6, 7, 8, 14, 15, 16, 17, 56, 18, 19, 21, 85, 99, 108, 20, 86, 87, 84, 88, 89, 90, 91, 95, 96, 97, 92, 93, 94] [6, 7, 8, 15, 18] sh0 (by kernel_rfl) rfl
                  refine SAny.share 4 #[true, true, true, true, true, false, false, true, true, true, false, false] (⟨[(3, zB f), (4, zI p), (6, .lptr 6 0), (7, .lptr 7 0), (8, .lptr 8 0), (14, zI 1), (15, .lptr 15 0), (16, .list true 33 (E.map encE)), (17, zI (i : Int)), (56, zB (decide ((i : Int) < (E.length : Int)))), (18, .lptr 18 0), (19, .list true 33 ((evA o0 o1 o2 (stOn o0 u0 m0 f n0 p) (stOn o1 (!u1) (!m1) f n1 p) (stOn o2 u2 m2 f n2 p)).map encE)), (21, zI 1), (85, zB true), (99, zB false), (108, zB (!((stOn o0 u0 m0 f n0 p) == o0))), (20, zI (T0 : Int)), (86, zI 0), (87, zI 1), (84, zI 1), (88, zI 1), (89, zI 1), (90, zB false), (91, zB false), (95, .lit undef), (96, .lit undef), (97, .lit undef), (92, .lit undef)], [(6, [zB o0, zI n0, zB o1, zI n1, zB o2, zI n2]), (7, [zB u0, zB (!u1), zB u2]), (8, [zB m0, zB (!m1), zB m2]), (15, [zB (stOn o0 u0 m0 f n0 p), zI (stN o0 u0 m0 f n0 p), zB (stOn o1 u1 m1 f n1 p), zI (stN o1 u1 m1 f n1 p), zB (stOn o2 u2 m2 f n2 p), zI (stN o2 u2 m2 f n2 p)]), (18, [zB (stOn o0 u0 m0 f n0 p), zI (stN o0 u0 m0 f n0 p), zB (stOn o1 (!u1) (!m1) f n1 p), zI (stN o1 (!u1) (!m1) f n1 p), zB (stOn o2 u2 m2 f n2 p), zI (stN o2 u2 m2 f n2 p)])], noM⟩) ?_ (fun sh3 => ?_)
                  · skip
                    refine zq [5] ⟨⟨_, rfl, ?_⟩, trivial⟩
                    · skip
                      refine zs ?_
                      refine zN ?_
                      exact SAny.same [3, 4, 6, 7, 8, 14, 15, 16, 17, 56, 18, 19, 21, 85, 99, 108, 20, 86, 87, 84, 88, 89, 90, 91, 95, 96, 97, 92, 93] [6, 7, 8, 15, 18] sh1 (by kernel_rfl) rfl
                  refine SAny.share 4 #[true, true, true, true, true, true, false, true, true, false, false, false] (⟨[(3, zB f), (4, zI p), (6, .lptr 6 0), (7, .lptr 7 0), (8, .lptr 8 0), (14, zI 1), (15, .lptr 15 0), (16, .list true 33 (E.map encE)), (17, zI (i : Int)), (56, zB (decide ((i : Int) < (E.length : Int)))), (18, .lptr 18 0), (19, .list true 33 ((evA o0 o1 o2 (stOn o0 u0 m0 f n0 p) (stOn o1 (!u1) (!m1) f n1 p) (stOn o2 u2 m2 f n2 p)).map encE)), (21, zI 1), (85, zB true), (99, zB false), (108, zB (!((stOn o0 u0 m0 f n0 p) == o0))), (20, zI (T0 : Int)), (86, zI 0), (87, zI 1), (84, zI 1), (88, zI 1), (89, zI 1), (90, zB false), (91, zB false), (95, .lit undef), (96, .lit undef), (92, .lit undef), (93, .lit undef)], [(6, [zB o0, zI n0, zB o1, zI n1, zB o2, zI n2]), (7, [zB u0, zB (!u1), zB u2]), (8, [zB m0, zB (!m1), zB m2]), (15, [zB (stOn o0 u0 m0 f n0 p), zI (stN o0 u0 m0 f n0 p), zB (stOn o1 u1 m1 f n1 p), zI (stN o1 u1 m1 f n1 p), zB (stOn o2 u2 m2 f n2 p), zI (stN o2 u2 m2 f n2 p)]), (18, [zB (stOn o0 u0 m0 f n0 p), zI (stN o0 u0 m0 f n0 p), zB (stOn o1 (!u1) (!m1) f n1 p), zI (stN o1 (!u1) (!m1) f n1 p), zB (stOn o2 u2 m2 f n2 p), zI (stN o2 u2 m2 f n2 p)])], noM⟩) ?_ (fun sh4 => ?_)
                  · skip
                    refine zq [6, 9] ⟨⟨_, rfl, ?_⟩, ⟨_, rfl, ?_⟩, trivial⟩
                    · skip
                      refine zs ?_
                      refine zN ?_
                      exact SAny.same [3, 4, 6, 7, 8, 14, 15, 16, 17, 56, 18, 19, 21, 85, 99, 108, 20, 86, 87, 84, 88, 89, 90, 91, 95, 96, 92, 93, 94] [6, 7, 8, 15, 18] sh2 (by kernel_rfl) rfl
                    · skip
                      refine zs ?_
                      refine zN ?_
                      exact SAny.same [3, 4, 6, 7, 8, 14, 15, 16, 17, 56, 18, 19, 21, 85, 99, 108, 20, 86, 87, 84, 88, 89, 90, 91, 95, 96, 97, 92, 93] [6, 7, 8, 15, 18] sh1 (by kernel_rfl) rfl
                  refine SAny.share 4 #[true, true, true, true, true, true, true, true, false, false, false, false] (⟨[(3, zB f), (4, zI p), (6, .lptr 6 0), (7, .lptr 7 0), (8, .lptr 8 0), (14, zI 1), (15, .lptr 15 0), (16, .list true 33 (E.map encE)), (17, zI (i : Int)), (56, zB (decide ((i : Int) < (E.length : Int)))), (18, .lptr 18 0), (19, .list true 33 ((evA o0 o1 o2 (stOn o0 u0 m0 f n0 p) (stOn o1 (!u1) (!m1) f n1 p) (stOn o2 u2 m2 f n2 p)).map encE)), (21, zI 1), (85, zB true), (99, zB false), (108, zB (!((stOn o0 u0 m0 f n0 p) == o0))), (20, zI (T0 : Int)), (86, zI 0), (87, zI 1), (84, zI 1), (88, zI 1), (89, zI 1), (90, zB false), (91, zB false), (95, .lit undef), (92, .lit undef), (93, .lit undef), (94, .lit undef)], [(6, [zB o0, zI n0, zB o1, zI n1, zB o2, zI n2]), (7, [zB u0, zB (!u1), zB u2]), (8, [zB m0, zB (!m1), zB m2]), (15, [zB (stOn o0 u0 m0 f n0 p), zI (stN o0 u0 m0 f n0 p), zB (stOn o1 u1 m1 f n1 p), zI (stN o1 u1 m1 f n1 p), zB (stOn o2 u2 m2 f n2 p), zI (stN o2 u2 m2 f n2 p)]), (18, [zB (stOn o0 u0 m0 f n0 p), zI (stN o0 u0 m0 f n0 p), zB (stOn o1 (!u1) (!m1) f n1 p), zI (stN o1 (!u1) (!m1) f n1 p), zB (stOn o2 u2 m2 f n2 p), zI (stN o2 u2 m2 f n2 p)])], noM⟩) ?_ (fun sh5 => ?_)
                  · skip
                    refine zq [8] ⟨⟨_, rfl, ?_⟩, trivial⟩
                    · skip
                      refine zs ?_
                      refine zN ?_
                      exact SAny.same [3, 4, 6, 7, 8, 14, 15, 16, 17, 56, 18, 19, 21, 85, 99, 108, 20, 86, 87, 84, 88, 89, 90, 91, 95, 96, 92, 93, 94] [6, 7, 8, 15, 18] sh2 (by kernel_rfl) rfl
                  refine SAny.share 5 #[true, true, true, true, true, false, false, true, true, false, false, false] (⟨[(3, zB f), (4, zI p), (6, .lptr 6 0), (7, .lptr 7 0), (8, .lptr 8 0), (14, zI 1), (15, .lptr 15 0), (16, .list true 33 (E.map encE)), (17, zI (i : Int)), (56, zB (decide ((i : Int) < (E.length : Int)))), (18, .lptr 18 0), (19, .list true 33 ((evA o0 o1 o2 (stOn o0 u0 m0 f n0 p) (stOn o1 (!u1) (!m1) f n1 p) (stOn o2 u2 m2 f n2 p)).map encE)), (21, zI 1), (85, zB true), (99, zB false), (108, zB (!((stOn o0 u0 m0 f n0 p) == o0))), (20, zI (T0 : Int)), (86, zI 0), (87, zI 1), (84, zI 1), (88, zI 1), (89, zI 1), (90, zB false), (91, zB false), (95, .lit undef), (96, .lit undef), (92, .lit undef)], [(6, [zB o0, zI n0, zB o1, zI n1, zB o2, zI n2]), (7, [zB u0, zB (!u1), zB u2]), (8, [zB m0, zB (!m1), zB m2]), (15, [zB (stOn o0 u0 m0 f n0 p), zI (stN o0 u0 m0 f n0 p), zB (stOn o1 u1 m1 f n1 p), zI (stN o1 u1 m1 f n1 p), zB (stOn o2 u2 m2 f n2 p), zI (stN o2 u2 m2 f n2 p)]), (18, [zB (stOn o0 u0 m0 f n0 p), zI (stN o0 u0 m0 f n0 p), zB (stOn o1 (!u1) (!m1) f n1 p), zI (stN o1 (!u1) (!m1) f n1 p), zB (stOn o2 u2 m2 f n2 p), zI (stN o2 u2 m2 f n2 p)])], noM⟩) ?_ (fun sh6 => ?_)
                  · skip
                    refine zq [5, 9] ⟨⟨_, rfl, ?_⟩, ⟨_, rfl, ?_⟩, trivial⟩
                    · skip
                      refine zs ?_
                      refine zN ?_
                      exact SAny.same [3, 4, 6, 7, 8, 14, 15, 16, 17, 56, 18, 19, 21, 85, 99, 108, 20, 86, 87, 84, 88, 89, 90, 91, 95, 96, 92, 93] [6, 7, 8, 15, 18] sh4 (by kernel_rfl) rfl
                    · skip
                      refine zs ?_
                      refine zN ?_
                      exact SAny.same [3, 4, 6, 7, 8, 14, 15, 16, 17, 56, 18, 19, 21, 85, 99, 108, 20, 86, 87, 84, 88, 89, 90, 91, 95, 96, 97, 92] [6, 7, 8, 15, 18] sh3 (by kernel_rfl) rfl
                  refine SAny.share 5 #[true, true, true, true, true, true, false, true, false, false, false, false] (⟨[(3, zB f), (4, zI p), (6, .lptr 6 0), (7, .lptr 7 0), (8, .lptr 8 0), (14, zI 1), (15, .lptr 15 0), (16, .list true 33 (E.map encE)), (17, zI (i : Int)), (56, zB (decide ((i : Int) < (E.length : Int)))), (18, .lptr 18 0), (19, .list true 33 ((evA o0 o1 o2 (stOn o0 u0 m0 f n0 p) (stOn o1 (!u1) (!m1) f n1 p) (stOn o2 u2 m2 f n2 p)).map encE)), (21, zI 1), (85, zB true), (99, zB false), (108, zB (!((stOn o0 u0 m0 f n0 p) == o0))), (20, zI (T0 : Int)), (86, zI 0), (87, zI 1), (84, zI 1), (88, zI 1), (89, zI 1), (90, zB false), (91, zB false), (95, .lit undef), (92, .lit undef), (93, .lit undef)], [(6, [zB o0, zI n0, zB o1, zI n1, zB o2, zI n2]), (7, [zB u0, zB (!u1), zB u2]), (8, [zB m0, zB (!m1), zB m2]), (15, [zB (stOn o0 u0 m0 f n0 p), zI (stN o0 u0 m0 f n0 p), zB (stOn o1 u1 m1 f n1 p), zI (stN o1 u1 m1 f n1 p), zB (stOn o2 u2 m2 f n2 p), zI (stN o2 u2 m2 f n2 p)]), (18, [zB (stOn o0 u0 m0 f n0 p), zI (stN o0 u0 m0 f n0 p), zB (stOn o1 (!u1) (!m1) f n1 p), zI (stN o1 (!u1) (!m1) f n1 p), zB (stOn o2 u2 m2 f n2 p), zI (stN o2 u2 m2 f n2 p)])], noM⟩) ?_ (fun sh7 => ?_)
                  · skip
                    refine zq [6, 8] ⟨⟨_, rfl, ?_⟩, ⟨_, rfl, ?_⟩, trivial⟩
                    · skip
                      refine zs ?_
                      refine zN ?_
                      exact SAny.same [3, 4, 6, 7, 8, 14, 15, 16, 17, 56, 18, 19, 21, 85, 99, 108, 20, 86, 87, 84, 88, 89, 90, 91, 95, 92, 93, 94] [6, 7, 8, 15, 18] sh5 (by kernel_rfl) rfl
                    · skip
                      refine zs ?_
                      refine zN ?_
                      exact SAny.same [3, 4, 6, 7, 8, 14, 15, 16, 17, 56, 18, 19, 21, 85, 99, 108, 20, 86, 87, 84, 88, 89, 90, 91, 95, 96, 92, 93] [6, 7, 8, 15, 18] sh4 (by kernel_rfl) rfl
                  refine SAny.share 6 #[true, true, true, true, true, false, false, true, false, false, false, false] (⟨[(3, zB f), (4, zI p), (6, .lptr 6 0), (7, .lptr 7 0), (8, .lptr 8 0), (14, zI 1), (15, .lptr 15 0), (16, .list true 33 (E.map encE)), (17, zI (i : Int)), (56, zB (decide ((i : Int) < (E.length : Int)))), (18, .lptr 18 0), (19, .list true 33 ((evA o0 o1 o2 (stOn o0 u0 m0 f n0 p) (stOn o1 (!u1) (!m1) f n1 p) (stOn o2 u2 m2 f n2 p)).map encE)), (21, zI 1), (85, zB true), (99, zB false), (108, zB (!((stOn o0 u0 m0 f n0 p) == o0))), (20, zI (T0 : Int)), (86, zI 0), (87, zI 1), (84, zI 1), (88, zI 1), (89, zI 1), (90, zB false), (91, zB false), (95, .lit undef), (92, .lit undef)], [(6, [zB o0, zI n0, zB o1, zI n1, zB o2, zI n2]), (7, [zB u0, zB (!u1), zB u2]), (8, [zB m0, zB (!m1), zB m2]), (15, [zB (stOn o0 u0 m0 f n0 p), zI (stN o0 u0 m0 f n0 p), zB (stOn o1 u1 m1 f n1 p), zI (stN o1 u1 m1 f n1 p), zB (stOn o2 u2 m2 f n2 p), zI (stN o2 u2 m2 f n2 p)]), (18, [zB (stOn o0 u0 m0 f n0 p), zI (stN o0 u0 m0 f n0 p), zB (stOn o1 (!u1) (!m1) f n1 p), zI (stN o1 (!u1) (!m1) f n1 p), zB (stOn o2 u2 m2 f n2 p), zI (stN o2 u2 m2 f n2 p)])], noM⟩) ?_ (fun sh8 => ?_)
                  · skip
                    refine zq [5, 8] ⟨⟨_, rfl, ?_⟩, ⟨_, rfl, ?_⟩, trivial⟩
                    · skip
                      refine zs ?_
                      refine zN ?_
                      exact SAny.same [3, 4, 6, 7, 8, 14, 15, 16, 17, 56, 18, 19, 21, 85, 99, 108, 20, 86, 87, 84, 88, 89, 90, 91, 95, 92, 93] [6, 7, 8, 15, 18] sh7 (by kernel_rfl) rfl
                    · skip
                      refine zs ?_
                      refine zN ?_
                      exact SAny.same [3, 4, 6, 7, 8, 14, 15, 16, 17, 56, 18, 19, 21, 85, 99, 108, 20, 86, 87, 84, 88, 89, 90, 91, 95, 96, 92] [6, 7, 8, 15, 18] sh6 (by kernel_rfl) rfl
                  refine zkm 0 (zI 1) ?_
                  refine zkm 1 (zI 1) ?_
                  refine zk 2 rfl (PReader.int rfl rfl rfl (r := .bool false) rfl) ?_
                  refine zkm 3 (zB false) ?_
                  refine zq [4, 7] ⟨⟨_, rfl, ?_⟩, ⟨_, rfl, ?_⟩, trivial⟩
                  · skip
                    refine zs ?_
                    refine zN ?_
                    refine zq [5, 7] ⟨⟨_, rfl, ?_⟩, ⟨_, rfl, ?_⟩, trivial⟩
                    · skip
                      refine zs ?_
                      refine zN ?_
                      refine zq [6, 7] ⟨⟨_, rfl, ?_⟩, ⟨_, rfl, ?_⟩, trivial⟩
                      · skip
                        refine zs ?_
                        refine zN ?_
                        refine zq [7] ⟨⟨_, rfl, ?_⟩, trivial⟩
                        · skip
                          refine zs ?_
                          refine zN ?_
                          exact SAny.same [3, 4, 6, 7, 8, 14, 15, 16, 17, 56, 18, 19, 21, 85, 99, 108, 20, 86, 87, 84, 88, 89, 90, 91, 95, 92, 93, 94] [6, 7, 8, 15, 18] sh5 (by kernel_rfl) rfl
                      · skip
                        refine zs ?_
                        refine zN ?_
                        exact SAny.same [3, 4, 6, 7, 8, 14, 15, 16, 17, 56, 18, 19, 21, 85, 99, 108, 20, 86, 87, 84, 88, 89, 90, 91, 95, 92, 93] [6, 7, 8, 15, 18] sh7 (by kernel_rfl) rfl
                    · skip
                      refine zs ?_
                      refine zN ?_
                      exact SAny.same [3, 4, 6, 7, 8, 14, 15, 16, 17, 56, 18, 19, 21, 85, 99, 108, 20, 86, 87, 84, 88, 89, 90, 91, 95, 92] [6, 7, 8, 15, 18] sh8 (by kernel_rfl) rfl
                  · skip
                    refine zs ?_
                    refine zN ?_
                    refine zq [4, 8] ⟨⟨_, rfl, ?_⟩, ⟨_, rfl, ?_⟩, trivial⟩
                    · skip
                      refine zs ?_
                      refine zN ?_
                      exact SAny.same [3, 4, 6, 7, 8, 14, 15, 16, 17, 56, 18, 19, 21, 85, 99, 108, 20, 86, 87, 84, 88, 89, 90, 91, 95, 92] [6, 7, 8, 15, 18] sh8 (by kernel_rfl) rfl
                    · skip
                      refine zs ?_
                      refine zN ?_
                      refine zq [4, 9] ⟨⟨_, rfl, ?_⟩, ⟨_, rfl, ?_⟩, trivial⟩
                      · skip
                        refine zs ?_
                        refine zN ?_
                        exact SAny.same [3, 4, 6, 7, 8, 14, 15, 16, 17, 56, 18, 19, 21, 85, 99, 108, 20, 86, 87, 84, 88, 89, 90, 91, 95, 96, 92] [6, 7, 8, 15, 18] sh6 (by kernel_rfl) rfl
                      · skip
                        refine zs ?_
                        refine zN ?_
                        refine zq [4] ⟨⟨_, rfl, ?_⟩, trivial⟩
                        · skip
                          refine zs ?_
                          refine zN ?_
                          exact SAny.same [3, 4, 6, 7, 8, 14, 15, 16, 17, 56, 18, 19, 21, 85, 99, 108, 20, 86, 87, 84, 88, 89, 90, 91, 95, 96, 97, 92] [6, 7, 8, 15, 18] sh3 (by kernel_rfl) rfl
                refine TWp.cond (b := false) rfl (fun hx => by cases hx) (fun hx => ?_)
                refine TWp.skip ?_
                refine TWp.seqA (AWp.anyR [3, 4, 6, 7, 8, 14, 15, 16, 17, 56, 18, 19, 21, 85, 99, 108, 20] [6, 7, 8, 15, 18] (⟨[(3, zB f), (4, zI p), (6, .lptr 6 0), (7, .lptr 7 0), (8, .lptr 8 0), (14, zI 1), (15, .lptr 15 0), (16, .list true 33 (E.map encE)), (17, zI (i : Int)), (56, zB (decide ((i : Int) < (E.length : Int)))), (18, .lptr 18 0), (19, .list true 33 ((evA o0 o1 o2 (stOn o0 u0 m0 f n0 p) (stOn o1 (!u1) (!m1) f n1 p) (stOn o2 u2 m2 f n2 p)).map encE)), (21, zI 1), (85, zB true), (99, zB false), (108, zB (!((stOn o1 (!u1) (!m1) f n1 p) == o1))), (20, zI (T0 : Int))], [(6, [zB o0, zI n0, zB o1, zI n1, zB o2, zI n2]), (7, [zB u0, zB (!u1), zB u2]), (8, [zB m0, zB (!m1), zB m2]), (15, [zB (stOn o0 u0 m0 f n0 p), zI (stN o0 u0 m0 f n0 p), zB (stOn o1 u1 m1 f n1 p), zI (stN o1 u1 m1 f n1 p), zB (stOn o2 u2 m2 f n2 p), zI (stN o2 u2 m2 f n2 p)]), (18, [zB (stOn o0 u0 m0 f n0 p), zI (stN o0 u0 m0 f n0 p), zB (stOn o1 (!u1) (!m1) f n1 p), zI (stN o1 (!u1) (!m1) f n1 p), zB (stOn o2 u2 m2 f n2 p), zI (stN o2 u2 m2 f n2 p)])], noM⟩) (by kernel_rfl) ?_ ?_)
                · skip
                  skip
                  refine zkm 0 (zI 1) ?_
                  refine zk 1 rfl (PReader.indexL (m := 1) rfl Try.underlying24 sizeOf_23 rfl rfl rfl (by decide)) ?_
                  refine zk 2 rfl (PReader.fieldL rfl ⟨_, _, Try.underlying23, rfl, rfl, rfl, sizeOf_4⟩ (by decide) rfl) ?_
                  refine zkm 4 (zI 1) ?_
                  refine zk 5 rfl (PReader.indexL (m := 1) rfl Try.underlying24 sizeOf_23 rfl rfl rfl (by decide)) ?_
                  refine zk 6 rfl (PReader.fieldL rfl ⟨_, _, Try.underlying23, rfl, rfl, rfl, sizeOf_4⟩ (by decide) rfl) ?_
                  refine zq [3, 7] ⟨⟨_, rfl, ?_⟩, ⟨_, rfl, ?_⟩, trivial⟩
                  · skip
                    refine zr (zlL (zB (stOn o1 (!u1) (!m1) f n1 p)) Try.underlying4 sizeOf_4) ?_
                    refine zN ?_
                    refine zq [7] ⟨⟨_, rfl, ?_⟩, trivial⟩
                    · skip
                      refine zr (zlL (zB o1) Try.underlying4 sizeOf_4) ?_
                      refine zN ?_
                      refine zk 8 rfl (PReader.bools (r := !((stOn o1 (!u1) (!m1) f n1 p) == o1)) rfl Try.underlying4 rfl rfl (.inr ⟨rfl, rfl⟩)) ?_
                      exact SAny.done (by kernel_rfl) rfl
                  · skip
                    refine zr (zlL (zB o1) Try.underlying4 sizeOf_4) ?_
                    refine zN ?_
                    refine zq [3] ⟨⟨_, rfl, ?_⟩, trivial⟩
                    · skip
                      refine zr (zlL (zB (stOn o1 (!u1) (!m1) f n1 p)) Try.underlying4 sizeOf_4) ?_
                      refine zN ?_
                      refine zk 8 rfl (PReader.bools (r := !((stOn o1 (!u1) (!m1) f n1 p) == o1)) rfl Try.underlying4 rfl rfl (.inr ⟨rfl, rfl⟩)) ?_
                      exact SAny.done (by kernel_rfl) rfl
                refine TWp.cond (b := !((stOn o1 (!u1) (!m1) f n1 p) == o1)) rfl (fun h7 => ?_) (fun h7 => ?_)
                · skip
                  refine TWp.region ?_
                  refine zM (zI (T0 : Int)) ?_
                  refine zr (zw ((T0 : Int) + 1) ((T0 + 1 : Nat) : Int)) ?_
                  refine zM (zI ((T0 + 1 : Nat) : Int)) ?_
                  refine zN ?_
                  exact ⟨T0 + 1, rfl, (by simp [evN, *])⟩
                · skip
                  refine TWp.skip ?_
                  exact ⟨T0, rfl, (by simp [evN, *])⟩
              rintro _ ⟨T1, rfl, hT1⟩
              have hTl1 : T1 ≤ 2 := by have := evN_le o1 (stOn o1 (!u1) (!m1) f n1 p); omega
              refine TWp.region ?_
              refine zM (zI 1) ?_
              refine zr (zd (1 + 1) 2) ?_
              refine zM (zI 2) ?_
              refine zN ?_
              refine TWp.round ?_
              refine TWp.seq ?_
              refine TWp.seqA (AWp.region ?_)
              refine zM (zI 2) ?_
              refine zr (zi true) ?_
              refine zN ?_
              refine TWp.cond (b := true) rfl (fun hx => ?_) (fun hx => by cases hx)
              refine TWp.skip ?_
              refine TWp.mid [3, 4, 6, 7, 8, 14, 15, 16, 17, 56, 18, 19, 21, 85, 99, 108, 20] [6, 7, 8, 15, 18] (fun s => ∃ (T2 : Nat), s = ⟨[(3, zB f), (4, zI p), (6, .lptr 6 0), (7, .lptr 7 0), (8, .lptr 8 0), (14, zI 1), (15, .lptr 15 0), (16, .list true 33 (E.map encE)), (17, zI (i : Int)), (56, zB (decide ((i : Int) < (E.length : Int)))), (18, .lptr 18 0), (19, .list true 33 ((evA o0 o1 o2 (stOn o0 u0 m0 f n0 p) (stOn o1 (!u1) (!m1) f n1 p) (stOn o2 u2 m2 f n2 p)).map encE)), (21, zI 2), (85, zB true), (99, zB false), (108, zB (!((stOn o2 u2 m2 f n2 p) == o2))), (20, zI (T2 : Int))], [(6, [zB o0, zI n0, zB o1, zI n1, zB o2, zI n2]), (7, [zB u0, zB (!u1), zB u2]), (8, [zB m0, zB (!m1), zB m2]), (15, [zB (stOn o0 u0 m0 f n0 p), zI (stN o0 u0 m0 f n0 p), zB (stOn o1 u1 m1 f n1 p), zI (stN o1 u1 m1 f n1 p), zB (stOn o2 u2 m2 f n2 p), zI (stN o2 u2 m2 f n2 p)]), (18, [zB (stOn o0 u0 m0 f n0 p), zI (stN o0 u0 m0 f n0 p), zB (stOn o1 (!u1) (!m1) f n1 p), zI (stN o1 (!u1) (!m1) f n1 p), zB (stOn o2 u2 m2 f n2 p), zI (stN o2 u2 m2 f n2 p)])], noM⟩ ∧ (T2 = T1 + evN o2 (stOn o2 u2 m2 f n2 p))) ?_ ?_
              · skip
                refine TWp.block ?_
                refine TWp.seq ?_
                refine TWp.seqA (AWp.anyR [3, 4, 6, 7, 8, 14, 15, 16, 17, 56, 18, 19, 21, 85, 99, 20] [6, 7, 8, 15, 18] (⟨[(3, zB f), (4, zI p), (6, .lptr 6 0), (7, .lptr 7 0), (8, .lptr 8 0), (14, zI 1), (15, .lptr 15 0), (16, .list true 33 (E.map encE)), (17, zI (i : Int)), (56, zB (decide ((i : Int) < (E.length : Int)))), (18, .lptr 18 0), (19, .list true 33 ((evA o0 o1 o2 (stOn o0 u0 m0 f n0 p) (stOn o1 (!u1) (!m1) f n1 p) (stOn o2 u2 m2 f n2 p)).map encE)), (21, zI 2), (85, zB true), (99, zB false), (20, zI (T1 : Int))], [(6, [zB o0, zI n0, zB o1, zI n1, zB o2, zI n2]), (7, [zB u0, zB (!u1), zB u2]), (8, [zB m0, zB (!m1), zB m2]), (15, [zB (stOn o0 u0 m0 f n0 p), zI (stN o0 u0 m0 f n0 p), zB (stOn o1 u1 m1 f n1 p), zI (stN o1 u1 m1 f n1 p), zB (stOn o2 u2 m2 f n2 p), zI (stN o2 u2 m2 f n2 p)]), (18, [zB (stOn o0 u0 m0 f n0 p), zI (stN o0 u0 m0 f n0 p), zB (stOn o1 (!u1) (!m1) f n1 p), zI (stN o1 (!u1) (!m1) f n1 p), zB (stOn o2 u2 m2 f n2 p), zI (stN o2 u2 m2 f n2 p)])], noM⟩) (by kernel_rfl) ?_ ?_)
                · skip
                  skip
                  refine SAny.share 2 #[true, true, true, true, true, true, true, true, true, true, false, false] (⟨[(3, zB f), (4, zI p), (6, .lptr 6 0), (7, .lptr 7 0), (8, .lptr 8 0), (14, zI 1), (15, .lptr 15 0), (16, .list true 33 (E.map encE)), (17, zI (i : Int)), (56, zB (decide ((i : Int) < (E.length : Int)))), (18, .lptr 18 0), (19, .list true 33 ((evA o0 o1 o2 (stOn o0 u0 m0 f n0 p) (stOn o1 (!u1) (!m1) f n1 p) (stOn o2 u2 m2 f n2 p)).map encE)), (21, zI 2), (85, zB true), (99, zB false), (20, zI (T1 : Int)), (86, zI 1), (87, zI 2), (84, zI 2), (88, zI 2), (89, zI 1), (90, zB true), (91, zB true), (92, zI 2), (93, .lptr 15 4), (95, zI 2), (96, .lptr 18 4), (97, .agg [zB (stOn o2 u2 m2 f n2 p), zI (stN o2 u2 m2 f n2 p)]), (94, .agg [zB (stOn o2 u2 m2 f n2 p), zI (stN o2 u2 m2 f n2 p)])], [(6, [zB o0, zI n0, zB o1, zI n1, zB o2, zI n2]), (7, [zB u0, zB (!u1), zB u2]), (8, [zB m0, zB (!m1), zB m2]), (15, [zB (stOn o0 u0 m0 f n0 p), zI (stN o0 u0 m0 f n0 p), zB (stOn o1 u1 m1 f n1 p), zI (stN o1 u1 m1 f n1 p), zB (stOn o2 u2 m2 f n2 p), zI (stN o2 u2 m2 f n2 p)]), (18, [zB (stOn o0 u0 m0 f n0 p), zI (stN o0 u0 m0 f n0 p), zB (stOn o1 (!u1) (!m1) f n1 p), zI (stN o1 (!u1) (!m1) f n1 p), zB (stOn o2 u2 m2 f n2 p), zI (stN o2 u2 m2 f n2 p)])], noM⟩) ?_ (fun sh0 => ?_)
                  · skip
                    refine zq [10] ⟨⟨_, rfl, ?_⟩, trivial⟩
                    · skip
                      refine zr (Reader.eqAgg (us := [(.bool (stOn o2 u2 m2 f n2 p)), (.int .i64 (stN o2 u2 m2 f n2 p))]) (vs := [(.bool (stOn o2 u2 m2 f n2 p)), (.int .i64 (stN o2 u2 m2 f n2 p))]) (b := (((stOn o2 u2 m2 f n2 p) == (stOn o2 u2 m2 f n2 p)) && (((stN o2 u2 m2 f n2 p) == (stN o2 u2 m2 f n2 p)) && true))) (r := false) 9 rfl rfl rfl ⟨_, rfl⟩ ⟨_, rfl⟩ Try.underlying23 rfl eqg_23 (by decide) rfl rfl (eqV_23 (stOn o2 u2 m2 f n2 p) (stOn o2 u2 m2 f n2 p) (stN o2 u2 m2 f n2 p) (stN o2 u2 m2 f n2 p)) (.inr ⟨rfl, (by simp)⟩)) ?_
                      refine zN ?_
                      refine zk 11 rfl (PReader.pick rfl (b := true) rfl (ok_const rfl) (ok_const rfl) (v := zB false) rfl) ?_
                      exact SAny.done (by kernel_rfl) rfl
                  refine zkm 0 (zI 2) ?_
                  refine zkm 1 (zI 1) ?_
                  refine zk 2 rfl (PReader.int rfl rfl rfl (r := .bool true) rfl) ?_
                  refine zkm 3 (zB true) ?_
                  refine zkm 4 (zI 2) ?_
                  refine zk 5 rfl (PReader.indexL (m := 2) rfl Try.underlying24 sizeOf_23 rfl rfl rfl (by decide)) ?_
                  refine zkm 7 (zI 2) ?_
                  refine zk 8 rfl (PReader.indexL (m := 2) rfl Try.underlying24 sizeOf_23 rfl rfl rfl (by decide)) ?_
                  refine zq [6, 9] ⟨⟨_, rfl, ?_⟩, ⟨_, rfl, ?_⟩, trivial⟩
                  · skip
                    refine zr (zlL (.agg [zB (stOn o2 u2 m2 f n2 p), zI (stN o2 u2 m2 f n2 p)]) Try.underlying23 sizeOf_23) ?_
                    refine zN ?_
                    refine zq [9] ⟨⟨_, rfl, ?_⟩, trivial⟩
                    · skip
                      refine zr (zlL (.agg [zB (stOn o2 u2 m2 f n2 p), zI (stN o2 u2 m2 f n2 p)]) Try.underlying23 sizeOf_23) ?_
                      refine zN ?_
                      exact SAny.same [3, 4, 6, 7, 8, 14, 15, 16, 17, 56, 18, 19, 21, 85, 99, 20, 86, 87, 84, 88, 89, 90, 91, 92, 93, 95, 96, 97, 94] [6, 7, 8, 15, 18] sh0 (by kernel_rfl) rfl
                  · skip
                    refine zr (zlL (.agg [zB (stOn o2 u2 m2 f n2 p), zI (stN o2 u2 m2 f n2 p)]) Try.underlying23 sizeOf_23) ?_
                    refine zN ?_
                    refine zq [6] ⟨⟨_, rfl, ?_⟩, trivial⟩
                    · skip
                      refine zr (zlL (.agg [zB (stOn o2 u2 m2 f n2 p), zI (stN o2 u2 m2 f n2 p)]) Try.underlying23 sizeOf_23) ?_
                      refine zN ?_
                      exact SAny.same [3, 4, 6, 7, 8, 14, 15, 16, 17, 56, 18, 19, 21, 85, 99, 20, 86, 87, 84, 88, 89, 90, 91, 92, 93, 95, 96, 97, 94] [6, 7, 8, 15, 18] sh0 (by kernel_rfl) rfl
                refine TWp.cond (b := false) rfl (fun hx => by cases hx) (fun hx => ?_)
                refine TWp.skip ?_
                refine TWp.seqA (AWp.anyR [3, 4, 6, 7, 8, 14, 15, 16, 17, 56, 18, 19, 21, 85, 99, 20, 108] [6, 7, 8, 15, 18] (⟨[(3, zB f), (4, zI p), (6, .lptr 6 0), (7, .lptr 7 0), (8, .lptr 8 0), (14, zI 1), (15, .lptr 15 0), (16, .list true 33 (E.map encE)), (17, zI (i : Int)), (56, zB (decide ((i : Int) < (E.length : Int)))), (18, .lptr 18 0), (19, .list true 33 ((evA o0 o1 o2 (stOn o0 u0 m0 f n0 p) (stOn o1 (!u1) (!m1) f n1 p) (stOn o2 u2 m2 f n2 p)).map encE)), (21, zI 2), (85, zB true), (99, zB false), (20, zI (T1 : Int)), (108, zB (!((stOn o2 u2 m2 f n2 p) == o2)))], [(6, [zB o0, zI n0, zB o1, zI n1, zB o2, zI n2]), (7, [zB u0, zB (!u1), zB u2]), (8, [zB m0, zB (!m1), zB m2]), (15, [zB (stOn o0 u0 m0 f n0 p), zI (stN o0 u0 m0 f n0 p), zB (stOn o1 u1 m1 f n1 p), zI (stN o1 u1 m1 f n1 p), zB (stOn o2 u2 m2 f n2 p), zI (stN o2 u2 m2 f n2 p)]), (18, [zB (stOn o0 u0 m0 f n0 p), zI (stN o0 u0 m0 f n0 p), zB (stOn o1 (!u1) (!m1) f n1 p), zI (stN o1 (!u1) (!m1) f n1 p), zB (stOn o2 u2 m2 f n2 p), zI (stN o2 u2 m2 f n2 p)])], noM⟩) (by kernel_rfl) ?_ ?_)
                · skip
                  skip
                  refine zkm 0 (zI 2) ?_
                  refine zk 1 rfl (PReader.indexL (m := 2) rfl Try.underlying24 sizeOf_23 rfl rfl rfl (by decide)) ?_
                  refine zk 2 rfl (PReader.fieldL rfl ⟨_, _, Try.underlying23, rfl, rfl, rfl, sizeOf_4⟩ (by decide) rfl) ?_
                  refine zkm 4 (zI 2) ?_
                  refine zk 5 rfl (PReader.indexL (m := 2) rfl Try.underlying24 sizeOf_23 rfl rfl rfl (by decide)) ?_
                  refine zk 6 rfl (PReader.fieldL rfl ⟨_, _, Try.underlying23, rfl, rfl, rfl, sizeOf_4⟩ (by decide) rfl) ?_
                  refine zq [3, 7] ⟨⟨_, rfl, ?_⟩, ⟨_, rfl, ?_⟩, trivial⟩
                  · skip
                    refine zr (zlL (zB (stOn o2 u2 m2 f n2 p)) Try.underlying4 sizeOf_4) ?_
                    refine zN ?_
                    refine zq [7] ⟨⟨_, rfl, ?_⟩, trivial⟩
                    · skip
                      refine zr (zlL (zB o2) Try.underlying4 sizeOf_4) ?_
                      refine zN ?_
                      refine zk 8 rfl (PReader.bools (r := !((stOn o2 u2 m2 f n2 p) == o2)) rfl Try.underlying4 rfl rfl (.inr ⟨rfl, rfl⟩)) ?_
                      exact SAny.done (by kernel_rfl) rfl
                  · skip
                    refine zr (zlL (zB o2) Try.underlying4 sizeOf_4) ?_
                    refine zN ?_
                    refine zq [3] ⟨⟨_, rfl, ?_⟩, trivial⟩
                    · skip
                      refine zr (zlL (zB (stOn o2 u2 m2 f n2 p)) Try.underlying4 sizeOf_4) ?_
                      refine zN ?_
                      refine zk 8 rfl (PReader.bools (r := !((stOn o2 u2 m2 f n2 p) == o2)) rfl Try.underlying4 rfl rfl (.inr ⟨rfl, rfl⟩)) ?_
                      exact SAny.done (by kernel_rfl) rfl
                refine TWp.cond (b := !((stOn o2 u2 m2 f n2 p) == o2)) rfl (fun h8 => ?_) (fun h8 => ?_)
                · skip
                  refine TWp.region ?_
                  refine zM (zI (T1 : Int)) ?_
                  refine zr (zw ((T1 : Int) + 1) ((T1 + 1 : Nat) : Int)) ?_
                  refine zM (zI ((T1 + 1 : Nat) : Int)) ?_
                  refine zN ?_
                  exact ⟨T1 + 1, rfl, (by simp [evN, *])⟩
                · skip
                  refine TWp.skip ?_
                  exact ⟨T1, rfl, (by simp [evN, *])⟩
              rintro _ ⟨T2, rfl, hT2⟩
              have hTl2 : T2 ≤ 3 := by have := evN_le o2 (stOn o2 u2 m2 f n2 p); omega
              refine TWp.region ?_
              refine zM (zI 2) ?_
              refine zr (zd (2 + 1) 3) ?_
              refine zM (zI 3) ?_
              refine zN ?_
              refine TWp.round ?_
              refine TWp.seq ?_
              refine TWp.seqA (AWp.region ?_)
              refine zM (zI 3) ?_
              refine zr (zi false) ?_
              refine zN ?_
              refine TWp.cond (b := false) rfl (fun hx => by cases hx) (fun hx => ?_)
              refine TWp.exit ?_
              refine TWp.seq ?_
              refine TWp.seqA (AWp.region ?_)
              refine zM (zI 0) ?_
              refine zN ?_
              refine TWp.block ?_
              refine TWp.loopE [19, 20, 22] [] (fun m s => ∃ (i : Nat), m = (evA o0 o1 o2 (stOn o0 u0 m0 f n0 p) (stOn o1 (!u1) (!m1) f n1 p) (stOn o2 u2 m2 f n2 p)).length - i ∧ s = ⟨[(19, .list true 33 ((evA o0 o1 o2 (stOn o0 u0 m0 f n0 p) (stOn o1 (!u1) (!m1) f n1 p) (stOn o2 u2 m2 f n2 p)).map encE)), (20, zI (T2 : Int)), (22, zI (i : Int))], [], noM⟩ ∧ (i ≤ (evA o0 o1 o2 (stOn o0 u0 m0 f n0 p) (stOn o1 (!u1) (!m1) f n1 p) (stOn o2 u2 m2 f n2 p)).length)) ?_ ?_
              · exact ⟨_, 0, rfl, rfl, Nat.zero_le _⟩
              · rintro _ _ ⟨i, rfl, rfl, hi⟩
                have hl3 := evA_le o0 o1 o2 (stOn o0 u0 m0 f n0 p) (stOn o1 (!u1) (!m1) f n1 p) (stOn o2 u2 m2 f n2 p)
                have hkd := evA_kind o0 o1 o2 (stOn o0 u0 m0 f n0 p) (stOn o1 (!u1) (!m1) f n1 p) (stOn o2 u2 m2 f n2 p) (i := i)
                refine TWp.seq ?_
                refine TWp.seqA (AWp.region ?_)
                refine zM (zI (i : Int)) ?_
                refine zM (.list false 33 ((evA o0 o1 o2 (stOn o0 u0 m0 f n0 p) (stOn o1 (!u1) (!m1) f n1 p) (stOn o2 u2 m2 f n2 p)).map encE)) ?_
                refine zr (Reader.len' (xs := (evA o0 o1 o2 (stOn o0 u0 m0 f n0 p) (stOn o1 (!u1) (!m1) f n1 p) (stOn o2 u2 m2 f n2 p)).map encE) rfl rfl rfl rfl Try.underlying29 rfl (m := (evA o0 o1 o2 (stOn o0 u0 m0 f n0 p) (stOn o1 (!u1) (!m1) f n1 p) (stOn o2 u2 m2 f n2 p)).length) (by simp)) ?_
                refine zr (zi (decide ((i : Int) < (((evA o0 o1 o2 (stOn o0 u0 m0 f n0 p) (stOn o1 (!u1) (!m1) f n1 p) (stOn o2 u2 m2 f n2 p)).length : Nat) : Int)))) ?_
                refine zN ?_
                refine TWp.cond (b := decide ((i : Int) < (((evA o0 o1 o2 (stOn o0 u0 m0 f n0 p) (stOn o1 (!u1) (!m1) f n1 p) (stOn o2 u2 m2 f n2 p)).length : Nat) : Int))) rfl (fun h9 => ?_) (fun h9 => ?_)
                · skip
                  have h9' : i < ((evA o0 o1 o2 (stOn o0 u0 m0 f n0 p) (stOn o1 (!u1) (!m1) f n1 p) (stOn o2 u2 m2 f n2 p)).length) := (by have hh := of_decide_eq_true h9; omega)
                  clear h9
                  refine TWp.skip ?_
                  refine TWp.seq ?_
                  refine TWp.block ?_
                  refine TWp.regionJ [130, 19, 20, 22, 114] [] (fun z => ⟨(130, zB z) :: [(19, .list true 33 ((evA o0 o1 o2 (stOn o0 u0 m0 f n0 p) (stOn o1 (!u1) (!m1) f n1 p) (stOn o2 u2 m2 f n2 p)).map encE)), (20, zI (T2 : Int)), (22, zI (i : Int)), (114, zB (decide ((i : Int) < (((evA o0 o1 o2 (stOn o0 u0 m0 f n0 p) (stOn o1 (!u1) (!m1) f n1 p) (stOn o2 u2 m2 f n2 p)).length : Nat) : Int))))], [], noM⟩) (z := bif ((((evA o0 o1 o2 (stOn o0 u0 m0 f n0 p) (stOn o1 (!u1) (!m1) f n1 p) (stOn o2 u2 m2 f n2 p)).getD i e0).kind) != 6) then ((((evA o0 o1 o2 (stOn o0 u0 m0 f n0 p) (stOn o1 (!u1) (!m1) f n1 p) (stOn o2 u2 m2 f n2 p)).getD i e0).kind) != 7) else false) ?_ ?_
                  · skip
                    refine zM (.list false 33 ((evA o0 o1 o2 (stOn o0 u0 m0 f n0 p) (stOn o1 (!u1) (!m1) f n1 p) (stOn o2 u2 m2 f n2 p)).map encE)) ?_
                    refine zM (zI (i : Int)) ?_
                    refine zr (Reader.elemAddr (m := i) rfl Try.underlying29 sizeOf_33 rfl rfl rfl (e := encE ((evA o0 o1 o2 (stOn o0 u0 m0 f n0 p) (stOn o1 (!u1) (!m1) f n1 p) (stOn o2 u2 m2 f n2 p)).getD i e0)) (encE_at (by omega))) ?_
                    refine zr (zfE Try.underlying33 sizeOf_3) ?_
                    refine zr (zlE (zI (((evA o0 o1 o2 (stOn o0 u0 m0 f n0 p) (stOn o1 (!u1) (!m1) f n1 p) (stOn o2 u2 m2 f n2 p)).getD i e0).kind)) Try.underlying3 sizeOf_3) ?_
                    refine zr (zi ((((evA o0 o1 o2 (stOn o0 u0 m0 f n0 p) (stOn o1 (!u1) (!m1) f n1 p) (stOn o2 u2 m2 f n2 p)).getD i e0).kind) != 6)) ?_
                    refine zM (zB ((((evA o0 o1 o2 (stOn o0 u0 m0 f n0 p) (stOn o1 (!u1) (!m1) f n1 p) (stOn o2 u2 m2 f n2 p)).getD i e0).kind) != 6)) ?_
                    refine AOps.splitJ (t := 123) (b := (((evA o0 o1 o2 (stOn o0 u0 m0 f n0 p) (stOn o1 (!u1) (!m1) f n1 p) (stOn o2 u2 m2 f n2 p)).getD i e0).kind) != 6) (x := ((((evA o0 o1 o2 (stOn o0 u0 m0 f n0 p) (stOn o1 (!u1) (!m1) f n1 p) (stOn o2 u2 m2 f n2 p)).getD i e0).kind) != 7)) (y := false) rfl (fun h10 => ?_) (fun h10 => ?_)
                    · skip
                      have h10' : (((evA o0 o1 o2 (stOn o0 u0 m0 f n0 p) (stOn o1 (!u1) (!m1) f n1 p) (stOn o2 u2 m2 f n2 p)).getD i e0).kind) ≠ 6 := (by have hh := bne_iff_ne.1 h10; omega)
                      clear h10
                      refine zM (.list false 33 ((evA o0 o1 o2 (stOn o0 u0 m0 f n0 p) (stOn o1 (!u1) (!m1) f n1 p) (stOn o2 u2 m2 f n2 p)).map encE)) ?_
                      refine zM (zI (i : Int)) ?_
                      refine zr (Reader.elemAddr (m := i) rfl Try.underlying29 sizeOf_33 rfl rfl rfl (e := encE ((evA o0 o1 o2 (stOn o0 u0 m0 f n0 p) (stOn o1 (!u1) (!m1) f n1 p) (stOn o2 u2 m2 f n2 p)).getD i e0)) (encE_at (by omega))) ?_
                      refine zr (zfE Try.underlying33 sizeOf_3) ?_
                      refine zr (zlE (zI (((evA o0 o1 o2 (stOn o0 u0 m0 f n0 p) (stOn o1 (!u1) (!m1) f n1 p) (stOn o2 u2 m2 f n2 p)).getD i e0).kind)) Try.underlying3 sizeOf_3) ?_
                      refine zr (zi ((((evA o0 o1 o2 (stOn o0 u0 m0 f n0 p) (stOn o1 (!u1) (!m1) f n1 p) (stOn o2 u2 m2 f n2 p)).getD i e0).kind) != 7)) ?_
                      refine zr (zp true (zB ((((evA o0 o1 o2 (stOn o0 u0 m0 f n0 p) (stOn o1 (!u1) (!m1) f n1 p) (stOn o2 u2 m2 f n2 p)).getD i e0).kind) != 7))) ?_
                      exact AOps.nil rfl
                    · skip
                      have h10' : ¬ ((((evA o0 o1 o2 (stOn o0 u0 m0 f n0 p) (stOn o1 (!u1) (!m1) f n1 p) (stOn o2 u2 m2 f n2 p)).getD i e0).kind) ≠ 6) := (by have hh := bne_eq_false_iff_eq.1 h10; omega)
                      clear h10
                      refine zs ?_
                      refine zs ?_
                      refine zs ?_
                      refine zs ?_
                      refine zs ?_
                      refine zs ?_
                      refine zr (zp false (zB false)) ?_
                      exact AOps.nil rfl
                  refine TWp.cond (b := bif ((((evA o0 o1 o2 (stOn o0 u0 m0 f n0 p) (stOn o1 (!u1) (!m1) f n1 p) (stOn o2 u2 m2 f n2 p)).getD i e0).kind) != 6) then ((((evA o0 o1 o2 (stOn o0 u0 m0 f n0 p) (stOn o1 (!u1) (!m1) f n1 p) (stOn o2 u2 m2 f n2 p)).getD i e0).kind) != 7) else false) rfl (fun h11 => ?_) (fun h11 => ?_)
                  · skip
                    have h11' : ¬ (((evA o0 o1 o2 (stOn o0 u0 m0 f n0 p) (stOn o1 (!u1) (!m1) f n1 p) (stOn o2 u2 m2 f n2 p)).getD i e0).kind = 6 ∨ ((evA o0 o1 o2 (stOn o0 u0 m0 f n0 p) (stOn o1 (!u1) (!m1) f n1 p) (stOn o2 u2 m2 f n2 p)).getD i e0).kind = 7) := (kind_t h11)
                    clear h11
                    exfalso; exact absurd (hkd (by omega)) (by assumption)
                  · skip
                    have h11' : True := trivial
                    clear h11
                    refine TWp.skip ?_
                    refine TWp.region ?_
                    refine zM (zI (i : Int)) ?_
                    refine zr (zw ((i : Int) + 1) ((i + 1 : Nat) : Int)) ?_
                    refine zM (zI ((i + 1 : Nat) : Int)) ?_
                    refine zN ?_
                    exact ⟨_, by omega, i + 1, rfl, rfl, by omega⟩
                · skip
                  have h9' : ¬ (i < ((evA o0 o1 o2 (stOn o0 u0 m0 f n0 p) (stOn o1 (!u1) (!m1) f n1 p) (stOn o2 u2 m2 f n2 p)).length)) := (by have hh := of_decide_eq_false h9; omega)
                  clear h9
                  refine TWp.exit ?_
                  refine TWp.seqA (AWp.region ?_)
                  refine zM (.list false 33 ((evA o0 o1 o2 (stOn o0 u0 m0 f n0 p) (stOn o1 (!u1) (!m1) f n1 p) (stOn o2 u2 m2 f n2 p)).map encE)) ?_
                  refine zr (Reader.len' (xs := (evA o0 o1 o2 (stOn o0 u0 m0 f n0 p) (stOn o1 (!u1) (!m1) f n1 p) (stOn o2 u2 m2 f n2 p)).map encE) rfl rfl rfl rfl Try.underlying29 rfl (m := (evA o0 o1 o2 (stOn o0 u0 m0 f n0 p) (stOn o1 (!u1) (!m1) f n1 p) (stOn o2 u2 m2 f n2 p)).length) (by simp)) ?_
                  refine zM (zI (T2 : Int)) ?_
                  refine zr (zi ((((evA o0 o1 o2 (stOn o0 u0 m0 f n0 p) (stOn o1 (!u1) (!m1) f n1 p) (stOn o2 u2 m2 f n2 p)).length : Nat) : Int) == (T2 : Int))) ?_
                  refine zM (zB ((((evA o0 o1 o2 (stOn o0 u0 m0 f n0 p) (stOn o1 (!u1) (!m1) f n1 p) (stOn o2 u2 m2 f n2 p)).length : Nat) : Int) == (T2 : Int))) ?_
                  refine zN ?_
                  refine TWp.ret ?_
                  exact ⟨.inl rfl, _, ResOf.one 12 (zB ((((evA o0 o1 o2 (stOn o0 u0 m0 f n0 p) (stOn o1 (!u1) (!m1) f n1 p) (stOn o2 u2 m2 f n2 p)).length : Nat) : Int) == (T2 : Int))) rfl rfl, congrArg (fun b => AV.lit (.bool b)) (by rw [beq_iff_eq, evA_length]; omega)⟩

end Go.Proofs.Ytfnbfkgknfagmaa
