/- Walks over abstract values, printed by my program av.py. -/
import Derived.Test.YtlpihekflkjkfaaDoorLg1
import Derived.Test.YtlpihekflkjkfaaDoorAvZ
namespace Go.Proofs.YtlpihekflkjkfaaDoor
open Go.RowKit

theorem beq_dec (a b : Int) : (a == b) = decide (a = b) := by rw [Bool.eq_iff_iff]; simp
theorem named_b {k : Int} : (bif k != 6 then (bif k != 7 then k != 16 else false) else false) = decide (Named k) := by
  unfold Named
  by_cases h6 : k = 6
  · subst h6; simp
  · by_cases h7 : k = 7
    · subst h7; simp
    · by_cases h16 : k = 16
      · subst h16; simp
      · rw [bne_iff_ne.2 h6, bne_iff_ne.2 h7, bne_iff_ne.2 h16]
        exact (decide_eq_true ⟨h6, h7, h16⟩).symm

set_option maxRecDepth 20000 in
theorem fields_any (e : Ev) (h1 : 1 ≤ e.kind) (h2 : e.kind ≤ 16) (hid : e.id.length ≤ 4294967280) (hn : -9223372036854775808 ≤ e.n ∧ e.n ≤ 9223372036854775807) (M : Nat → Option (List AV)) : ACall Tryd.prog 79 [encE e] M (fun r M' => r = .tuple [.list true 9 ((flE e).map AV.str), encE (restE e), zB (okE e)] ∧ M = M') := by
  refine ACall.of Tryd.func79 rfl (n := 101) rfl rfl rfl ?_
  refine zg ?_
  refine AOps.box trivial rfl (by decide) rfl (noL rfl) rfl (v := encE e) (.inl ⟨rfl, rfl⟩) rfl rfl (all_flat rfl) ?_
  refine AOps.nilList 9 trivial rfl (by decide) (.inl rfl) ?_
  refine zal [] zero_34 [zI 0, .str [], zI 0, zI 0] ?_
  refine zM (zB false) ?_
  refine zN ?_
  refine zg ?_
  refine AOps.nilList 9 trivial rfl (by decide) (.inl rfl) ?_
  refine zN ?_
  refine zg ?_
  refine zM (zB true) ?_
  refine zN ?_
  refine AWp.mid [0, 1, 2, 3, 4, 12, 13, 5, 6] [3, 1] (fun s => ∃ (ls : List (List UInt8)) (ok : Bool) (sg2 : Int) (n2 : Int), s = ⟨[(0, encE e), (1, .lptr 1 0), (2, .list true 9 []), (3, .lptr 3 0), (4, zB false), (12, zI e.kind), (13, zB (e.kind == 3)), (5, .list true 9 (ls.map AV.str)), (6, zB ok)], [(3, [zI 0, .str [], zI 0, zI 0]), (1, [zI e.kind, .str e.id, zI sg2, zI n2])], M⟩ ∧ (ls = flE e) ∧ (ok = ok1E e) ∧ (sg2 = (restE e).sig) ∧ (n2 = (restE e).n)) ?_ ?_
  · skip
    refine zg ?_
    refine zr (zfL Tryd.underlying34 sizeOf_3) ?_
    refine zr (zlL (zI e.kind) Tryd.underlying3 sizeOf_3) ?_
    refine zN ?_
    refine AWp.block ?_
    refine AWp.seq ?_
    refine AWp.block ?_
    refine AWp.mid [0, 1, 2, 3, 4, 6, 12, 13, 15, 5] [1, 3] (fun s => ∃ (l5 : List (List UInt8)), s = ⟨[(0, encE e), (1, .lptr 1 0), (2, .list true 9 []), (3, .lptr 3 0), (4, zB false), (6, zB true), (12, zI e.kind), (13, zB (e.kind == 3)), (15, zB (e.kind == 5)), (5, .list true 9 (l5.map AV.str))], [(1, [zI e.kind, .str e.id, zI e.sig, zI e.n]), (3, [zI 0, .str [], zI 0, zI 0])], M⟩ ∧ (((e.kind = 9 ∨ e.kind = 14) ∧ l5 = [e.id]) ∨ (e.kind = 16 ∧ l5 = []))) ?_ ?_
    · skip
      refine AWp.block ?_
      refine AWp.seq ?_
      refine AWp.block ?_
      refine AWp.seq ?_
      refine AWp.block ?_
      refine AWp.seq ?_
      refine AWp.block ?_
      refine AWp.seq ?_
      refine AWp.block ?_
      refine AWp.seq ?_
      refine AWp.seq ?_
      refine zg ?_
      refine zr (zi (e.kind == 3)) ?_
      refine zM (zB (e.kind == 3)) ?_
      refine zN ?_
      refine zC (b := e.kind == 3) rfl (fun h1 => ?_) (fun h1 => ?_)
      · skip
        have h1' : e.kind = 3 := (by have hh := eq_of_beq h1; omega)
        clear h1
        refine AWp.exit ?_
        refine AWp.seq ?_
        refine zg ?_
        refine zr (zfL Tryd.underlying34 sizeOf_9) ?_
        refine zr (zlL (.str e.id) Tryd.underlying9 sizeOf_9) ?_
        refine zbS [] [.str e.id, .str [114, 111, 111, 109]] Tryd.underlying23 Tryd.i9 ?_
        refine zT (v := .list true 9 [.str e.id, .str [114, 111, 111, 109]]) rfl ?_
        refine zN ?_
        refine AWp.seq ?_
        refine zg ?_
        refine zr (zfL Tryd.underlying34 sizeOf_3) ?_
        refine zr (zlL (zI e.n) Tryd.underlying3 sizeOf_3) ?_
        refine zr (zi (e.n == 3)) ?_
        refine zN ?_
        refine zC (b := e.n == 3) rfl (fun h2 => ?_) (fun h2 => ?_)
        · skip
          have h2' : e.n = 3 := (by have hh := eq_of_beq h2; omega)
          clear h2
          refine zg ?_
          refine zr (zfL Tryd.underlying34 sizeOf_3) ?_
          refine zr (zlL (zI e.sig) Tryd.underlying3 sizeOf_3) ?_
          refine zc [zI e.sig] Tryd.call98 (lsig_any e.sig M) ?_
          rintro _ _ ⟨rfl, rfl⟩
          refine zM (.tuple [.str (sgw e.sig), zB (inS e.sig)]) ?_
          refine zr (zx (.str (sgw e.sig))) ?_
          refine zr (zx (zB (inS e.sig))) ?_
          refine zM (.str (sgw e.sig)) ?_
          refine zM (zB (inS e.sig)) ?_
          refine zN ?_
          refine AWp.region ?_
          refine zr (zfL Tryd.underlying34 sizeOf_9) ?_
          refine zr (zlL (.str e.id) Tryd.underlying9 sizeOf_9) ?_
          refine zM (.str (sgw e.sig)) ?_
          refine zbS [] [.str e.id, .str [112, 114, 101, 115, 115, 117, 114, 101], .str (sgw e.sig)] Tryd.underlying23 Tryd.i9 ?_
          refine zM (zB (inS e.sig)) ?_
          refine zT (v := .list true 9 [.str e.id, .str [112, 114, 101, 115, 115, 117, 114, 101], .str (sgw e.sig)]) rfl ?_
          refine zM (zB (inS e.sig)) ?_
          refine zr (zfL Tryd.underlying34 sizeOf_3) ?_
          refine zst sizeOf_3 (zI 0) ?_
          refine zN ?_
          refine AWp.region ?_
          refine zr (zfL Tryd.underlying34 sizeOf_3) ?_
          refine zst sizeOf_3 (zI 0) ?_
          refine zN ?_
          refine AWp.exit ?_
          exact ⟨[e.id, [112, 114, 101, 115, 115, 117, 114, 101], sgw e.sig], _, _, _, rfl, by first | (simp [flE, presL, roomL, *]; done) | (rcases h5 with ⟨h5, rfl⟩ | ⟨h5, rfl⟩ <;> first | (rcases h5 with h5 | h5 <;> simp [flE, h5]; done) | (simp [flE, h5]; done)) | (rcases (show e.kind = 6 ∨ e.kind = 7 by assumption) with h6 | h6 <;> simp [flE, h6]; done) | (simp_all [flE, presL, roomL]; done), by first | (simp [ok1E, beq_dec, *]; done) | (rcases h5 with ⟨h5 | h5, rfl⟩ | ⟨h5, rfl⟩ <;> simp [ok1E, h5]; done) | (rcases (show e.kind = 6 ∨ e.kind = 7 by assumption) with h6 | h6 <;> simp [ok1E, h6]; done) | (simp_all [ok1E]; done), by first | (simp [restE, *]; done) | (rcases h5 with ⟨h5 | h5, rfl⟩ | ⟨h5, rfl⟩ <;> simp [restE, h5]; done) | (rcases (show e.kind = 6 ∨ e.kind = 7 by assumption) with h6 | h6 <;> simp [restE, h6]; done) | (simp_all [restE]; done), by first | (simp [restE, *]; done) | (rcases h5 with ⟨h5 | h5, rfl⟩ | ⟨h5, rfl⟩ <;> simp [restE, h5]; done) | (rcases (show e.kind = 6 ∨ e.kind = 7 by assumption) with h6 | h6 <;> simp [restE, h6]; done) | (simp_all [restE]; done)⟩
        · skip
          have h2' : ¬ (e.n = 3) := (by have hh := beq_eq_false_iff_ne.1 h2; omega)
          clear h2
          refine AWp.region ?_
          refine zr (zfL Tryd.underlying34 sizeOf_3) ?_
          refine zr (zlL (zI e.n) Tryd.underlying3 sizeOf_3) ?_
          refine zr (zi (e.n == 4)) ?_
          refine zM (zB (e.n == 4)) ?_
          refine zN ?_
          refine AWp.region ?_
          refine zr (zfL Tryd.underlying34 sizeOf_3) ?_
          refine zst sizeOf_3 (zI 0) ?_
          refine zN ?_
          refine AWp.exit ?_
          exact ⟨[e.id, [114, 111, 111, 109]], _, _, _, rfl, by first | (simp [flE, presL, roomL, *]; done) | (rcases h5 with ⟨h5, rfl⟩ | ⟨h5, rfl⟩ <;> first | (rcases h5 with h5 | h5 <;> simp [flE, h5]; done) | (simp [flE, h5]; done)) | (rcases (show e.kind = 6 ∨ e.kind = 7 by assumption) with h6 | h6 <;> simp [flE, h6]; done) | (simp_all [flE, presL, roomL]; done), by first | (simp [ok1E, beq_dec, *]; done) | (rcases h5 with ⟨h5 | h5, rfl⟩ | ⟨h5, rfl⟩ <;> simp [ok1E, h5]; done) | (rcases (show e.kind = 6 ∨ e.kind = 7 by assumption) with h6 | h6 <;> simp [ok1E, h6]; done) | (simp_all [ok1E]; done), by first | (simp [restE, *]; done) | (rcases h5 with ⟨h5 | h5, rfl⟩ | ⟨h5, rfl⟩ <;> simp [restE, h5]; done) | (rcases (show e.kind = 6 ∨ e.kind = 7 by assumption) with h6 | h6 <;> simp [restE, h6]; done) | (simp_all [restE]; done), by first | (simp [restE, *]; done) | (rcases h5 with ⟨h5 | h5, rfl⟩ | ⟨h5, rfl⟩ <;> simp [restE, h5]; done) | (rcases (show e.kind = 6 ∨ e.kind = 7 by assumption) with h6 | h6 <;> simp [restE, h6]; done) | (simp_all [restE]; done)⟩
      · skip
        have h1' : ¬ (e.kind = 3) := (by have hh := beq_eq_false_iff_ne.1 h1; omega)
        clear h1
        refine AWp.skip ?_
        refine AWp.seq ?_
        refine zg ?_
        refine zr (zi (e.kind == 5)) ?_
        refine zM (zB (e.kind == 5)) ?_
        refine zN ?_
        refine zC (b := e.kind == 5) rfl (fun h3 => ?_) (fun h3 => ?_)
        · skip
          have h3' : e.kind = 5 := (by have hh := eq_of_beq h3; omega)
          clear h3
          refine AWp.exit ?_
          refine AWp.region ?_
          refine zr (zfL Tryd.underlying34 sizeOf_9) ?_
          refine zr (zlL (.str e.id) Tryd.underlying9 sizeOf_9) ?_
          refine zbS [] [.str e.id] Tryd.underlying23 Tryd.i9 ?_
          refine zT (v := .list true 9 [.str e.id]) rfl ?_
          refine zN ?_
          refine AWp.seq ?_
          refine zg ?_
          refine zr (zfL Tryd.underlying34 sizeOf_3) ?_
          refine zr (zlL (zI e.sig) Tryd.underlying3 sizeOf_3) ?_
          refine zc [zI e.sig] Tryd.call98 (lsig_any e.sig M) ?_
          rintro _ _ ⟨rfl, rfl⟩
          refine zM (.tuple [.str (sgw e.sig), zB (inS e.sig)]) ?_
          refine zr (zx (.str (sgw e.sig))) ?_
          refine zr (zx (zB (inS e.sig))) ?_
          refine zM (.str (sgw e.sig)) ?_
          refine zM (zB (inS e.sig)) ?_
          refine zN ?_
          refine AWp.region ?_
          refine zT (v := .list true 9 [.str e.id]) rfl ?_
          refine zM (.str (sgw e.sig)) ?_
          refine zbS [] [.str (sgw e.sig)] Tryd.underlying23 Tryd.i9 ?_
          refine zap (m1 := 1) (m2 := 1) 16 [.str e.id] [.str (sgw e.sig)] (([e.id] ++ [sgw e.sig]).map AV.str) Tryd.underlying23 Tryd.underlying23 Tryd.i9 rfl rfl (by simp) ?_
          refine zM (zB (inS e.sig)) ?_
          refine zT (v := .list true 9 (([e.id] ++ [sgw e.sig]).map AV.str)) rfl ?_
          refine zM (zB (inS e.sig)) ?_
          refine zr (zfL Tryd.underlying34 sizeOf_3) ?_
          refine zst sizeOf_3 (zI 0) ?_
          refine zN ?_
          refine AWp.exit ?_
          exact ⟨([e.id] ++ [sgw e.sig]), _, _, _, rfl, by first | (simp [flE, presL, roomL, *]; done) | (rcases h5 with ⟨h5, rfl⟩ | ⟨h5, rfl⟩ <;> first | (rcases h5 with h5 | h5 <;> simp [flE, h5]; done) | (simp [flE, h5]; done)) | (rcases (show e.kind = 6 ∨ e.kind = 7 by assumption) with h6 | h6 <;> simp [flE, h6]; done) | (simp_all [flE, presL, roomL]; done), by first | (simp [ok1E, beq_dec, *]; done) | (rcases h5 with ⟨h5 | h5, rfl⟩ | ⟨h5, rfl⟩ <;> simp [ok1E, h5]; done) | (rcases (show e.kind = 6 ∨ e.kind = 7 by assumption) with h6 | h6 <;> simp [ok1E, h6]; done) | (simp_all [ok1E]; done), by first | (simp [restE, *]; done) | (rcases h5 with ⟨h5 | h5, rfl⟩ | ⟨h5, rfl⟩ <;> simp [restE, h5]; done) | (rcases (show e.kind = 6 ∨ e.kind = 7 by assumption) with h6 | h6 <;> simp [restE, h6]; done) | (simp_all [restE]; done), by first | (simp [restE, *]; done) | (rcases h5 with ⟨h5 | h5, rfl⟩ | ⟨h5, rfl⟩ <;> simp [restE, h5]; done) | (rcases (show e.kind = 6 ∨ e.kind = 7 by assumption) with h6 | h6 <;> simp [restE, h6]; done) | (simp_all [restE]; done)⟩
        · skip
          have h3' : ¬ (e.kind = 5) := (by have hh := beq_eq_false_iff_ne.1 h3; omega)
          clear h3
          refine AWp.skip ?_
          refine AWp.seq ?_
          refine AWp.mid [0, 1, 2, 3, 4, 5, 6, 12, 13, 15, 17] [1, 3] (fun s => ∃ (z17 : Bool), s = ⟨[(0, encE e), (1, .lptr 1 0), (2, .list true 9 []), (3, .lptr 3 0), (4, zB false), (5, .list true 9 []), (6, zB true), (12, zI e.kind), (13, zB (e.kind == 3)), (15, zB (e.kind == 5)), (17, zB z17)], [(1, [zI e.kind, .str e.id, zI e.sig, zI e.n]), (3, [zI 0, .str [], zI 0, zI 0])], M⟩ ∧ (z17 = decide (e.kind = 6 ∨ e.kind = 7))) ?_ ?_
          · skip
            refine zg ?_
            refine zr (zi (e.kind == 6)) ?_
            refine zM (zB (e.kind == 6)) ?_
            refine zN ?_
            refine zC (b := e.kind == 6) rfl (fun h4 => ?_) (fun h4 => ?_)
            · skip
              have h4' : e.kind = 6 := (by have hh := eq_of_beq h4; omega)
              clear h4
              refine AWp.skip ?_
              exact ⟨_, rfl, by simp [beq_dec, *]⟩
            · skip
              have h4' : ¬ (e.kind = 6) := (by have hh := beq_eq_false_iff_ne.1 h4; omega)
              clear h4
              refine AWp.region ?_
              refine zr (zi (e.kind == 7)) ?_
              refine zM (zB (e.kind == 7)) ?_
              refine zN ?_
              exact ⟨_, rfl, by simp [beq_dec, *]⟩
          rintro _ ⟨z17, rfl, hz17⟩
          refine zC (b := z17) rfl (fun h5 => ?_) (fun h5 => ?_)
          · skip
            have h5' : e.kind = 6 ∨ e.kind = 7 := (of_decide_eq_true (hz17.symm.trans h5))
            clear h5
            refine AWp.exit ?_
            refine AWp.seq ?_
            refine zg ?_
            refine zr (zfL Tryd.underlying34 sizeOf_3) ?_
            refine zr (zlL (zI e.sig) Tryd.underlying3 sizeOf_3) ?_
            refine zc [zI e.sig] Tryd.call98 (lsig_any e.sig M) ?_
            rintro _ _ ⟨rfl, rfl⟩
            refine zM (.tuple [.str (sgw e.sig), zB (inS e.sig)]) ?_
            refine zr (zx (.str (sgw e.sig))) ?_
            refine zr (zx (zB (inS e.sig))) ?_
            refine zM (.str (sgw e.sig)) ?_
            refine zM (zB (inS e.sig)) ?_
            refine zN ?_
            refine AWp.region ?_
            refine zT (v := .list true 9 []) rfl ?_
            refine zM (.str (sgw e.sig)) ?_
            refine zbS [] [.str (sgw e.sig)] Tryd.underlying23 Tryd.i9 ?_
            refine zap (m1 := 0) (m2 := 1) 16 [] [.str (sgw e.sig)] (([] ++ [sgw e.sig]).map AV.str) Tryd.underlying23 Tryd.underlying23 Tryd.i9 rfl rfl (by simp) ?_
            refine zM (zB (inS e.sig)) ?_
            refine zT (v := .list true 9 (([] ++ [sgw e.sig]).map AV.str)) rfl ?_
            refine zM (zB (inS e.sig)) ?_
            refine zr (zfL Tryd.underlying34 sizeOf_3) ?_
            refine zst sizeOf_3 (zI 0) ?_
            refine zN ?_
            refine AWp.exit ?_
            exact ⟨([] ++ [sgw e.sig]), _, _, _, rfl, by first | (simp [flE, presL, roomL, *]; done) | (rcases h5 with ⟨h5, rfl⟩ | ⟨h5, rfl⟩ <;> first | (rcases h5 with h5 | h5 <;> simp [flE, h5]; done) | (simp [flE, h5]; done)) | (rcases (show e.kind = 6 ∨ e.kind = 7 by assumption) with h6 | h6 <;> simp [flE, h6]; done) | (simp_all [flE, presL, roomL]; done), by first | (simp [ok1E, beq_dec, *]; done) | (rcases h5 with ⟨h5 | h5, rfl⟩ | ⟨h5, rfl⟩ <;> simp [ok1E, h5]; done) | (rcases (show e.kind = 6 ∨ e.kind = 7 by assumption) with h6 | h6 <;> simp [ok1E, h6]; done) | (simp_all [ok1E]; done), by first | (simp [restE, *]; done) | (rcases h5 with ⟨h5 | h5, rfl⟩ | ⟨h5, rfl⟩ <;> simp [restE, h5]; done) | (rcases (show e.kind = 6 ∨ e.kind = 7 by assumption) with h6 | h6 <;> simp [restE, h6]; done) | (simp_all [restE]; done), by first | (simp [restE, *]; done) | (rcases h5 with ⟨h5 | h5, rfl⟩ | ⟨h5, rfl⟩ <;> simp [restE, h5]; done) | (rcases (show e.kind = 6 ∨ e.kind = 7 by assumption) with h6 | h6 <;> simp [restE, h6]; done) | (simp_all [restE]; done)⟩
          · skip
            have h5' : ¬ (e.kind = 6 ∨ e.kind = 7) := (of_decide_eq_false (hz17.symm.trans h5))
            clear h5
            refine AWp.skip ?_
            refine AWp.seq ?_
            refine AWp.mid [0, 1, 2, 3, 4, 5, 6, 12, 13, 15, 17, 20] [1, 3] (fun s => ∃ (z20 : Bool), s = ⟨[(0, encE e), (1, .lptr 1 0), (2, .list true 9 []), (3, .lptr 3 0), (4, zB false), (5, .list true 9 []), (6, zB true), (12, zI e.kind), (13, zB (e.kind == 3)), (15, zB (e.kind == 5)), (17, zB z17), (20, zB z20)], [(1, [zI e.kind, .str e.id, zI e.sig, zI e.n]), (3, [zI 0, .str [], zI 0, zI 0])], M⟩ ∧ (z20 = decide (e.kind = 9 ∨ e.kind = 14))) ?_ ?_
            · skip
              refine zg ?_
              refine zr (zi (e.kind == 9)) ?_
              refine zM (zB (e.kind == 9)) ?_
              refine zN ?_
              refine zC (b := e.kind == 9) rfl (fun h6 => ?_) (fun h6 => ?_)
              · skip
                have h6' : e.kind = 9 := (by have hh := eq_of_beq h6; omega)
                clear h6
                refine AWp.skip ?_
                exact ⟨_, rfl, by simp [beq_dec, *]⟩
              · skip
                have h6' : ¬ (e.kind = 9) := (by have hh := beq_eq_false_iff_ne.1 h6; omega)
                clear h6
                refine AWp.region ?_
                refine zr (zi (e.kind == 14)) ?_
                refine zM (zB (e.kind == 14)) ?_
                refine zN ?_
                exact ⟨_, rfl, by simp [beq_dec, *]⟩
            rintro _ ⟨z20, rfl, hz20⟩
            refine zC (b := z20) rfl (fun h7 => ?_) (fun h7 => ?_)
            · skip
              have h7' : e.kind = 9 ∨ e.kind = 14 := (of_decide_eq_true (hz20.symm.trans h7))
              clear h7
              refine AWp.exit ?_
              refine AWp.region ?_
              refine zr (zfL Tryd.underlying34 sizeOf_9) ?_
              refine zr (zlL (.str e.id) Tryd.underlying9 sizeOf_9) ?_
              refine zbS [] [.str e.id] Tryd.underlying23 Tryd.i9 ?_
              refine zT (v := .list true 9 [.str e.id]) rfl ?_
              refine zN ?_
              exact ⟨[e.id], rfl, by simp [*]⟩
            · skip
              have h7' : ¬ (e.kind = 9 ∨ e.kind = 14) := (of_decide_eq_false (hz20.symm.trans h7))
              clear h7
              refine AWp.skip ?_
              refine zg ?_
              refine zr (zi (e.kind == 16)) ?_
              refine zM (zB (e.kind == 16)) ?_
              refine zN ?_
              refine zC (b := e.kind == 16) rfl (fun h8 => ?_) (fun h8 => ?_)
              · skip
                have h8' : e.kind = 16 := (by have hh := eq_of_beq h8; omega)
                clear h8
                refine AWp.exit ?_
                exact ⟨[], rfl, by simp [*]⟩
              · skip
                have h8' : ¬ (e.kind = 16) := (by have hh := beq_eq_false_iff_ne.1 h8; omega)
                clear h8
                refine AWp.skip ?_
                refine AWp.exit ?_
                refine zg ?_
                refine zr (zfL Tryd.underlying34 sizeOf_9) ?_
                refine zr (zlL (.str e.id) Tryd.underlying9 sizeOf_9) ?_
                refine zbS [] [.str e.id] Tryd.underlying23 Tryd.i9 ?_
                refine zT (v := .list true 9 [.str e.id]) rfl ?_
                refine zN ?_
                refine AWp.exit ?_
                exact ⟨[e.id], _, _, _, rfl, by first | (simp [flE, presL, roomL, *]; done) | (rcases h5 with ⟨h5, rfl⟩ | ⟨h5, rfl⟩ <;> first | (rcases h5 with h5 | h5 <;> simp [flE, h5]; done) | (simp [flE, h5]; done)) | (rcases (show e.kind = 6 ∨ e.kind = 7 by assumption) with h6 | h6 <;> simp [flE, h6]; done) | (simp_all [flE, presL, roomL]; done), by first | (simp [ok1E, beq_dec, *]; done) | (rcases h5 with ⟨h5 | h5, rfl⟩ | ⟨h5, rfl⟩ <;> simp [ok1E, h5]; done) | (rcases (show e.kind = 6 ∨ e.kind = 7 by assumption) with h6 | h6 <;> simp [ok1E, h6]; done) | (simp_all [ok1E]; done), by first | (simp [restE, *]; done) | (rcases h5 with ⟨h5 | h5, rfl⟩ | ⟨h5, rfl⟩ <;> simp [restE, h5]; done) | (rcases (show e.kind = 6 ∨ e.kind = 7 by assumption) with h6 | h6 <;> simp [restE, h6]; done) | (simp_all [restE]; done), by first | (simp [restE, *]; done) | (rcases h5 with ⟨h5 | h5, rfl⟩ | ⟨h5, rfl⟩ <;> simp [restE, h5]; done) | (rcases (show e.kind = 6 ∨ e.kind = 7 by assumption) with h6 | h6 <;> simp [restE, h6]; done) | (simp_all [restE]; done)⟩
    rintro _ ⟨l5, rfl, h5⟩
    have h5l : l5.length ≤ 1 := by rcases h5 with ⟨_, rfl⟩ | ⟨_, rfl⟩ <;> simp
    refine AWp.seq (AWp.anyR [0, 1, 2, 3, 4, 6, 12, 13, 15, 5] [1, 3] (⟨[(0, encE e), (1, .lptr 1 0), (2, .list true 9 []), (3, .lptr 3 0), (4, zB false), (6, zB (decide (e.n ≥ 0))), (12, zI e.kind), (13, zB (e.kind == 3)), (15, zB (e.kind == 5)), (5, .list true 9 ((l5 ++ [Lib.itoa e.n]).map AV.str))], [(1, [zI e.kind, .str e.id, zI e.sig, zI 0]), (3, [zI 0, .str [], zI 0, zI 0])], M⟩) (by kernel_rfl) ?_ ?_)
    · skip
      skip
      refine SAny.share 5 #[true, true, true, true, true, true, true, true, false, false, false, false, false] (⟨[(0, encE e), (1, .lptr 1 0), (2, .list true 9 []), (3, .lptr 3 0), (4, zB false), (6, zB true), (12, zI e.kind), (13, zB (e.kind == 3)), (15, zB (e.kind == 5)), (5, .list false 9 (l5.map AV.str)), (66, .lptr 1 3), (71, .lptr 1 3), (72, zI e.n), (67, zI e.n), (68, .str (Lib.itoa e.n)), (69, .list true 9 [.str (Lib.itoa e.n)]), (65, .list false 9 (l5.map AV.str)), (70, .list true 9 ((l5 ++ [Lib.itoa e.n]).map AV.str))], [(1, [zI e.kind, .str e.id, zI e.sig, zI e.n]), (3, [zI 0, .str [], zI 0, zI 0])], M⟩) ?_ (fun sh0 => ?_)
      · skip
        refine zq [8] ⟨⟨_, rfl, ?_⟩, trivial⟩
        · skip
          refine zc [zI e.n] Tryd.call99 (counted_any e.n M) ?_
          rintro _ _ ⟨rfl, rfl⟩
          refine zN ?_
          refine zq [9] ⟨⟨_, rfl, ?_⟩, trivial⟩
          · skip
            refine zT (v := .list true 9 ((l5 ++ [Lib.itoa e.n]).map AV.str)) rfl ?_
            refine zN ?_
            refine zkm 10 (zB (decide (e.n ≥ 0))) ?_
            refine zk 11 rfl (PReader.fieldL rfl ⟨_, _, Tryd.underlying34, rfl, rfl, rfl, sizeOf_3⟩ (by decide) rfl) ?_
            refine zq [12] ⟨⟨_, rfl, ?_⟩, trivial⟩
            · skip
              refine zst sizeOf_3 (zI 0) ?_
              refine zN ?_
              exact SAny.done (by kernel_rfl) rfl
      refine SAny.share 6 #[true, true, true, true, true, false, true, true, false, false, false, false, false] (⟨[(0, encE e), (1, .lptr 1 0), (2, .list true 9 []), (3, .lptr 3 0), (4, zB false), (6, zB true), (12, zI e.kind), (13, zB (e.kind == 3)), (15, zB (e.kind == 5)), (5, .list false 9 (l5.map AV.str)), (66, .lptr 1 3), (71, .lptr 1 3), (72, zI e.n), (67, zI e.n), (68, .str (Lib.itoa e.n)), (69, .list true 9 [.str (Lib.itoa e.n)]), (65, .list true 9 (l5.map AV.str))], [(1, [zI e.kind, .str e.id, zI e.sig, zI e.n]), (3, [zI 0, .str [], zI 0, zI 0])], M⟩) ?_ (fun sh1 => ?_)
      · skip
        refine zq [5] ⟨⟨_, rfl, ?_⟩, trivial⟩
        · skip
          refine zap (m1 := l5.length) (m2 := 1) 16 (l5.map AV.str) [.str (Lib.itoa e.n)] ((l5 ++ [Lib.itoa e.n]).map AV.str) Tryd.underlying23 Tryd.underlying23 Tryd.i9 (by simp) rfl (by simp) ?_
          refine zN ?_
          exact SAny.same [0, 1, 2, 3, 4, 6, 12, 13, 15, 5, 66, 71, 72, 67, 68, 69, 65, 70] [1, 3] sh0 (by kernel_rfl) rfl
      refine SAny.share 7 #[true, true, true, true, false, false, true, true, false, false, false, false, false] (⟨[(0, encE e), (1, .lptr 1 0), (2, .list true 9 []), (3, .lptr 3 0), (4, zB false), (6, zB true), (12, zI e.kind), (13, zB (e.kind == 3)), (15, zB (e.kind == 5)), (5, .list false 9 (l5.map AV.str)), (66, .lptr 1 3), (71, .lptr 1 3), (72, zI e.n), (67, zI e.n), (68, .str (Lib.itoa e.n)), (65, .list true 9 (l5.map AV.str))], [(1, [zI e.kind, .str e.id, zI e.sig, zI e.n]), (3, [zI 0, .str [], zI 0, zI 0])], M⟩) ?_ (fun sh2 => ?_)
      · skip
        refine zq [4] ⟨⟨_, rfl, ?_⟩, trivial⟩
        · skip
          refine zbS [] [.str (Lib.itoa e.n)] Tryd.underlying23 Tryd.i9 ?_
          refine zN ?_
          exact SAny.same [0, 1, 2, 3, 4, 6, 12, 13, 15, 5, 66, 71, 72, 67, 68, 69, 65] [1, 3] sh1 (by kernel_rfl) rfl
      refine SAny.share 7 #[false, true, true, true, true, false, true, true, false, false, false, false, false] (⟨[(0, encE e), (1, .lptr 1 0), (2, .list true 9 []), (3, .lptr 3 0), (4, zB false), (6, zB true), (12, zI e.kind), (13, zB (e.kind == 3)), (15, zB (e.kind == 5)), (5, .list true 9 (l5.map AV.str)), (66, .lptr 1 3), (71, .lptr 1 3), (72, zI e.n), (67, zI e.n), (68, .str (Lib.itoa e.n)), (69, .list true 9 [.str (Lib.itoa e.n)])], [(1, [zI e.kind, .str e.id, zI e.sig, zI e.n]), (3, [zI 0, .str [], zI 0, zI 0])], M⟩) ?_ (fun sh3 => ?_)
      · skip
        refine zq [0] ⟨⟨_, rfl, ?_⟩, trivial⟩
        · skip
          refine zT (v := .list true 9 (l5.map AV.str)) rfl ?_
          refine zN ?_
          exact SAny.same [0, 1, 2, 3, 4, 6, 12, 13, 15, 5, 66, 71, 72, 67, 68, 69, 65] [1, 3] sh1 (by kernel_rfl) rfl
      refine SAny.share 7 #[true, true, true, true, true, false, true, false, false, false, false, false, false] (⟨[(0, encE e), (1, .lptr 1 0), (2, .list true 9 []), (3, .lptr 3 0), (4, zB false), (6, zB true), (12, zI e.kind), (13, zB (e.kind == 3)), (15, zB (e.kind == 5)), (5, .list false 9 (l5.map AV.str)), (66, .lptr 1 3), (71, .lptr 1 3), (67, zI e.n), (68, .str (Lib.itoa e.n)), (69, .list true 9 [.str (Lib.itoa e.n)]), (65, .list true 9 (l5.map AV.str))], [(1, [zI e.kind, .str e.id, zI e.sig, zI e.n]), (3, [zI 0, .str [], zI 0, zI 0])], M⟩) ?_ (fun sh4 => ?_)
      · skip
        refine zq [5, 7] ⟨⟨_, rfl, ?_⟩, ⟨_, rfl, ?_⟩, trivial⟩
        · skip
          refine zap (m1 := l5.length) (m2 := 1) 16 (l5.map AV.str) [.str (Lib.itoa e.n)] ((l5 ++ [Lib.itoa e.n]).map AV.str) Tryd.underlying23 Tryd.underlying23 Tryd.i9 (by simp) rfl (by simp) ?_
          refine zN ?_
          refine zq [7] ⟨⟨_, rfl, ?_⟩, trivial⟩
          · skip
            refine zr (zlL (zI e.n) Tryd.underlying3 sizeOf_3) ?_
            refine zN ?_
            exact SAny.same [0, 1, 2, 3, 4, 6, 12, 13, 15, 5, 66, 71, 72, 67, 68, 69, 65, 70] [1, 3] sh0 (by kernel_rfl) rfl
        · skip
          refine zr (zlL (zI e.n) Tryd.underlying3 sizeOf_3) ?_
          refine zN ?_
          exact SAny.same [0, 1, 2, 3, 4, 6, 12, 13, 15, 5, 66, 71, 72, 67, 68, 69, 65] [1, 3] sh1 (by kernel_rfl) rfl
      refine SAny.share 8 #[true, true, true, false, false, false, true, true, false, false, false, false, false] (⟨[(0, encE e), (1, .lptr 1 0), (2, .list true 9 []), (3, .lptr 3 0), (4, zB false), (6, zB true), (12, zI e.kind), (13, zB (e.kind == 3)), (15, zB (e.kind == 5)), (5, .list false 9 (l5.map AV.str)), (66, .lptr 1 3), (71, .lptr 1 3), (72, zI e.n), (67, zI e.n), (65, .list true 9 (l5.map AV.str))], [(1, [zI e.kind, .str e.id, zI e.sig, zI e.n]), (3, [zI 0, .str [], zI 0, zI 0])], M⟩) ?_ (fun sh5 => ?_)
      · skip
        refine zq [3] ⟨⟨_, rfl, ?_⟩, trivial⟩
        · skip
          refine zc [zI e.n] Tryd.call44 (itoa_int e.n hn.1 hn.2 M) ?_
          rintro _ _ ⟨rfl, rfl⟩
          refine zN ?_
          exact SAny.same [0, 1, 2, 3, 4, 6, 12, 13, 15, 5, 66, 71, 72, 67, 68, 65] [1, 3] sh2 (by kernel_rfl) rfl
      refine SAny.share 8 #[false, true, true, true, false, false, true, true, false, false, false, false, false] (⟨[(0, encE e), (1, .lptr 1 0), (2, .list true 9 []), (3, .lptr 3 0), (4, zB false), (6, zB true), (12, zI e.kind), (13, zB (e.kind == 3)), (15, zB (e.kind == 5)), (5, .list true 9 (l5.map AV.str)), (66, .lptr 1 3), (71, .lptr 1 3), (72, zI e.n), (67, zI e.n), (68, .str (Lib.itoa e.n))], [(1, [zI e.kind, .str e.id, zI e.sig, zI e.n]), (3, [zI 0, .str [], zI 0, zI 0])], M⟩) ?_ (fun sh6 => ?_)
      · skip
        refine zq [0, 4] ⟨⟨_, rfl, ?_⟩, ⟨_, rfl, ?_⟩, trivial⟩
        · skip
          refine zT (v := .list true 9 (l5.map AV.str)) rfl ?_
          refine zN ?_
          exact SAny.same [0, 1, 2, 3, 4, 6, 12, 13, 15, 5, 66, 71, 72, 67, 68, 65] [1, 3] sh2 (by kernel_rfl) rfl
        · skip
          refine zbS [] [.str (Lib.itoa e.n)] Tryd.underlying23 Tryd.i9 ?_
          refine zN ?_
          exact SAny.same [0, 1, 2, 3, 4, 6, 12, 13, 15, 5, 66, 71, 72, 67, 68, 69] [1, 3] sh3 (by kernel_rfl) rfl
      refine SAny.share 8 #[true, true, true, true, false, false, true, false, false, false, false, false, false] (⟨[(0, encE e), (1, .lptr 1 0), (2, .list true 9 []), (3, .lptr 3 0), (4, zB false), (6, zB true), (12, zI e.kind), (13, zB (e.kind == 3)), (15, zB (e.kind == 5)), (5, .list false 9 (l5.map AV.str)), (66, .lptr 1 3), (71, .lptr 1 3), (67, zI e.n), (68, .str (Lib.itoa e.n)), (65, .list true 9 (l5.map AV.str))], [(1, [zI e.kind, .str e.id, zI e.sig, zI e.n]), (3, [zI 0, .str [], zI 0, zI 0])], M⟩) ?_ (fun sh7 => ?_)
      · skip
        refine zq [4, 7] ⟨⟨_, rfl, ?_⟩, ⟨_, rfl, ?_⟩, trivial⟩
        · skip
          refine zbS [] [.str (Lib.itoa e.n)] Tryd.underlying23 Tryd.i9 ?_
          refine zN ?_
          exact SAny.same [0, 1, 2, 3, 4, 6, 12, 13, 15, 5, 66, 71, 67, 68, 69, 65] [1, 3] sh4 (by kernel_rfl) rfl
        · skip
          refine zr (zlL (zI e.n) Tryd.underlying3 sizeOf_3) ?_
          refine zN ?_
          exact SAny.same [0, 1, 2, 3, 4, 6, 12, 13, 15, 5, 66, 71, 72, 67, 68, 65] [1, 3] sh2 (by kernel_rfl) rfl
      refine SAny.share 9 #[true, true, false, false, false, false, true, true, false, false, false, false, false] (⟨[(0, encE e), (1, .lptr 1 0), (2, .list true 9 []), (3, .lptr 3 0), (4, zB false), (6, zB true), (12, zI e.kind), (13, zB (e.kind == 3)), (15, zB (e.kind == 5)), (5, .list false 9 (l5.map AV.str)), (66, .lptr 1 3), (71, .lptr 1 3), (72, zI e.n), (65, .list true 9 (l5.map AV.str))], [(1, [zI e.kind, .str e.id, zI e.sig, zI e.n]), (3, [zI 0, .str [], zI 0, zI 0])], M⟩) ?_ (fun sh8 => ?_)
      · skip
        refine zq [2] ⟨⟨_, rfl, ?_⟩, trivial⟩
        · skip
          refine zr (zlL (zI e.n) Tryd.underlying3 sizeOf_3) ?_
          refine zN ?_
          exact SAny.same [0, 1, 2, 3, 4, 6, 12, 13, 15, 5, 66, 71, 72, 67, 65] [1, 3] sh5 (by kernel_rfl) rfl
      refine SAny.share 9 #[false, true, true, false, false, false, true, true, false, false, false, false, false] (⟨[(0, encE e), (1, .lptr 1 0), (2, .list true 9 []), (3, .lptr 3 0), (4, zB false), (6, zB true), (12, zI e.kind), (13, zB (e.kind == 3)), (15, zB (e.kind == 5)), (5, .list true 9 (l5.map AV.str)), (66, .lptr 1 3), (71, .lptr 1 3), (72, zI e.n), (67, zI e.n)], [(1, [zI e.kind, .str e.id, zI e.sig, zI e.n]), (3, [zI 0, .str [], zI 0, zI 0])], M⟩) ?_ (fun sh9 => ?_)
      · skip
        refine zq [0, 3] ⟨⟨_, rfl, ?_⟩, ⟨_, rfl, ?_⟩, trivial⟩
        · skip
          refine zT (v := .list true 9 (l5.map AV.str)) rfl ?_
          refine zN ?_
          exact SAny.same [0, 1, 2, 3, 4, 6, 12, 13, 15, 5, 66, 71, 72, 67, 65] [1, 3] sh5 (by kernel_rfl) rfl
        · skip
          refine zc [zI e.n] Tryd.call44 (itoa_int e.n hn.1 hn.2 M) ?_
          rintro _ _ ⟨rfl, rfl⟩
          refine zN ?_
          exact SAny.same [0, 1, 2, 3, 4, 6, 12, 13, 15, 5, 66, 71, 72, 67, 68] [1, 3] sh6 (by kernel_rfl) rfl
      refine SAny.share 9 #[true, true, true, false, false, false, true, false, false, false, false, false, false] (⟨[(0, encE e), (1, .lptr 1 0), (2, .list true 9 []), (3, .lptr 3 0), (4, zB false), (6, zB true), (12, zI e.kind), (13, zB (e.kind == 3)), (15, zB (e.kind == 5)), (5, .list false 9 (l5.map AV.str)), (66, .lptr 1 3), (71, .lptr 1 3), (67, zI e.n), (65, .list true 9 (l5.map AV.str))], [(1, [zI e.kind, .str e.id, zI e.sig, zI e.n]), (3, [zI 0, .str [], zI 0, zI 0])], M⟩) ?_ (fun sh10 => ?_)
      · skip
        refine zq [3, 7] ⟨⟨_, rfl, ?_⟩, ⟨_, rfl, ?_⟩, trivial⟩
        · skip
          refine zc [zI e.n] Tryd.call44 (itoa_int e.n hn.1 hn.2 M) ?_
          rintro _ _ ⟨rfl, rfl⟩
          refine zN ?_
          exact SAny.same [0, 1, 2, 3, 4, 6, 12, 13, 15, 5, 66, 71, 67, 68, 65] [1, 3] sh7 (by kernel_rfl) rfl
        · skip
          refine zr (zlL (zI e.n) Tryd.underlying3 sizeOf_3) ?_
          refine zN ?_
          exact SAny.same [0, 1, 2, 3, 4, 6, 12, 13, 15, 5, 66, 71, 72, 67, 65] [1, 3] sh5 (by kernel_rfl) rfl
      refine zk 1 rfl (PReader.fieldL rfl ⟨_, _, Tryd.underlying34, rfl, rfl, rfl, sizeOf_3⟩ (by decide) rfl) ?_
      refine zk 6 rfl (PReader.fieldL rfl ⟨_, _, Tryd.underlying34, rfl, rfl, rfl, sizeOf_3⟩ (by decide) rfl) ?_
      refine zq [0, 2, 7] ⟨⟨_, rfl, ?_⟩, ⟨_, rfl, ?_⟩, ⟨_, rfl, ?_⟩, trivial⟩
      · skip
        refine zT (v := .list true 9 (l5.map AV.str)) rfl ?_
        refine zN ?_
        refine zq [2, 7] ⟨⟨_, rfl, ?_⟩, ⟨_, rfl, ?_⟩, trivial⟩
        · skip
          refine zr (zlL (zI e.n) Tryd.underlying3 sizeOf_3) ?_
          refine zN ?_
          exact SAny.same [0, 1, 2, 3, 4, 6, 12, 13, 15, 5, 66, 71, 67, 65] [1, 3] sh10 (by kernel_rfl) rfl
        · skip
          refine zr (zlL (zI e.n) Tryd.underlying3 sizeOf_3) ?_
          refine zN ?_
          exact SAny.same [0, 1, 2, 3, 4, 6, 12, 13, 15, 5, 66, 71, 72, 65] [1, 3] sh8 (by kernel_rfl) rfl
      · skip
        refine zr (zlL (zI e.n) Tryd.underlying3 sizeOf_3) ?_
        refine zN ?_
        refine zq [0, 3, 7] ⟨⟨_, rfl, ?_⟩, ⟨_, rfl, ?_⟩, ⟨_, rfl, ?_⟩, trivial⟩
        · skip
          refine zT (v := .list true 9 (l5.map AV.str)) rfl ?_
          refine zN ?_
          exact SAny.same [0, 1, 2, 3, 4, 6, 12, 13, 15, 5, 66, 71, 67, 65] [1, 3] sh10 (by kernel_rfl) rfl
        · skip
          refine zc [zI e.n] Tryd.call44 (itoa_int e.n hn.1 hn.2 M) ?_
          rintro _ _ ⟨rfl, rfl⟩
          refine zN ?_
          refine zq [0, 4, 7] ⟨⟨_, rfl, ?_⟩, ⟨_, rfl, ?_⟩, ⟨_, rfl, ?_⟩, trivial⟩
          · skip
            refine zT (v := .list true 9 (l5.map AV.str)) rfl ?_
            refine zN ?_
            exact SAny.same [0, 1, 2, 3, 4, 6, 12, 13, 15, 5, 66, 71, 67, 68, 65] [1, 3] sh7 (by kernel_rfl) rfl
          · skip
            refine zbS [] [.str (Lib.itoa e.n)] Tryd.underlying23 Tryd.i9 ?_
            refine zN ?_
            refine zq [0, 7] ⟨⟨_, rfl, ?_⟩, ⟨_, rfl, ?_⟩, trivial⟩
            · skip
              refine zT (v := .list true 9 (l5.map AV.str)) rfl ?_
              refine zN ?_
              exact SAny.same [0, 1, 2, 3, 4, 6, 12, 13, 15, 5, 66, 71, 67, 68, 69, 65] [1, 3] sh4 (by kernel_rfl) rfl
            · skip
              refine zr (zlL (zI e.n) Tryd.underlying3 sizeOf_3) ?_
              refine zN ?_
              exact SAny.same [0, 1, 2, 3, 4, 6, 12, 13, 15, 5, 66, 71, 72, 67, 68, 69] [1, 3] sh3 (by kernel_rfl) rfl
          · skip
            refine zr (zlL (zI e.n) Tryd.underlying3 sizeOf_3) ?_
            refine zN ?_
            exact SAny.same [0, 1, 2, 3, 4, 6, 12, 13, 15, 5, 66, 71, 72, 67, 68] [1, 3] sh6 (by kernel_rfl) rfl
        · skip
          refine zr (zlL (zI e.n) Tryd.underlying3 sizeOf_3) ?_
          refine zN ?_
          exact SAny.same [0, 1, 2, 3, 4, 6, 12, 13, 15, 5, 66, 71, 72, 67] [1, 3] sh9 (by kernel_rfl) rfl
      · skip
        refine zr (zlL (zI e.n) Tryd.underlying3 sizeOf_3) ?_
        refine zN ?_
        refine zq [0, 2] ⟨⟨_, rfl, ?_⟩, ⟨_, rfl, ?_⟩, trivial⟩
        · skip
          refine zT (v := .list true 9 (l5.map AV.str)) rfl ?_
          refine zN ?_
          exact SAny.same [0, 1, 2, 3, 4, 6, 12, 13, 15, 5, 66, 71, 72, 65] [1, 3] sh8 (by kernel_rfl) rfl
        · skip
          refine zr (zlL (zI e.n) Tryd.underlying3 sizeOf_3) ?_
          refine zN ?_
          exact SAny.same [0, 1, 2, 3, 4, 6, 12, 13, 15, 5, 66, 71, 72, 67] [1, 3] sh9 (by kernel_rfl) rfl
    refine AWp.exit ?_
    exact ⟨(l5 ++ [Lib.itoa e.n]), _, _, _, rfl, by first | (simp [flE, presL, roomL, *]; done) | (rcases h5 with ⟨h5, rfl⟩ | ⟨h5, rfl⟩ <;> first | (rcases h5 with h5 | h5 <;> simp [flE, h5]; done) | (simp [flE, h5]; done)) | (rcases (show e.kind = 6 ∨ e.kind = 7 by assumption) with h6 | h6 <;> simp [flE, h6]; done) | (simp_all [flE, presL, roomL]; done), by first | (simp [ok1E, beq_dec, *]; done) | (rcases h5 with ⟨h5 | h5, rfl⟩ | ⟨h5, rfl⟩ <;> simp [ok1E, h5]; done) | (rcases (show e.kind = 6 ∨ e.kind = 7 by assumption) with h6 | h6 <;> simp [ok1E, h6]; done) | (simp_all [ok1E]; done), by first | (simp [restE, *]; done) | (rcases h5 with ⟨h5 | h5, rfl⟩ | ⟨h5, rfl⟩ <;> simp [restE, h5]; done) | (rcases (show e.kind = 6 ∨ e.kind = 7 by assumption) with h6 | h6 <;> simp [restE, h6]; done) | (simp_all [restE]; done), by first | (simp [restE, *]; done) | (rcases h5 with ⟨h5 | h5, rfl⟩ | ⟨h5, rfl⟩ <;> simp [restE, h5]; done) | (rcases (show e.kind = 6 ∨ e.kind = 7 by assumption) with h6 | h6 <;> simp [restE, h6]; done) | (simp_all [restE]; done)⟩
  rintro _ ⟨ls, ok, sg2, n2, rfl, hls, hok, hsg, hn2⟩
  refine AWp.mid [0, 1, 2, 3, 4, 12, 13, 5, 90, 6] [3, 1] (fun s => ∃ (ok2 : Bool) (id2 : List UInt8), s = ⟨[(0, encE e), (1, .lptr 1 0), (2, .list true 9 []), (3, .lptr 3 0), (4, zB false), (12, zI e.kind), (13, zB (e.kind == 3)), (5, .list true 9 (ls.map AV.str)), (90, zB (bif (e.kind != 6) then (bif (e.kind != 7) then (e.kind != 16) else false) else false)), (6, zB ok2)], [(3, [zI 0, .str [], zI 0, zI 0]), (1, [zI e.kind, .str id2, zI sg2, zI n2])], M⟩ ∧ (ok2 = okE e) ∧ (id2 = (restE e).id)) ?_ ?_
  · skip
    refine zj 90 [(0, encE e), (1, .lptr 1 0), (2, .list true 9 []), (3, .lptr 3 0), (4, zB false), (12, zI e.kind), (13, zB (e.kind == 3)), (5, .list true 9 (ls.map AV.str)), (6, zB ok)] [(3, [zI 0, .str [], zI 0, zI 0]), (1, [zI e.kind, .str e.id, zI sg2, zI n2])] M (bif (e.kind != 6) then (bif (e.kind != 7) then (e.kind != 16) else false) else false) ?_ ?_
    · skip
      refine zr (zfL Tryd.underlying34 sizeOf_3) ?_
      refine zr (zlL (zI e.kind) Tryd.underlying3 sizeOf_3) ?_
      refine zr (zi (e.kind != 6)) ?_
      refine zM (zB (e.kind != 6)) ?_
      refine AOps.splitJ (t := 81) (b := e.kind != 6) (x := (bif (e.kind != 7) then (e.kind != 16) else false)) (y := false) rfl (fun h9 => ?_) (fun h9 => ?_)
      · skip
        have h9' : e.kind ≠ 6 := (by have hh := bne_iff_ne.1 h9; omega)
        clear h9
        refine zr (zfL Tryd.underlying34 sizeOf_3) ?_
        refine zr (zlL (zI e.kind) Tryd.underlying3 sizeOf_3) ?_
        refine zr (zi (e.kind != 7)) ?_
        refine zr (zp true (zB (e.kind != 7))) ?_
        refine zM (zB (e.kind != 7)) ?_
        refine AOps.splitJ (t := 86) (b := e.kind != 7) (x := (e.kind != 16)) (y := false) rfl (fun h10 => ?_) (fun h10 => ?_)
        · skip
          have h10' : e.kind ≠ 7 := (by have hh := bne_iff_ne.1 h10; omega)
          clear h10
          refine zr (zfL Tryd.underlying34 sizeOf_3) ?_
          refine zr (zlL (zI e.kind) Tryd.underlying3 sizeOf_3) ?_
          refine zr (zi (e.kind != 16)) ?_
          refine zr (zp true (zB (e.kind != 16))) ?_
          exact AOps.nil rfl
        · skip
          have h10' : ¬ (e.kind ≠ 7) := (by have hh := bne_eq_false_iff_eq.1 h10; omega)
          clear h10
          refine zs ?_
          refine zs ?_
          refine zs ?_
          refine zr (zp false (zB false)) ?_
          exact AOps.nil rfl
      · skip
        have h9' : ¬ (e.kind ≠ 6) := (by have hh := bne_eq_false_iff_eq.1 h9; omega)
        clear h9
        refine zs ?_
        refine zs ?_
        refine zs ?_
        refine zr (zp false (zB false)) ?_
        refine zM (zB false) ?_
        refine zs ?_
        refine zs ?_
        refine zs ?_
        refine zr (zp false (zB false)) ?_
        exact AOps.nil rfl
    refine zC (b := bif (e.kind != 6) then (bif (e.kind != 7) then (e.kind != 16) else false) else false) rfl (fun h11 => ?_) (fun h11 => ?_)
    · skip
      have h11' : Named e.kind := (of_decide_eq_true (named_b.symm.trans h11))
      clear h11
      refine zj 6 [(90, zB (bif (e.kind != 6) then (bif (e.kind != 7) then (e.kind != 16) else false) else false)), (0, encE e), (1, .lptr 1 0), (2, .list true 9 []), (3, .lptr 3 0), (4, zB false), (12, zI e.kind), (13, zB (e.kind == 3)), (5, .list true 9 (ls.map AV.str))] [(3, [zI 0, .str [], zI 0, zI 0]), (1, [zI e.kind, .str e.id, zI sg2, zI n2])] M (bif ok then (wordB e.id) else false) ?_ ?_
      · skip
        refine zM (zB ok) ?_
        refine zM (zB ok) ?_
        refine AOps.splitJ (t := 92) (b := ok) (x := (wordB e.id)) (y := false) rfl (fun h12 => ?_) (fun h12 => ?_)
        · skip
          refine zr (zfL Tryd.underlying34 sizeOf_9) ?_
          refine zr (zlL (.str e.id) Tryd.underlying9 sizeOf_9) ?_
          refine zc [.str e.id] Tryd.call100 (Word_any e.id hid M) ?_
          rintro _ _ ⟨rfl, rfl⟩
          refine zr (zp true (zB (wordB e.id))) ?_
          refine zM (zB (wordB e.id)) ?_
          exact AOps.nil rfl
        · skip
          refine zs ?_
          refine zs ?_
          refine zs ?_
          refine zr (zp false (zB false)) ?_
          refine zM (zB false) ?_
          exact AOps.nil rfl
      refine AWp.region ?_
      refine zr (zfL Tryd.underlying34 sizeOf_9) ?_
      refine zst sizeOf_9 (.str []) ?_
      refine zN ?_
      exact ⟨_, _, rfl, by subst hok; first | (simp [okE, *]; done) | (simp [okE, *]; cases ok1E e <;> simp; done) | (cases ok1E e <;> simp_all [okE]; done), by first | (simp [restE, *]; done) | (rcases h5 with ⟨h5 | h5, rfl⟩ | ⟨h5, rfl⟩ <;> simp [restE, h5]; done) | (rcases (show e.kind = 6 ∨ e.kind = 7 by assumption) with h6 | h6 <;> simp [restE, h6]; done) | (simp_all [restE]; done)⟩
    · skip
      have h11' : ¬ Named e.kind := (of_decide_eq_false (named_b.symm.trans h11))
      clear h11
      refine AWp.skip ?_
      exact ⟨_, _, rfl, by subst hok; first | (simp [okE, *]; done) | (simp [okE, *]; cases ok1E e <;> simp; done) | (cases ok1E e <;> simp_all [okE]; done), by first | (simp [restE, *]; done) | (rcases h5 with ⟨h5 | h5, rfl⟩ | ⟨h5, rfl⟩ <;> simp [restE, h5]; done) | (rcases (show e.kind = 6 ∨ e.kind = 7 by assumption) with h6 | h6 <;> simp [restE, h6]; done) | (simp_all [restE]; done)⟩
  rintro _ ⟨ok2, id2, rfl, hok2, hid2⟩
  refine AWp.seq (AWp.anyR [0, 1, 2, 3, 4, 12, 13, 5, 90, 6] [3, 1] (⟨[(0, encE e), (1, .lptr 1 0), (2, .list true 9 (ls.map AV.str)), (3, .lptr 3 0), (4, zB ok2), (12, zI e.kind), (13, zB (e.kind == 3)), (5, .list false 9 (ls.map AV.str)), (90, zB (bif (e.kind != 6) then (bif (e.kind != 7) then (e.kind != 16) else false) else false)), (6, zB ok2)], [(3, [zI e.kind, .str id2, zI sg2, zI n2]), (1, [zI e.kind, .str id2, zI sg2, zI n2])], M⟩) (by kernel_rfl) ?_ ?_)
  · skip
    skip
    refine SAny.share 2 #[true, true, true, true, false, false] (⟨[(0, encE e), (1, .lptr 1 0), (2, .list true 9 (ls.map AV.str)), (3, .lptr 3 0), (4, zB false), (12, zI e.kind), (13, zB (e.kind == 3)), (5, .list false 9 (ls.map AV.str)), (90, zB (bif (e.kind != 6) then (bif (e.kind != 7) then (e.kind != 16) else false) else false)), (6, zB ok2), (100, zB ok2), (99, .agg [zI e.kind, .str id2, zI sg2, zI n2]), (98, .list false 9 (ls.map AV.str))], [(3, [zI 0, .str [], zI 0, zI 0]), (1, [zI e.kind, .str id2, zI sg2, zI n2])], M⟩) ?_ (fun sh0 => ?_)
    · skip
      refine zq [4] ⟨⟨_, rfl, ?_⟩, trivial⟩
      · skip
        refine zst sizeOf_34 (.agg [zI e.kind, .str id2, zI sg2, zI n2]) ?_
        refine zN ?_
        refine zkm 5 (zB ok2) ?_
        exact SAny.done (by kernel_rfl) rfl
    refine SAny.share 3 #[true, true, true, false, false, false] (⟨[(0, encE e), (1, .lptr 1 0), (2, .list true 9 []), (3, .lptr 3 0), (4, zB false), (12, zI e.kind), (13, zB (e.kind == 3)), (5, .list false 9 (ls.map AV.str)), (90, zB (bif (e.kind != 6) then (bif (e.kind != 7) then (e.kind != 16) else false) else false)), (6, zB ok2), (100, zB ok2), (99, .agg [zI e.kind, .str id2, zI sg2, zI n2]), (98, .list true 9 (ls.map AV.str))], [(3, [zI 0, .str [], zI 0, zI 0]), (1, [zI e.kind, .str id2, zI sg2, zI n2])], M⟩) ?_ (fun sh1 => ?_)
    · skip
      refine zq [3] ⟨⟨_, rfl, ?_⟩, trivial⟩
      · skip
        refine zT (v := .list true 9 (ls.map AV.str)) rfl ?_
        refine zN ?_
        exact SAny.same [0, 1, 2, 3, 4, 12, 13, 5, 90, 6, 100, 99, 98] [3, 1] sh0 (by kernel_rfl) rfl
    refine zkm 2 (zB ok2) ?_
    refine zq [0, 1] ⟨⟨_, rfl, ?_⟩, ⟨_, rfl, ?_⟩, trivial⟩
    · skip
      refine zT (v := .list true 9 (ls.map AV.str)) rfl ?_
      refine zN ?_
      refine zq [1, 3] ⟨⟨_, rfl, ?_⟩, ⟨_, rfl, ?_⟩, trivial⟩
      · skip
        refine zr (zlL (.agg [zI e.kind, .str id2, zI sg2, zI n2]) Tryd.underlying34 sizeOf_34) ?_
        refine zN ?_
        exact SAny.same [0, 1, 2, 3, 4, 12, 13, 5, 90, 6, 100, 99, 98] [3, 1] sh1 (by kernel_rfl) rfl
      · skip
        refine zT (v := .list true 9 (ls.map AV.str)) rfl ?_
        refine zN ?_
        refine zq [1] ⟨⟨_, rfl, ?_⟩, trivial⟩
        · skip
          refine zr (zlL (.agg [zI e.kind, .str id2, zI sg2, zI n2]) Tryd.underlying34 sizeOf_34) ?_
          refine zN ?_
          exact SAny.same [0, 1, 2, 3, 4, 12, 13, 5, 90, 6, 100, 99, 98] [3, 1] sh0 (by kernel_rfl) rfl
    · skip
      refine zr (zlL (.agg [zI e.kind, .str id2, zI sg2, zI n2]) Tryd.underlying34 sizeOf_34) ?_
      refine zN ?_
      refine zq [0] ⟨⟨_, rfl, ?_⟩, trivial⟩
      · skip
        refine zT (v := .list true 9 (ls.map AV.str)) rfl ?_
        refine zN ?_
        exact SAny.same [0, 1, 2, 3, 4, 12, 13, 5, 90, 6, 100, 99, 98] [3, 1] sh1 (by kernel_rfl) rfl
  refine AWp.ret ?_
  exact ⟨.inl rfl, _, ResOf.tmpCellTmp 2 (.list true 9 (ls.map AV.str)) rfl (.inr ⟨_, _, rfl⟩) 3 3 0 4 34 _ _ (.agg [zI e.kind, .str id2, zI sg2, zI n2]) rfl rfl Tryd.underlying34 sizeOf_34 rfl (Eq.refl true) 4 (zB ok2) rfl rfl (by decide), ⟨by rw [hls, hok2, hid2, hsg, hn2]; rfl, rfl⟩⟩

end Go.Proofs.YtlpihekflkjkfaaDoor
