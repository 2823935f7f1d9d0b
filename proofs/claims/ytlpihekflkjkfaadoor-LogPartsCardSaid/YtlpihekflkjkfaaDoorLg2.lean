/- Walks over abstract values, printed by my program av.py. -/
import Derived.Test.YtlpihekflkjkfaaDoorLg1
namespace Go.Proofs.YtlpihekflkjkfaaDoor
open Go.RowKit

theorem beq_dec (a b : Int) : (a == b) = decide (a = b) := by rw [Bool.eq_iff_iff]; simp
theorem named_b {k : Int} : (bif k != 6 then (bif k != 7 then k != 16 else false) else false) = decide (Named k) := by
  unfold Named
  by_cases h6 : k = 6
  · subst h6; simp
  · by_cases h7 : k = 7
    · subst h7; simp
    · by_cases h16 : k = 16
      · subst h16; simp
      · rw [bne_iff_ne.2 h6, bne_iff_ne.2 h7, bne_iff_ne.2 h16]
        exact (decide_eq_true ⟨h6, h7, h16⟩).symm

set_option maxRecDepth 20000 in
theorem fields_any (e : Ev) (h1 : 1 ≤ e.kind) (h2 : e.kind ≤ 16) (hid : e.id.length ≤ 4294967280) (hn : -9223372036854775808 ≤ e.n ∧ e.n ≤ 9223372036854775807) (M : Nat → Option (List AV)) : ACall Tryd.prog 79 [encE e] M (fun r M' => r = .tuple [.list true 9 ((flE e).map AV.str), encE (restE e), .lit (.bool (okE e))] ∧ M = M') := by
  refine ACall.of Tryd.func79 rfl (n := 101) rfl rfl rfl ?_
  refine AWp.seq (AWp.region ?_)
  refine AOps.box trivial rfl (by decide) rfl (noL rfl) rfl (v := encE e) (.inl ⟨rfl, rfl⟩) rfl rfl (all_flat rfl) ?_
  refine AOps.nilList 9 trivial rfl (by decide) (.inl rfl) ?_
  refine AOps.alloc (Es := []) trivial rfl (by decide) rfl (noL rfl) rfl zero_34 rfl (cells := [.lit (.int .i64 0), .str [], .lit (.int .i64 0), .lit (.int .i64 0)]) rfl (all_scalar rfl) (all_flat rfl) ?_
  refine AOps.read trivial rfl (by decide) (Reader.move (.inr rfl) (ok_const rfl) (v := .lit (.bool false)) rfl) ?_
  refine AOps.nil ?_
  refine AWp.seq (AWp.region ?_)
  refine AOps.nilList 9 trivial rfl (by decide) (.inl rfl) ?_
  refine AOps.nil ?_
  refine AWp.seq (AWp.region ?_)
  refine AOps.read trivial rfl (by decide) (Reader.move (.inr rfl) (ok_const rfl) (v := .lit (.bool true)) rfl) ?_
  refine AOps.nil ?_
  refine AWp.mid [0, 1, 2, 3, 4, 12, 13, 5, 6] [3, 1] (fun s => ∃ (ls : List (List UInt8)) (ok : Bool) (sg2 : Int) (n2 : Int), s = ⟨[(0, encE e), (1, .lptr 1 0), (2, .list true 9 []), (3, .lptr 3 0), (4, .lit (.bool false)), (12, .lit (.int .i64 e.kind)), (13, .lit (.bool (e.kind == 3))), (5, .list true 9 (ls.map AV.str)), (6, .lit (.bool ok))], [(3, [.lit (.int .i64 0), .str [], .lit (.int .i64 0), .lit (.int .i64 0)]), (1, [.lit (.int .i64 e.kind), .str e.id, .lit (.int .i64 sg2), .lit (.int .i64 n2)])], M⟩ ∧ (ls = flE e) ∧ (ok = ok1E e) ∧ (sg2 = (restE e).sig) ∧ (n2 = (restE e).n)) ?_ ?_
  · skip
    refine AWp.seq (AWp.region ?_)
    refine AOps.read trivial rfl (by decide) (Reader.fieldL rfl ⟨_, _, Tryd.underlying34, rfl, rfl, rfl, sizeOf_3⟩ (by decide) rfl) ?_
    refine AOps.read trivial rfl (by decide) (Reader.loadL rfl Tryd.underlying3 sizeOf_3 rfl rfl (v := .lit (.int .i64 e.kind)) rfl rfl) ?_
    refine AOps.nil ?_
    refine AWp.block ?_
    refine AWp.seq ?_
    refine AWp.block ?_
    refine AWp.mid [0, 1, 2, 3, 4, 6, 12, 13, 15, 5] [1, 3] (fun s => ∃ (l5 : List (List UInt8)), s = ⟨[(0, encE e), (1, .lptr 1 0), (2, .list true 9 []), (3, .lptr 3 0), (4, .lit (.bool false)), (6, .lit (.bool true)), (12, .lit (.int .i64 e.kind)), (13, .lit (.bool (e.kind == 3))), (15, .lit (.bool (e.kind == 5))), (5, .list true 9 (l5.map AV.str))], [(1, [.lit (.int .i64 e.kind), .str e.id, .lit (.int .i64 e.sig), .lit (.int .i64 e.n)]), (3, [.lit (.int .i64 0), .str [], .lit (.int .i64 0), .lit (.int .i64 0)])], M⟩ ∧ (((e.kind = 9 ∨ e.kind = 14) ∧ l5 = [e.id]) ∨ (e.kind = 16 ∧ l5 = []))) ?_ ?_
    · skip
      refine AWp.block ?_
      refine AWp.seq ?_
      refine AWp.block ?_
      refine AWp.seq ?_
      refine AWp.block ?_
      refine AWp.seq ?_
      refine AWp.block ?_
      refine AWp.seq ?_
      refine AWp.block ?_
      refine AWp.seq ?_
      refine AWp.seq ?_
      refine AWp.seq (AWp.region ?_)
      refine AOps.read trivial rfl (by decide) (Reader.int rfl rfl rfl (r := .bool (e.kind == 3)) rfl) ?_
      refine AOps.read trivial rfl (by decide) (Reader.move (.inr rfl) (ok_const rfl) (v := .lit (.bool (e.kind == 3))) rfl) ?_
      refine AOps.nil ?_
      refine AWp.cond (b := e.kind == 3) rfl (fun h1 => ?_) (fun h1 => ?_)
      · skip
        have h1' : e.kind = 3 := (by have hh := eq_of_beq h1; omega)
        clear h1
        refine AWp.exit ?_
        refine AWp.seq ?_
        refine AWp.seq (AWp.region ?_)
        refine AOps.read trivial rfl (by decide) (Reader.fieldL rfl ⟨_, _, Tryd.underlying34, rfl, rfl, rfl, sizeOf_9⟩ (by decide) rfl) ?_
        refine AOps.read trivial rfl (by decide) (Reader.loadL rfl Tryd.underlying9 sizeOf_9 rfl rfl (v := .str e.id) rfl rfl) ?_
        refine AOps.buildSlice (ys := [(0, .str e.id), (1, .str [114, 111, 111, 109])]) (Es := []) (cs := [.str e.id, .str [114, 111, 111, 109]]) (xs := [.str e.id, .str [114, 111, 111, 109]]) trivial rfl (by decide) rfl Tryd.underlying23 Tryd.i9 rfl rfl rfl (by decide) (by refine ⟨rfl, fun j p x hp hx => ?_⟩; match j, hp, hx with | 0, hp, hx => cases hp; cases hx; exact ⟨rfl, .inl ⟨rfl, rfl⟩, rfl, rfl⟩ | 1, hp, hx => cases hp; cases hx; exact ⟨rfl, .inl ⟨rfl, rfl⟩, rfl, rfl⟩ | _ + 2, hp, hx => cases hp) rfl rfl rfl (all_len rfl) (all_sc rfl) rfl ?_
        refine AOps.steal trivial rfl (by decide) (by decide) (.inr rfl) (v := .list true 9 [.str e.id, .str [114, 111, 111, 109]]) rfl ?_
        refine AOps.nil ?_
        refine AWp.seq ?_
        refine AWp.seq (AWp.region ?_)
        refine AOps.read trivial rfl (by decide) (Reader.fieldL rfl ⟨_, _, Tryd.underlying34, rfl, rfl, rfl, sizeOf_3⟩ (by decide) rfl) ?_
        refine AOps.read trivial rfl (by decide) (Reader.loadL rfl Tryd.underlying3 sizeOf_3 rfl rfl (v := .lit (.int .i64 e.n)) rfl rfl) ?_
        refine AOps.read trivial rfl (by decide) (Reader.int rfl rfl rfl (r := .bool (e.n == 3)) rfl) ?_
        refine AOps.nil ?_
        refine AWp.cond (b := e.n == 3) rfl (fun h2 => ?_) (fun h2 => ?_)
        · skip
          have h2' : e.n = 3 := (by have hh := eq_of_beq h2; omega)
          clear h2
          refine AWp.seq (AWp.region ?_)
          refine AOps.read trivial rfl (by decide) (Reader.fieldL rfl ⟨_, _, Tryd.underlying34, rfl, rfl, rfl, sizeOf_3⟩ (by decide) rfl) ?_
          refine AOps.read trivial rfl (by decide) (Reader.loadL rfl Tryd.underlying3 sizeOf_3 rfl rfl (v := .lit (.int .i64 e.sig)) rfl rfl) ?_
          refine AOps.call (args := [.lit (.int .i64 e.sig)]) trivial rfl (by decide) rfl rfl Tryd.call98 (args_ok rfl) rfl (by intro j x v hx hv; match j, hx, hv with | 0, hx, hv => cases hx; cases hv; exact .inl ⟨rfl, rfl⟩ | _ + 1, hx, hv => cases hx) (lsig_any e.sig M) ?_
          rintro _ _ ⟨rfl, rfl⟩
          refine AOps.read trivial rfl (by decide) (Reader.move (.inl rfl) (ok_const rfl) (v := .tuple [.str (sgw e.sig), .lit (.bool (inS e.sig))]) rfl) ?_
          refine AOps.read trivial rfl (by decide) (Reader.extract (v := .str (sgw e.sig)) rfl rfl rfl rfl) ?_
          refine AOps.read trivial rfl (by decide) (Reader.extract (v := .lit (.bool (inS e.sig))) rfl rfl rfl rfl) ?_
          refine AOps.read trivial rfl (by decide) (Reader.move (.inr rfl) (ok_const rfl) (v := .str (sgw e.sig)) rfl) ?_
          refine AOps.read trivial rfl (by decide) (Reader.move (.inr rfl) (ok_const rfl) (v := .lit (.bool (inS e.sig))) rfl) ?_
          refine AOps.nil ?_
          refine AWp.region ?_
          refine AOps.read trivial rfl (by decide) (Reader.fieldL rfl ⟨_, _, Tryd.underlying34, rfl, rfl, rfl, sizeOf_9⟩ (by decide) rfl) ?_
          refine AOps.read trivial rfl (by decide) (Reader.loadL rfl Tryd.underlying9 sizeOf_9 rfl rfl (v := .str e.id) rfl rfl) ?_
          refine AOps.read trivial rfl (by decide) (Reader.move (.inl rfl) (ok_const rfl) (v := .str (sgw e.sig)) rfl) ?_
          refine AOps.buildSlice (ys := [(0, .str e.id), (1, .str [112, 114, 101, 115, 115, 117, 114, 101]), (2, .str (sgw e.sig))]) (Es := []) (cs := [.str e.id, .str [112, 114, 101, 115, 115, 117, 114, 101], .str (sgw e.sig)]) (xs := [.str e.id, .str [112, 114, 101, 115, 115, 117, 114, 101], .str (sgw e.sig)]) trivial rfl (by decide) rfl Tryd.underlying23 Tryd.i9 rfl rfl rfl (by decide) (by refine ⟨rfl, fun j p x hp hx => ?_⟩; match j, hp, hx with | 0, hp, hx => cases hp; cases hx; exact ⟨rfl, .inl ⟨rfl, rfl⟩, rfl, rfl⟩ | 1, hp, hx => cases hp; cases hx; exact ⟨rfl, .inl ⟨rfl, rfl⟩, rfl, rfl⟩ | 2, hp, hx => cases hp; cases hx; exact ⟨rfl, .inl ⟨rfl, rfl⟩, rfl, rfl⟩ | _ + 3, hp, hx => cases hp) rfl rfl rfl (all_len rfl) (all_sc rfl) rfl ?_
          refine AOps.read trivial rfl (by decide) (Reader.move (.inl rfl) (ok_const rfl) (v := .lit (.bool (inS e.sig))) rfl) ?_
          refine AOps.steal trivial rfl (by decide) (by decide) (.inr rfl) (v := .list true 9 [.str e.id, .str [112, 114, 101, 115, 115, 117, 114, 101], .str (sgw e.sig)]) rfl ?_
          refine AOps.read trivial rfl (by decide) (Reader.move (.inr rfl) (ok_const rfl) (v := .lit (.bool (inS e.sig))) rfl) ?_
          refine AOps.read trivial rfl (by decide) (Reader.fieldL rfl ⟨_, _, Tryd.underlying34, rfl, rfl, rfl, sizeOf_3⟩ (by decide) rfl) ?_
          refine AOps.storeL trivial rfl rfl rfl rfl sizeOf_3 (.inl ⟨rfl, rfl⟩) rfl (v := .lit (.int .i64 0)) rfl (all_flat rfl) rfl (Nat.le_of_ble_eq_true rfl) ?_
          refine AOps.nil ?_
          refine AWp.region ?_
          refine AOps.read trivial rfl (by decide) (Reader.fieldL rfl ⟨_, _, Tryd.underlying34, rfl, rfl, rfl, sizeOf_3⟩ (by decide) rfl) ?_
          refine AOps.storeL trivial rfl rfl rfl rfl sizeOf_3 (.inl ⟨rfl, rfl⟩) rfl (v := .lit (.int .i64 0)) rfl (all_flat rfl) rfl (Nat.le_of_ble_eq_true rfl) ?_
          refine AOps.nil ?_
          refine AWp.exit ?_
          exact ⟨[e.id, [112, 114, 101, 115, 115, 117, 114, 101], sgw e.sig], _, _, _, rfl, by first | (simp [flE, presL, roomL, *]; done) | (rcases h5 with ⟨h5, rfl⟩ | ⟨h5, rfl⟩ <;> first | (rcases h5 with h5 | h5 <;> simp [flE, h5]; done) | (simp [flE, h5]; done)) | (rcases (show e.kind = 6 ∨ e.kind = 7 by assumption) with h6 | h6 <;> simp [flE, h6]; done) | (simp_all [flE, presL, roomL]; done), by first | (simp [ok1E, beq_dec, *]; done) | (rcases h5 with ⟨h5 | h5, rfl⟩ | ⟨h5, rfl⟩ <;> simp [ok1E, h5]; done) | (rcases (show e.kind = 6 ∨ e.kind = 7 by assumption) with h6 | h6 <;> simp [ok1E, h6]; done) | (simp_all [ok1E]; done), by first | (simp [restE, *]; done) | (rcases h5 with ⟨h5 | h5, rfl⟩ | ⟨h5, rfl⟩ <;> simp [restE, h5]; done) | (rcases (show e.kind = 6 ∨ e.kind = 7 by assumption) with h6 | h6 <;> simp [restE, h6]; done) | (simp_all [restE]; done), by first | (simp [restE, *]; done) | (rcases h5 with ⟨h5 | h5, rfl⟩ | ⟨h5, rfl⟩ <;> simp [restE, h5]; done) | (rcases (show e.kind = 6 ∨ e.kind = 7 by assumption) with h6 | h6 <;> simp [restE, h6]; done) | (simp_all [restE]; done)⟩
        · skip
          have h2' : ¬ (e.n = 3) := (by have hh := beq_eq_false_iff_ne.1 h2; omega)
          clear h2
          refine AWp.region ?_
          refine AOps.read trivial rfl (by decide) (Reader.fieldL rfl ⟨_, _, Tryd.underlying34, rfl, rfl, rfl, sizeOf_3⟩ (by decide) rfl) ?_
          refine AOps.read trivial rfl (by decide) (Reader.loadL rfl Tryd.underlying3 sizeOf_3 rfl rfl (v := .lit (.int .i64 e.n)) rfl rfl) ?_
          refine AOps.read trivial rfl (by decide) (Reader.int rfl rfl rfl (r := .bool (e.n == 4)) rfl) ?_
          refine AOps.read trivial rfl (by decide) (Reader.move (.inr rfl) (ok_const rfl) (v := .lit (.bool (e.n == 4))) rfl) ?_
          refine AOps.nil ?_
          refine AWp.region ?_
          refine AOps.read trivial rfl (by decide) (Reader.fieldL rfl ⟨_, _, Tryd.underlying34, rfl, rfl, rfl, sizeOf_3⟩ (by decide) rfl) ?_
          refine AOps.storeL trivial rfl rfl rfl rfl sizeOf_3 (.inl ⟨rfl, rfl⟩) rfl (v := .lit (.int .i64 0)) rfl (all_flat rfl) rfl (Nat.le_of_ble_eq_true rfl) ?_
          refine AOps.nil ?_
          refine AWp.exit ?_
          exact ⟨[e.id, [114, 111, 111, 109]], _, _, _, rfl, by first | (simp [flE, presL, roomL, *]; done) | (rcases h5 with ⟨h5, rfl⟩ | ⟨h5, rfl⟩ <;> first | (rcases h5 with h5 | h5 <;> simp [flE, h5]; done) | (simp [flE, h5]; done)) | (rcases (show e.kind = 6 ∨ e.kind = 7 by assumption) with h6 | h6 <;> simp [flE, h6]; done) | (simp_all [flE, presL, roomL]; done), by first | (simp [ok1E, beq_dec, *]; done) | (rcases h5 with ⟨h5 | h5, rfl⟩ | ⟨h5, rfl⟩ <;> simp [ok1E, h5]; done) | (rcases (show e.kind = 6 ∨ e.kind = 7 by assumption) with h6 | h6 <;> simp [ok1E, h6]; done) | (simp_all [ok1E]; done), by first | (simp [restE, *]; done) | (rcases h5 with ⟨h5 | h5, rfl⟩ | ⟨h5, rfl⟩ <;> simp [restE, h5]; done) | (rcases (show e.kind = 6 ∨ e.kind = 7 by assumption) with h6 | h6 <;> simp [restE, h6]; done) | (simp_all [restE]; done), by first | (simp [restE, *]; done) | (rcases h5 with ⟨h5 | h5, rfl⟩ | ⟨h5, rfl⟩ <;> simp [restE, h5]; done) | (rcases (show e.kind = 6 ∨ e.kind = 7 by assumption) with h6 | h6 <;> simp [restE, h6]; done) | (simp_all [restE]; done)⟩
      · skip
        have h1' : ¬ (e.kind = 3) := (by have hh := beq_eq_false_iff_ne.1 h1; omega)
        clear h1
        refine AWp.skip ?_
        refine AWp.seq ?_
        refine AWp.seq (AWp.region ?_)
        refine AOps.read trivial rfl (by decide) (Reader.int rfl rfl rfl (r := .bool (e.kind == 5)) rfl) ?_
        refine AOps.read trivial rfl (by decide) (Reader.move (.inr rfl) (ok_const rfl) (v := .lit (.bool (e.kind == 5))) rfl) ?_
        refine AOps.nil ?_
        refine AWp.cond (b := e.kind == 5) rfl (fun h3 => ?_) (fun h3 => ?_)
        · skip
          have h3' : e.kind = 5 := (by have hh := eq_of_beq h3; omega)
          clear h3
          refine AWp.exit ?_
          refine AWp.region ?_
          refine AOps.read trivial rfl (by decide) (Reader.fieldL rfl ⟨_, _, Tryd.underlying34, rfl, rfl, rfl, sizeOf_9⟩ (by decide) rfl) ?_
          refine AOps.read trivial rfl (by decide) (Reader.loadL rfl Tryd.underlying9 sizeOf_9 rfl rfl (v := .str e.id) rfl rfl) ?_
          refine AOps.buildSlice (ys := [(0, .str e.id)]) (Es := []) (cs := [.str e.id]) (xs := [.str e.id]) trivial rfl (by decide) rfl Tryd.underlying23 Tryd.i9 rfl rfl rfl (by decide) (by refine ⟨rfl, fun j p x hp hx => ?_⟩; match j, hp, hx with | 0, hp, hx => cases hp; cases hx; exact ⟨rfl, .inl ⟨rfl, rfl⟩, rfl, rfl⟩ | _ + 1, hp, hx => cases hp) rfl rfl rfl (all_len rfl) (all_sc rfl) rfl ?_
          refine AOps.steal trivial rfl (by decide) (by decide) (.inr rfl) (v := .list true 9 [.str e.id]) rfl ?_
          refine AOps.nil ?_
          refine AWp.seq ?_
          refine AWp.seq (AWp.region ?_)
          refine AOps.read trivial rfl (by decide) (Reader.fieldL rfl ⟨_, _, Tryd.underlying34, rfl, rfl, rfl, sizeOf_3⟩ (by decide) rfl) ?_
          refine AOps.read trivial rfl (by decide) (Reader.loadL rfl Tryd.underlying3 sizeOf_3 rfl rfl (v := .lit (.int .i64 e.sig)) rfl rfl) ?_
          refine AOps.call (args := [.lit (.int .i64 e.sig)]) trivial rfl (by decide) rfl rfl Tryd.call98 (args_ok rfl) rfl (by intro j x v hx hv; match j, hx, hv with | 0, hx, hv => cases hx; cases hv; exact .inl ⟨rfl, rfl⟩ | _ + 1, hx, hv => cases hx) (lsig_any e.sig M) ?_
          rintro _ _ ⟨rfl, rfl⟩
          refine AOps.read trivial rfl (by decide) (Reader.move (.inl rfl) (ok_const rfl) (v := .tuple [.str (sgw e.sig), .lit (.bool (inS e.sig))]) rfl) ?_
          refine AOps.read trivial rfl (by decide) (Reader.extract (v := .str (sgw e.sig)) rfl rfl rfl rfl) ?_
          refine AOps.read trivial rfl (by decide) (Reader.extract (v := .lit (.bool (inS e.sig))) rfl rfl rfl rfl) ?_
          refine AOps.read trivial rfl (by decide) (Reader.move (.inr rfl) (ok_const rfl) (v := .str (sgw e.sig)) rfl) ?_
          refine AOps.read trivial rfl (by decide) (Reader.move (.inr rfl) (ok_const rfl) (v := .lit (.bool (inS e.sig))) rfl) ?_
          refine AOps.nil ?_
          refine AWp.region ?_
          refine AOps.steal trivial rfl (by decide) (by decide) (.inl rfl) (v := .list true 9 [.str e.id]) rfl ?_
          refine AOps.read trivial rfl (by decide) (Reader.move (.inl rfl) (ok_const rfl) (v := .str (sgw e.sig)) rfl) ?_
          refine AOps.buildSlice (ys := [(0, .str (sgw e.sig))]) (Es := []) (cs := [.str (sgw e.sig)]) (xs := [.str (sgw e.sig)]) trivial rfl (by decide) rfl Tryd.underlying23 Tryd.i9 rfl rfl rfl (by decide) (by refine ⟨rfl, fun j p x hp hx => ?_⟩; match j, hp, hx with | 0, hp, hx => cases hp; cases hx; exact ⟨rfl, .inl ⟨rfl, rfl⟩, rfl, rfl⟩ | _ + 1, hp, hx => cases hp) rfl rfl rfl (all_len rfl) (all_sc rfl) rfl ?_
          refine AOps.appL (bytes := 16) trivial rfl (by decide) (by decide) rfl rfl rfl rfl Tryd.underlying23 Tryd.underlying23 Tryd.i9 rfl rfl rfl rfl (xs := [.str e.id]) (ys := [.str (sgw e.sig)]) (zs := (([e.id] ++ [sgw e.sig]).map AV.str)) rfl rfl (m1 := 1) (m2 := 1) rfl rfl (by first | omega | (unfold maxLen; omega)) (by omega) (by simp) ?_
          refine AOps.read trivial rfl (by decide) (Reader.move (.inl rfl) (ok_const rfl) (v := .lit (.bool (inS e.sig))) rfl) ?_
          refine AOps.steal trivial rfl (by decide) (by decide) (.inr rfl) (v := .list true 9 (([e.id] ++ [sgw e.sig]).map AV.str)) rfl ?_
          refine AOps.read trivial rfl (by decide) (Reader.move (.inr rfl) (ok_const rfl) (v := .lit (.bool (inS e.sig))) rfl) ?_
          refine AOps.read trivial rfl (by decide) (Reader.fieldL rfl ⟨_, _, Tryd.underlying34, rfl, rfl, rfl, sizeOf_3⟩ (by decide) rfl) ?_
          refine AOps.storeL trivial rfl rfl rfl rfl sizeOf_3 (.inl ⟨rfl, rfl⟩) rfl (v := .lit (.int .i64 0)) rfl (all_flat rfl) rfl (Nat.le_of_ble_eq_true rfl) ?_
          refine AOps.nil ?_
          refine AWp.exit ?_
          exact ⟨([e.id] ++ [sgw e.sig]), _, _, _, rfl, by first | (simp [flE, presL, roomL, *]; done) | (rcases h5 with ⟨h5, rfl⟩ | ⟨h5, rfl⟩ <;> first | (rcases h5 with h5 | h5 <;> simp [flE, h5]; done) | (simp [flE, h5]; done)) | (rcases (show e.kind = 6 ∨ e.kind = 7 by assumption) with h6 | h6 <;> simp [flE, h6]; done) | (simp_all [flE, presL, roomL]; done), by first | (simp [ok1E, beq_dec, *]; done) | (rcases h5 with ⟨h5 | h5, rfl⟩ | ⟨h5, rfl⟩ <;> simp [ok1E, h5]; done) | (rcases (show e.kind = 6 ∨ e.kind = 7 by assumption) with h6 | h6 <;> simp [ok1E, h6]; done) | (simp_all [ok1E]; done), by first | (simp [restE, *]; done) | (rcases h5 with ⟨h5 | h5, rfl⟩ | ⟨h5, rfl⟩ <;> simp [restE, h5]; done) | (rcases (show e.kind = 6 ∨ e.kind = 7 by assumption) with h6 | h6 <;> simp [restE, h6]; done) | (simp_all [restE]; done), by first | (simp [restE, *]; done) | (rcases h5 with ⟨h5 | h5, rfl⟩ | ⟨h5, rfl⟩ <;> simp [restE, h5]; done) | (rcases (show e.kind = 6 ∨ e.kind = 7 by assumption) with h6 | h6 <;> simp [restE, h6]; done) | (simp_all [restE]; done)⟩
        · skip
          have h3' : ¬ (e.kind = 5) := (by have hh := beq_eq_false_iff_ne.1 h3; omega)
          clear h3
          refine AWp.skip ?_
          refine AWp.seq ?_
          refine AWp.mid [0, 1, 2, 3, 4, 5, 6, 12, 13, 15, 17] [1, 3] (fun s => ∃ (z17 : Bool), s = ⟨[(0, encE e), (1, .lptr 1 0), (2, .list true 9 []), (3, .lptr 3 0), (4, .lit (.bool false)), (5, .list true 9 []), (6, .lit (.bool true)), (12, .lit (.int .i64 e.kind)), (13, .lit (.bool (e.kind == 3))), (15, .lit (.bool (e.kind == 5))), (17, .lit (.bool z17))], [(1, [.lit (.int .i64 e.kind), .str e.id, .lit (.int .i64 e.sig), .lit (.int .i64 e.n)]), (3, [.lit (.int .i64 0), .str [], .lit (.int .i64 0), .lit (.int .i64 0)])], M⟩ ∧ (z17 = decide (e.kind = 6 ∨ e.kind = 7))) ?_ ?_
          · skip
            refine AWp.seq (AWp.region ?_)
            refine AOps.read trivial rfl (by decide) (Reader.int rfl rfl rfl (r := .bool (e.kind == 6)) rfl) ?_
            refine AOps.read trivial rfl (by decide) (Reader.move (.inr rfl) (ok_const rfl) (v := .lit (.bool (e.kind == 6))) rfl) ?_
            refine AOps.nil ?_
            refine AWp.cond (b := e.kind == 6) rfl (fun h4 => ?_) (fun h4 => ?_)
            · skip
              have h4' : e.kind = 6 := (by have hh := eq_of_beq h4; omega)
              clear h4
              refine AWp.skip ?_
              exact ⟨_, rfl, by simp [beq_dec, *]⟩
            · skip
              have h4' : ¬ (e.kind = 6) := (by have hh := beq_eq_false_iff_ne.1 h4; omega)
              clear h4
              refine AWp.region ?_
              refine AOps.read trivial rfl (by decide) (Reader.int rfl rfl rfl (r := .bool (e.kind == 7)) rfl) ?_
              refine AOps.read trivial rfl (by decide) (Reader.move (.inr rfl) (ok_const rfl) (v := .lit (.bool (e.kind == 7))) rfl) ?_
              refine AOps.nil ?_
              exact ⟨_, rfl, by simp [beq_dec, *]⟩
          rintro _ ⟨z17, rfl, hz17⟩
          refine AWp.cond (b := z17) rfl (fun h5 => ?_) (fun h5 => ?_)
          · skip
            have h5' : e.kind = 6 ∨ e.kind = 7 := (of_decide_eq_true (hz17.symm.trans h5))
            clear h5
            refine AWp.exit ?_
            refine AWp.seq ?_
            refine AWp.seq (AWp.region ?_)
            refine AOps.read trivial rfl (by decide) (Reader.fieldL rfl ⟨_, _, Tryd.underlying34, rfl, rfl, rfl, sizeOf_3⟩ (by decide) rfl) ?_
            refine AOps.read trivial rfl (by decide) (Reader.loadL rfl Tryd.underlying3 sizeOf_3 rfl rfl (v := .lit (.int .i64 e.sig)) rfl rfl) ?_
            refine AOps.call (args := [.lit (.int .i64 e.sig)]) trivial rfl (by decide) rfl rfl Tryd.call98 (args_ok rfl) rfl (by intro j x v hx hv; match j, hx, hv with | 0, hx, hv => cases hx; cases hv; exact .inl ⟨rfl, rfl⟩ | _ + 1, hx, hv => cases hx) (lsig_any e.sig M) ?_
            rintro _ _ ⟨rfl, rfl⟩
            refine AOps.read trivial rfl (by decide) (Reader.move (.inl rfl) (ok_const rfl) (v := .tuple [.str (sgw e.sig), .lit (.bool (inS e.sig))]) rfl) ?_
            refine AOps.read trivial rfl (by decide) (Reader.extract (v := .str (sgw e.sig)) rfl rfl rfl rfl) ?_
            refine AOps.read trivial rfl (by decide) (Reader.extract (v := .lit (.bool (inS e.sig))) rfl rfl rfl rfl) ?_
            refine AOps.read trivial rfl (by decide) (Reader.move (.inr rfl) (ok_const rfl) (v := .str (sgw e.sig)) rfl) ?_
            refine AOps.read trivial rfl (by decide) (Reader.move (.inr rfl) (ok_const rfl) (v := .lit (.bool (inS e.sig))) rfl) ?_
            refine AOps.nil ?_
            refine AWp.region ?_
            refine AOps.steal trivial rfl (by decide) (by decide) (.inl rfl) (v := .list true 9 []) rfl ?_
            refine AOps.read trivial rfl (by decide) (Reader.move (.inl rfl) (ok_const rfl) (v := .str (sgw e.sig)) rfl) ?_
            refine AOps.buildSlice (ys := [(0, .str (sgw e.sig))]) (Es := []) (cs := [.str (sgw e.sig)]) (xs := [.str (sgw e.sig)]) trivial rfl (by decide) rfl Tryd.underlying23 Tryd.i9 rfl rfl rfl (by decide) (by refine ⟨rfl, fun j p x hp hx => ?_⟩; match j, hp, hx with | 0, hp, hx => cases hp; cases hx; exact ⟨rfl, .inl ⟨rfl, rfl⟩, rfl, rfl⟩ | _ + 1, hp, hx => cases hp) rfl rfl rfl (all_len rfl) (all_sc rfl) rfl ?_
            refine AOps.appL (bytes := 16) trivial rfl (by decide) (by decide) rfl rfl rfl rfl Tryd.underlying23 Tryd.underlying23 Tryd.i9 rfl rfl rfl rfl (xs := []) (ys := [.str (sgw e.sig)]) (zs := (([] ++ [sgw e.sig]).map AV.str)) rfl rfl (m1 := 0) (m2 := 1) rfl rfl (by first | omega | (unfold maxLen; omega)) (by omega) (by simp) ?_
            refine AOps.read trivial rfl (by decide) (Reader.move (.inl rfl) (ok_const rfl) (v := .lit (.bool (inS e.sig))) rfl) ?_
            refine AOps.steal trivial rfl (by decide) (by decide) (.inr rfl) (v := .list true 9 (([] ++ [sgw e.sig]).map AV.str)) rfl ?_
            refine AOps.read trivial rfl (by decide) (Reader.move (.inr rfl) (ok_const rfl) (v := .lit (.bool (inS e.sig))) rfl) ?_
            refine AOps.read trivial rfl (by decide) (Reader.fieldL rfl ⟨_, _, Tryd.underlying34, rfl, rfl, rfl, sizeOf_3⟩ (by decide) rfl) ?_
            refine AOps.storeL trivial rfl rfl rfl rfl sizeOf_3 (.inl ⟨rfl, rfl⟩) rfl (v := .lit (.int .i64 0)) rfl (all_flat rfl) rfl (Nat.le_of_ble_eq_true rfl) ?_
            refine AOps.nil ?_
            refine AWp.exit ?_
            exact ⟨([] ++ [sgw e.sig]), _, _, _, rfl, by first | (simp [flE, presL, roomL, *]; done) | (rcases h5 with ⟨h5, rfl⟩ | ⟨h5, rfl⟩ <;> first | (rcases h5 with h5 | h5 <;> simp [flE, h5]; done) | (simp [flE, h5]; done)) | (rcases (show e.kind = 6 ∨ e.kind = 7 by assumption) with h6 | h6 <;> simp [flE, h6]; done) | (simp_all [flE, presL, roomL]; done), by first | (simp [ok1E, beq_dec, *]; done) | (rcases h5 with ⟨h5 | h5, rfl⟩ | ⟨h5, rfl⟩ <;> simp [ok1E, h5]; done) | (rcases (show e.kind = 6 ∨ e.kind = 7 by assumption) with h6 | h6 <;> simp [ok1E, h6]; done) | (simp_all [ok1E]; done), by first | (simp [restE, *]; done) | (rcases h5 with ⟨h5 | h5, rfl⟩ | ⟨h5, rfl⟩ <;> simp [restE, h5]; done) | (rcases (show e.kind = 6 ∨ e.kind = 7 by assumption) with h6 | h6 <;> simp [restE, h6]; done) | (simp_all [restE]; done), by first | (simp [restE, *]; done) | (rcases h5 with ⟨h5 | h5, rfl⟩ | ⟨h5, rfl⟩ <;> simp [restE, h5]; done) | (rcases (show e.kind = 6 ∨ e.kind = 7 by assumption) with h6 | h6 <;> simp [restE, h6]; done) | (simp_all [restE]; done)⟩
          · skip
            have h5' : ¬ (e.kind = 6 ∨ e.kind = 7) := (of_decide_eq_false (hz17.symm.trans h5))
            clear h5
            refine AWp.skip ?_
            refine AWp.seq ?_
            refine AWp.mid [0, 1, 2, 3, 4, 5, 6, 12, 13, 15, 17, 20] [1, 3] (fun s => ∃ (z20 : Bool), s = ⟨[(0, encE e), (1, .lptr 1 0), (2, .list true 9 []), (3, .lptr 3 0), (4, .lit (.bool false)), (5, .list true 9 []), (6, .lit (.bool true)), (12, .lit (.int .i64 e.kind)), (13, .lit (.bool (e.kind == 3))), (15, .lit (.bool (e.kind == 5))), (17, .lit (.bool z17)), (20, .lit (.bool z20))], [(1, [.lit (.int .i64 e.kind), .str e.id, .lit (.int .i64 e.sig), .lit (.int .i64 e.n)]), (3, [.lit (.int .i64 0), .str [], .lit (.int .i64 0), .lit (.int .i64 0)])], M⟩ ∧ (z20 = decide (e.kind = 9 ∨ e.kind = 14))) ?_ ?_
            · skip
              refine AWp.seq (AWp.region ?_)
              refine AOps.read trivial rfl (by decide) (Reader.int rfl rfl rfl (r := .bool (e.kind == 9)) rfl) ?_
              refine AOps.read trivial rfl (by decide) (Reader.move (.inr rfl) (ok_const rfl) (v := .lit (.bool (e.kind == 9))) rfl) ?_
              refine AOps.nil ?_
              refine AWp.cond (b := e.kind == 9) rfl (fun h6 => ?_) (fun h6 => ?_)
              · skip
                have h6' : e.kind = 9 := (by have hh := eq_of_beq h6; omega)
                clear h6
                refine AWp.skip ?_
                exact ⟨_, rfl, by simp [beq_dec, *]⟩
              · skip
                have h6' : ¬ (e.kind = 9) := (by have hh := beq_eq_false_iff_ne.1 h6; omega)
                clear h6
                refine AWp.region ?_
                refine AOps.read trivial rfl (by decide) (Reader.int rfl rfl rfl (r := .bool (e.kind == 14)) rfl) ?_
                refine AOps.read trivial rfl (by decide) (Reader.move (.inr rfl) (ok_const rfl) (v := .lit (.bool (e.kind == 14))) rfl) ?_
                refine AOps.nil ?_
                exact ⟨_, rfl, by simp [beq_dec, *]⟩
            rintro _ ⟨z20, rfl, hz20⟩
            refine AWp.cond (b := z20) rfl (fun h7 => ?_) (fun h7 => ?_)
            · skip
              have h7' : e.kind = 9 ∨ e.kind = 14 := (of_decide_eq_true (hz20.symm.trans h7))
              clear h7
              refine AWp.exit ?_
              refine AWp.region ?_
              refine AOps.read trivial rfl (by decide) (Reader.fieldL rfl ⟨_, _, Tryd.underlying34, rfl, rfl, rfl, sizeOf_9⟩ (by decide) rfl) ?_
              refine AOps.read trivial rfl (by decide) (Reader.loadL rfl Tryd.underlying9 sizeOf_9 rfl rfl (v := .str e.id) rfl rfl) ?_
              refine AOps.buildSlice (ys := [(0, .str e.id)]) (Es := []) (cs := [.str e.id]) (xs := [.str e.id]) trivial rfl (by decide) rfl Tryd.underlying23 Tryd.i9 rfl rfl rfl (by decide) (by refine ⟨rfl, fun j p x hp hx => ?_⟩; match j, hp, hx with | 0, hp, hx => cases hp; cases hx; exact ⟨rfl, .inl ⟨rfl, rfl⟩, rfl, rfl⟩ | _ + 1, hp, hx => cases hp) rfl rfl rfl (all_len rfl) (all_sc rfl) rfl ?_
              refine AOps.steal trivial rfl (by decide) (by decide) (.inr rfl) (v := .list true 9 [.str e.id]) rfl ?_
              refine AOps.nil ?_
              exact ⟨[e.id], rfl, by simp [*]⟩
            · skip
              have h7' : ¬ (e.kind = 9 ∨ e.kind = 14) := (of_decide_eq_false (hz20.symm.trans h7))
              clear h7
              refine AWp.skip ?_
              refine AWp.seq (AWp.region ?_)
              refine AOps.read trivial rfl (by decide) (Reader.int rfl rfl rfl (r := .bool (e.kind == 16)) rfl) ?_
              refine AOps.read trivial rfl (by decide) (Reader.move (.inr rfl) (ok_const rfl) (v := .lit (.bool (e.kind == 16))) rfl) ?_
              refine AOps.nil ?_
              refine AWp.cond (b := e.kind == 16) rfl (fun h8 => ?_) (fun h8 => ?_)
              · skip
                have h8' : e.kind = 16 := (by have hh := eq_of_beq h8; omega)
                clear h8
                refine AWp.exit ?_
                exact ⟨[], rfl, by simp [*]⟩
              · skip
                have h8' : ¬ (e.kind = 16) := (by have hh := beq_eq_false_iff_ne.1 h8; omega)
                clear h8
                refine AWp.skip ?_
                refine AWp.exit ?_
                refine AWp.seq (AWp.region ?_)
                refine AOps.read trivial rfl (by decide) (Reader.fieldL rfl ⟨_, _, Tryd.underlying34, rfl, rfl, rfl, sizeOf_9⟩ (by decide) rfl) ?_
                refine AOps.read trivial rfl (by decide) (Reader.loadL rfl Tryd.underlying9 sizeOf_9 rfl rfl (v := .str e.id) rfl rfl) ?_
                refine AOps.buildSlice (ys := [(0, .str e.id)]) (Es := []) (cs := [.str e.id]) (xs := [.str e.id]) trivial rfl (by decide) rfl Tryd.underlying23 Tryd.i9 rfl rfl rfl (by decide) (by refine ⟨rfl, fun j p x hp hx => ?_⟩; match j, hp, hx with | 0, hp, hx => cases hp; cases hx; exact ⟨rfl, .inl ⟨rfl, rfl⟩, rfl, rfl⟩ | _ + 1, hp, hx => cases hp) rfl rfl rfl (all_len rfl) (all_sc rfl) rfl ?_
                refine AOps.steal trivial rfl (by decide) (by decide) (.inr rfl) (v := .list true 9 [.str e.id]) rfl ?_
                refine AOps.nil ?_
                refine AWp.exit ?_
                exact ⟨[e.id], _, _, _, rfl, by first | (simp [flE, presL, roomL, *]; done) | (rcases h5 with ⟨h5, rfl⟩ | ⟨h5, rfl⟩ <;> first | (rcases h5 with h5 | h5 <;> simp [flE, h5]; done) | (simp [flE, h5]; done)) | (rcases (show e.kind = 6 ∨ e.kind = 7 by assumption) with h6 | h6 <;> simp [flE, h6]; done) | (simp_all [flE, presL, roomL]; done), by first | (simp [ok1E, beq_dec, *]; done) | (rcases h5 with ⟨h5 | h5, rfl⟩ | ⟨h5, rfl⟩ <;> simp [ok1E, h5]; done) | (rcases (show e.kind = 6 ∨ e.kind = 7 by assumption) with h6 | h6 <;> simp [ok1E, h6]; done) | (simp_all [ok1E]; done), by first | (simp [restE, *]; done) | (rcases h5 with ⟨h5 | h5, rfl⟩ | ⟨h5, rfl⟩ <;> simp [restE, h5]; done) | (rcases (show e.kind = 6 ∨ e.kind = 7 by assumption) with h6 | h6 <;> simp [restE, h6]; done) | (simp_all [restE]; done), by first | (simp [restE, *]; done) | (rcases h5 with ⟨h5 | h5, rfl⟩ | ⟨h5, rfl⟩ <;> simp [restE, h5]; done) | (rcases (show e.kind = 6 ∨ e.kind = 7 by assumption) with h6 | h6 <;> simp [restE, h6]; done) | (simp_all [restE]; done)⟩
    rintro _ ⟨l5, rfl, h5⟩
    have h5l : l5.length ≤ 1 := by rcases h5 with ⟨_, rfl⟩ | ⟨_, rfl⟩ <;> simp
    refine AWp.seq (AWp.anyR [0, 1, 2, 3, 4, 6, 12, 13, 15, 5] [1, 3] (⟨[(0, encE e), (1, .lptr 1 0), (2, .list true 9 []), (3, .lptr 3 0), (4, .lit (.bool false)), (6, .lit (.bool (decide (e.n ≥ 0)))), (12, .lit (.int .i64 e.kind)), (13, .lit (.bool (e.kind == 3))), (15, .lit (.bool (e.kind == 5))), (5, .list true 9 ((l5 ++ [Lib.itoa e.n]).map AV.str))], [(1, [.lit (.int .i64 e.kind), .str e.id, .lit (.int .i64 e.sig), .lit (.int .i64 0)]), (3, [.lit (.int .i64 0), .str [], .lit (.int .i64 0), .lit (.int .i64 0)])], M⟩) (by kernel_rfl) ?_ ?_)
    · skip
      skip
      refine SAny.share 5 #[true, true, true, true, true, true, true, true, false, false, false, false, false] (⟨[(0, encE e), (1, .lptr 1 0), (2, .list true 9 []), (3, .lptr 3 0), (4, .lit (.bool false)), (6, .lit (.bool true)), (12, .lit (.int .i64 e.kind)), (13, .lit (.bool (e.kind == 3))), (15, .lit (.bool (e.kind == 5))), (5, .list false 9 (l5.map AV.str)), (66, .lptr 1 3), (71, .lptr 1 3), (72, .lit (.int .i64 e.n)), (67, .lit (.int .i64 e.n)), (68, .str (Lib.itoa e.n)), (69, .list true 9 [.str (Lib.itoa e.n)]), (65, .list false 9 (l5.map AV.str)), (70, .list true 9 ((l5 ++ [Lib.itoa e.n]).map AV.str))], [(1, [.lit (.int .i64 e.kind), .str e.id, .lit (.int .i64 e.sig), .lit (.int .i64 e.n)]), (3, [.lit (.int .i64 0), .str [], .lit (.int .i64 0), .lit (.int .i64 0)])], M⟩) ?_ (fun n0 => ?_)
      · skip
        refine SAny.step [8] (by kernel_rfl) (by decide) ?_
        intro iq hq; simp only [List.mem_cons, List.mem_nil_iff, or_false] at hq
        rcases hq with rfl
        · refine ⟨_, rfl, ?_⟩
          refine AOps.call (args := [.lit (.int .i64 e.n)]) trivial rfl (by decide) rfl rfl Tryd.call99 (args_ok rfl) rfl (by intro j x v hx hv; match j, hx, hv with | 0, hx, hv => cases hx; cases hv; exact .inl ⟨rfl, rfl⟩ | _ + 1, hx, hv => cases hx) (counted_any e.n M) ?_
          rintro _ _ ⟨rfl, rfl⟩
          refine AOps.nil ?_
          refine SAny.step [9] (by kernel_rfl) (by decide) ?_
          intro iq hq; simp only [List.mem_cons, List.mem_nil_iff, or_false] at hq
          rcases hq with rfl
          · refine ⟨_, rfl, ?_⟩
            refine AOps.steal trivial rfl (by decide) (by decide) (.inr rfl) (v := .list true 9 ((l5 ++ [Lib.itoa e.n]).map AV.str)) rfl ?_
            refine AOps.nil ?_
            refine SAny.take 10 rfl (by kernel_rfl) (by kernel_rfl) (by kernel_rfl) trivial rfl (by decide) (PReader.move (.inr rfl) (ok_const rfl) (v := .lit (.bool (decide (e.n ≥ 0)))) rfl) ?_
            refine SAny.take 11 rfl (by kernel_rfl) (by kernel_rfl) (by kernel_rfl) trivial rfl (by decide) (PReader.fieldL rfl ⟨_, _, Tryd.underlying34, rfl, rfl, rfl, sizeOf_3⟩ (by decide) rfl) ?_
            refine SAny.step [12] (by kernel_rfl) (by decide) ?_
            intro iq hq; simp only [List.mem_cons, List.mem_nil_iff, or_false] at hq
            rcases hq with rfl
            · refine ⟨_, rfl, ?_⟩
              refine AOps.storeL trivial rfl rfl rfl rfl sizeOf_3 (.inl ⟨rfl, rfl⟩) rfl (v := .lit (.int .i64 0)) rfl (all_flat rfl) rfl (Nat.le_of_ble_eq_true rfl) ?_
              refine AOps.nil ?_
              exact SAny.done (by kernel_rfl) rfl
      refine SAny.share 6 #[true, true, true, true, true, false, true, true, false, false, false, false, false] (⟨[(0, encE e), (1, .lptr 1 0), (2, .list true 9 []), (3, .lptr 3 0), (4, .lit (.bool false)), (6, .lit (.bool true)), (12, .lit (.int .i64 e.kind)), (13, .lit (.bool (e.kind == 3))), (15, .lit (.bool (e.kind == 5))), (5, .list false 9 (l5.map AV.str)), (66, .lptr 1 3), (71, .lptr 1 3), (72, .lit (.int .i64 e.n)), (67, .lit (.int .i64 e.n)), (68, .str (Lib.itoa e.n)), (69, .list true 9 [.str (Lib.itoa e.n)]), (65, .list true 9 (l5.map AV.str))], [(1, [.lit (.int .i64 e.kind), .str e.id, .lit (.int .i64 e.sig), .lit (.int .i64 e.n)]), (3, [.lit (.int .i64 0), .str [], .lit (.int .i64 0), .lit (.int .i64 0)])], M⟩) ?_ (fun n1 => ?_)
      · skip
        refine SAny.step [5] (by kernel_rfl) (by decide) ?_
        intro iq hq; simp only [List.mem_cons, List.mem_nil_iff, or_false] at hq
        rcases hq with rfl
        · refine ⟨_, rfl, ?_⟩
          refine AOps.appL (bytes := 16) trivial rfl (by decide) (by decide) rfl rfl rfl rfl Tryd.underlying23 Tryd.underlying23 Tryd.i9 rfl rfl rfl rfl (xs := (l5.map AV.str)) (ys := [.str (Lib.itoa e.n)]) (zs := ((l5 ++ [Lib.itoa e.n]).map AV.str)) rfl rfl (m1 := l5.length) (m2 := 1) (by simp) rfl (by first | omega | (unfold maxLen; omega)) (by omega) (by simp) ?_
          refine AOps.nil ?_
          exact SAny.same [0, 1, 2, 3, 4, 6, 12, 13, 15, 5, 66, 71, 72, 67, 68, 69, 65, 70] [1, 3] n0 (by kernel_rfl) rfl
      refine SAny.share 7 #[true, true, true, true, false, false, true, true, false, false, false, false, false] (⟨[(0, encE e), (1, .lptr 1 0), (2, .list true 9 []), (3, .lptr 3 0), (4, .lit (.bool false)), (6, .lit (.bool true)), (12, .lit (.int .i64 e.kind)), (13, .lit (.bool (e.kind == 3))), (15, .lit (.bool (e.kind == 5))), (5, .list false 9 (l5.map AV.str)), (66, .lptr 1 3), (71, .lptr 1 3), (72, .lit (.int .i64 e.n)), (67, .lit (.int .i64 e.n)), (68, .str (Lib.itoa e.n)), (65, .list true 9 (l5.map AV.str))], [(1, [.lit (.int .i64 e.kind), .str e.id, .lit (.int .i64 e.sig), .lit (.int .i64 e.n)]), (3, [.lit (.int .i64 0), .str [], .lit (.int .i64 0), .lit (.int .i64 0)])], M⟩) ?_ (fun n2 => ?_)
      · skip
        refine SAny.step [4] (by kernel_rfl) (by decide) ?_
        intro iq hq; simp only [List.mem_cons, List.mem_nil_iff, or_false] at hq
        rcases hq with rfl
        · refine ⟨_, rfl, ?_⟩
          refine AOps.buildSlice (ys := [(0, .str (Lib.itoa e.n))]) (Es := []) (cs := [.str (Lib.itoa e.n)]) (xs := [.str (Lib.itoa e.n)]) trivial rfl (by decide) rfl Tryd.underlying23 Tryd.i9 rfl rfl rfl (by decide) (by refine ⟨rfl, fun j p x hp hx => ?_⟩; match j, hp, hx with | 0, hp, hx => cases hp; cases hx; exact ⟨rfl, .inl ⟨rfl, rfl⟩, rfl, rfl⟩ | _ + 1, hp, hx => cases hp) rfl rfl rfl (all_len rfl) (all_sc rfl) rfl ?_
          refine AOps.nil ?_
          exact SAny.same [0, 1, 2, 3, 4, 6, 12, 13, 15, 5, 66, 71, 72, 67, 68, 69, 65] [1, 3] n1 (by kernel_rfl) rfl
      refine SAny.share 7 #[false, true, true, true, true, false, true, true, false, false, false, false, false] (⟨[(0, encE e), (1, .lptr 1 0), (2, .list true 9 []), (3, .lptr 3 0), (4, .lit (.bool false)), (6, .lit (.bool true)), (12, .lit (.int .i64 e.kind)), (13, .lit (.bool (e.kind == 3))), (15, .lit (.bool (e.kind == 5))), (5, .list true 9 (l5.map AV.str)), (66, .lptr 1 3), (71, .lptr 1 3), (72, .lit (.int .i64 e.n)), (67, .lit (.int .i64 e.n)), (68, .str (Lib.itoa e.n)), (69, .list true 9 [.str (Lib.itoa e.n)])], [(1, [.lit (.int .i64 e.kind), .str e.id, .lit (.int .i64 e.sig), .lit (.int .i64 e.n)]), (3, [.lit (.int .i64 0), .str [], .lit (.int .i64 0), .lit (.int .i64 0)])], M⟩) ?_ (fun n3 => ?_)
      · skip
        refine SAny.step [0] (by kernel_rfl) (by decide) ?_
        intro iq hq; simp only [List.mem_cons, List.mem_nil_iff, or_false] at hq
        rcases hq with rfl
        · refine ⟨_, rfl, ?_⟩
          refine AOps.steal trivial rfl (by decide) (by decide) (.inl rfl) (v := .list true 9 (l5.map AV.str)) rfl ?_
          refine AOps.nil ?_
          exact SAny.same [0, 1, 2, 3, 4, 6, 12, 13, 15, 5, 66, 71, 72, 67, 68, 69, 65] [1, 3] n1 (by kernel_rfl) rfl
      refine SAny.share 7 #[true, true, true, true, true, false, true, false, false, false, false, false, false] (⟨[(0, encE e), (1, .lptr 1 0), (2, .list true 9 []), (3, .lptr 3 0), (4, .lit (.bool false)), (6, .lit (.bool true)), (12, .lit (.int .i64 e.kind)), (13, .lit (.bool (e.kind == 3))), (15, .lit (.bool (e.kind == 5))), (5, .list false 9 (l5.map AV.str)), (66, .lptr 1 3), (71, .lptr 1 3), (67, .lit (.int .i64 e.n)), (68, .str (Lib.itoa e.n)), (69, .list true 9 [.str (Lib.itoa e.n)]), (65, .list true 9 (l5.map AV.str))], [(1, [.lit (.int .i64 e.kind), .str e.id, .lit (.int .i64 e.sig), .lit (.int .i64 e.n)]), (3, [.lit (.int .i64 0), .str [], .lit (.int .i64 0), .lit (.int .i64 0)])], M⟩) ?_ (fun n4 => ?_)
      · skip
        refine SAny.step [5, 7] (by kernel_rfl) (by decide) ?_
        intro iq hq; simp only [List.mem_cons, List.mem_nil_iff, or_false] at hq
        rcases hq with rfl | rfl
        · refine ⟨_, rfl, ?_⟩
          refine AOps.appL (bytes := 16) trivial rfl (by decide) (by decide) rfl rfl rfl rfl Tryd.underlying23 Tryd.underlying23 Tryd.i9 rfl rfl rfl rfl (xs := (l5.map AV.str)) (ys := [.str (Lib.itoa e.n)]) (zs := ((l5 ++ [Lib.itoa e.n]).map AV.str)) rfl rfl (m1 := l5.length) (m2 := 1) (by simp) rfl (by first | omega | (unfold maxLen; omega)) (by omega) (by simp) ?_
          refine AOps.nil ?_
          refine SAny.step [7] (by kernel_rfl) (by decide) ?_
          intro iq hq; simp only [List.mem_cons, List.mem_nil_iff, or_false] at hq
          rcases hq with rfl
          · refine ⟨_, rfl, ?_⟩
            refine AOps.read trivial rfl (by decide) (Reader.loadL rfl Tryd.underlying3 sizeOf_3 rfl rfl (v := .lit (.int .i64 e.n)) rfl rfl) ?_
            refine AOps.nil ?_
            exact SAny.same [0, 1, 2, 3, 4, 6, 12, 13, 15, 5, 66, 71, 72, 67, 68, 69, 65, 70] [1, 3] n0 (by kernel_rfl) rfl
        · refine ⟨_, rfl, ?_⟩
          refine AOps.read trivial rfl (by decide) (Reader.loadL rfl Tryd.underlying3 sizeOf_3 rfl rfl (v := .lit (.int .i64 e.n)) rfl rfl) ?_
          refine AOps.nil ?_
          exact SAny.same [0, 1, 2, 3, 4, 6, 12, 13, 15, 5, 66, 71, 72, 67, 68, 69, 65] [1, 3] n1 (by kernel_rfl) rfl
      refine SAny.share 8 #[true, true, true, false, false, false, true, true, false, false, false, false, false] (⟨[(0, encE e), (1, .lptr 1 0), (2, .list true 9 []), (3, .lptr 3 0), (4, .lit (.bool false)), (6, .lit (.bool true)), (12, .lit (.int .i64 e.kind)), (13, .lit (.bool (e.kind == 3))), (15, .lit (.bool (e.kind == 5))), (5, .list false 9 (l5.map AV.str)), (66, .lptr 1 3), (71, .lptr 1 3), (72, .lit (.int .i64 e.n)), (67, .lit (.int .i64 e.n)), (65, .list true 9 (l5.map AV.str))], [(1, [.lit (.int .i64 e.kind), .str e.id, .lit (.int .i64 e.sig), .lit (.int .i64 e.n)]), (3, [.lit (.int .i64 0), .str [], .lit (.int .i64 0), .lit (.int .i64 0)])], M⟩) ?_ (fun n5 => ?_)
      · skip
        refine SAny.step [3] (by kernel_rfl) (by decide) ?_
        intro iq hq; simp only [List.mem_cons, List.mem_nil_iff, or_false] at hq
        rcases hq with rfl
        · refine ⟨_, rfl, ?_⟩
          refine AOps.call (args := [.lit (.int .i64 e.n)]) trivial rfl (by decide) rfl rfl Tryd.call44 (args_ok rfl) rfl (by intro j x v hx hv; match j, hx, hv with | 0, hx, hv => cases hx; cases hv; exact .inl ⟨rfl, rfl⟩ | _ + 1, hx, hv => cases hx) (itoa_int e.n hn.1 hn.2 M) ?_
          rintro _ _ ⟨rfl, rfl⟩
          refine AOps.nil ?_
          exact SAny.same [0, 1, 2, 3, 4, 6, 12, 13, 15, 5, 66, 71, 72, 67, 68, 65] [1, 3] n2 (by kernel_rfl) rfl
      refine SAny.share 8 #[false, true, true, true, false, false, true, true, false, false, false, false, false] (⟨[(0, encE e), (1, .lptr 1 0), (2, .list true 9 []), (3, .lptr 3 0), (4, .lit (.bool false)), (6, .lit (.bool true)), (12, .lit (.int .i64 e.kind)), (13, .lit (.bool (e.kind == 3))), (15, .lit (.bool (e.kind == 5))), (5, .list true 9 (l5.map AV.str)), (66, .lptr 1 3), (71, .lptr 1 3), (72, .lit (.int .i64 e.n)), (67, .lit (.int .i64 e.n)), (68, .str (Lib.itoa e.n))], [(1, [.lit (.int .i64 e.kind), .str e.id, .lit (.int .i64 e.sig), .lit (.int .i64 e.n)]), (3, [.lit (.int .i64 0), .str [], .lit (.int .i64 0), .lit (.int .i64 0)])], M⟩) ?_ (fun n6 => ?_)
      · skip
        refine SAny.step [0, 4] (by kernel_rfl) (by decide) ?_
        intro iq hq; simp only [List.mem_cons, List.mem_nil_iff, or_false] at hq
        rcases hq with rfl | rfl
        · refine ⟨_, rfl, ?_⟩
          refine AOps.steal trivial rfl (by decide) (by decide) (.inl rfl) (v := .list true 9 (l5.map AV.str)) rfl ?_
          refine AOps.nil ?_
          exact SAny.same [0, 1, 2, 3, 4, 6, 12, 13, 15, 5, 66, 71, 72, 67, 68, 65] [1, 3] n2 (by kernel_rfl) rfl
        · refine ⟨_, rfl, ?_⟩
          refine AOps.buildSlice (ys := [(0, .str (Lib.itoa e.n))]) (Es := []) (cs := [.str (Lib.itoa e.n)]) (xs := [.str (Lib.itoa e.n)]) trivial rfl (by decide) rfl Tryd.underlying23 Tryd.i9 rfl rfl rfl (by decide) (by refine ⟨rfl, fun j p x hp hx => ?_⟩; match j, hp, hx with | 0, hp, hx => cases hp; cases hx; exact ⟨rfl, .inl ⟨rfl, rfl⟩, rfl, rfl⟩ | _ + 1, hp, hx => cases hp) rfl rfl rfl (all_len rfl) (all_sc rfl) rfl ?_
          refine AOps.nil ?_
          exact SAny.same [0, 1, 2, 3, 4, 6, 12, 13, 15, 5, 66, 71, 72, 67, 68, 69] [1, 3] n3 (by kernel_rfl) rfl
      refine SAny.share 8 #[true, true, true, true, false, false, true, false, false, false, false, false, false] (⟨[(0, encE e), (1, .lptr 1 0), (2, .list true 9 []), (3, .lptr 3 0), (4, .lit (.bool false)), (6, .lit (.bool true)), (12, .lit (.int .i64 e.kind)), (13, .lit (.bool (e.kind == 3))), (15, .lit (.bool (e.kind == 5))), (5, .list false 9 (l5.map AV.str)), (66, .lptr 1 3), (71, .lptr 1 3), (67, .lit (.int .i64 e.n)), (68, .str (Lib.itoa e.n)), (65, .list true 9 (l5.map AV.str))], [(1, [.lit (.int .i64 e.kind), .str e.id, .lit (.int .i64 e.sig), .lit (.int .i64 e.n)]), (3, [.lit (.int .i64 0), .str [], .lit (.int .i64 0), .lit (.int .i64 0)])], M⟩) ?_ (fun n7 => ?_)
      · skip
        refine SAny.step [4, 7] (by kernel_rfl) (by decide) ?_
        intro iq hq; simp only [List.mem_cons, List.mem_nil_iff, or_false] at hq
        rcases hq with rfl | rfl
        · refine ⟨_, rfl, ?_⟩
          refine AOps.buildSlice (ys := [(0, .str (Lib.itoa e.n))]) (Es := []) (cs := [.str (Lib.itoa e.n)]) (xs := [.str (Lib.itoa e.n)]) trivial rfl (by decide) rfl Tryd.underlying23 Tryd.i9 rfl rfl rfl (by decide) (by refine ⟨rfl, fun j p x hp hx => ?_⟩; match j, hp, hx with | 0, hp, hx => cases hp; cases hx; exact ⟨rfl, .inl ⟨rfl, rfl⟩, rfl, rfl⟩ | _ + 1, hp, hx => cases hp) rfl rfl rfl (all_len rfl) (all_sc rfl) rfl ?_
          refine AOps.nil ?_
          exact SAny.same [0, 1, 2, 3, 4, 6, 12, 13, 15, 5, 66, 71, 67, 68, 69, 65] [1, 3] n4 (by kernel_rfl) rfl
        · refine ⟨_, rfl, ?_⟩
          refine AOps.read trivial rfl (by decide) (Reader.loadL rfl Tryd.underlying3 sizeOf_3 rfl rfl (v := .lit (.int .i64 e.n)) rfl rfl) ?_
          refine AOps.nil ?_
          exact SAny.same [0, 1, 2, 3, 4, 6, 12, 13, 15, 5, 66, 71, 72, 67, 68, 65] [1, 3] n2 (by kernel_rfl) rfl
      refine SAny.share 9 #[true, true, false, false, false, false, true, true, false, false, false, false, false] (⟨[(0, encE e), (1, .lptr 1 0), (2, .list true 9 []), (3, .lptr 3 0), (4, .lit (.bool false)), (6, .lit (.bool true)), (12, .lit (.int .i64 e.kind)), (13, .lit (.bool (e.kind == 3))), (15, .lit (.bool (e.kind == 5))), (5, .list false 9 (l5.map AV.str)), (66, .lptr 1 3), (71, .lptr 1 3), (72, .lit (.int .i64 e.n)), (65, .list true 9 (l5.map AV.str))], [(1, [.lit (.int .i64 e.kind), .str e.id, .lit (.int .i64 e.sig), .lit (.int .i64 e.n)]), (3, [.lit (.int .i64 0), .str [], .lit (.int .i64 0), .lit (.int .i64 0)])], M⟩) ?_ (fun n8 => ?_)
      · skip
        refine SAny.step [2] (by kernel_rfl) (by decide) ?_
        intro iq hq; simp only [List.mem_cons, List.mem_nil_iff, or_false] at hq
        rcases hq with rfl
        · refine ⟨_, rfl, ?_⟩
          refine AOps.read trivial rfl (by decide) (Reader.loadL rfl Tryd.underlying3 sizeOf_3 rfl rfl (v := .lit (.int .i64 e.n)) rfl rfl) ?_
          refine AOps.nil ?_
          exact SAny.same [0, 1, 2, 3, 4, 6, 12, 13, 15, 5, 66, 71, 72, 67, 65] [1, 3] n5 (by kernel_rfl) rfl
      refine SAny.share 9 #[false, true, true, false, false, false, true, true, false, false, false, false, false] (⟨[(0, encE e), (1, .lptr 1 0), (2, .list true 9 []), (3, .lptr 3 0), (4, .lit (.bool false)), (6, .lit (.bool true)), (12, .lit (.int .i64 e.kind)), (13, .lit (.bool (e.kind == 3))), (15, .lit (.bool (e.kind == 5))), (5, .list true 9 (l5.map AV.str)), (66, .lptr 1 3), (71, .lptr 1 3), (72, .lit (.int .i64 e.n)), (67, .lit (.int .i64 e.n))], [(1, [.lit (.int .i64 e.kind), .str e.id, .lit (.int .i64 e.sig), .lit (.int .i64 e.n)]), (3, [.lit (.int .i64 0), .str [], .lit (.int .i64 0), .lit (.int .i64 0)])], M⟩) ?_ (fun n9 => ?_)
      · skip
        refine SAny.step [0, 3] (by kernel_rfl) (by decide) ?_
        intro iq hq; simp only [List.mem_cons, List.mem_nil_iff, or_false] at hq
        rcases hq with rfl | rfl
        · refine ⟨_, rfl, ?_⟩
          refine AOps.steal trivial rfl (by decide) (by decide) (.inl rfl) (v := .list true 9 (l5.map AV.str)) rfl ?_
          refine AOps.nil ?_
          exact SAny.same [0, 1, 2, 3, 4, 6, 12, 13, 15, 5, 66, 71, 72, 67, 65] [1, 3] n5 (by kernel_rfl) rfl
        · refine ⟨_, rfl, ?_⟩
          refine AOps.call (args := [.lit (.int .i64 e.n)]) trivial rfl (by decide) rfl rfl Tryd.call44 (args_ok rfl) rfl (by intro j x v hx hv; match j, hx, hv with | 0, hx, hv => cases hx; cases hv; exact .inl ⟨rfl, rfl⟩ | _ + 1, hx, hv => cases hx) (itoa_int e.n hn.1 hn.2 M) ?_
          rintro _ _ ⟨rfl, rfl⟩
          refine AOps.nil ?_
          exact SAny.same [0, 1, 2, 3, 4, 6, 12, 13, 15, 5, 66, 71, 72, 67, 68] [1, 3] n6 (by kernel_rfl) rfl
      refine SAny.share 9 #[true, true, true, false, false, false, true, false, false, false, false, false, false] (⟨[(0, encE e), (1, .lptr 1 0), (2, .list true 9 []), (3, .lptr 3 0), (4, .lit (.bool false)), (6, .lit (.bool true)), (12, .lit (.int .i64 e.kind)), (13, .lit (.bool (e.kind == 3))), (15, .lit (.bool (e.kind == 5))), (5, .list false 9 (l5.map AV.str)), (66, .lptr 1 3), (71, .lptr 1 3), (67, .lit (.int .i64 e.n)), (65, .list true 9 (l5.map AV.str))], [(1, [.lit (.int .i64 e.kind), .str e.id, .lit (.int .i64 e.sig), .lit (.int .i64 e.n)]), (3, [.lit (.int .i64 0), .str [], .lit (.int .i64 0), .lit (.int .i64 0)])], M⟩) ?_ (fun n10 => ?_)
      · skip
        refine SAny.step [3, 7] (by kernel_rfl) (by decide) ?_
        intro iq hq; simp only [List.mem_cons, List.mem_nil_iff, or_false] at hq
        rcases hq with rfl | rfl
        · refine ⟨_, rfl, ?_⟩
          refine AOps.call (args := [.lit (.int .i64 e.n)]) trivial rfl (by decide) rfl rfl Tryd.call44 (args_ok rfl) rfl (by intro j x v hx hv; match j, hx, hv with | 0, hx, hv => cases hx; cases hv; exact .inl ⟨rfl, rfl⟩ | _ + 1, hx, hv => cases hx) (itoa_int e.n hn.1 hn.2 M) ?_
          rintro _ _ ⟨rfl, rfl⟩
          refine AOps.nil ?_
          exact SAny.same [0, 1, 2, 3, 4, 6, 12, 13, 15, 5, 66, 71, 67, 68, 65] [1, 3] n7 (by kernel_rfl) rfl
        · refine ⟨_, rfl, ?_⟩
          refine AOps.read trivial rfl (by decide) (Reader.loadL rfl Tryd.underlying3 sizeOf_3 rfl rfl (v := .lit (.int .i64 e.n)) rfl rfl) ?_
          refine AOps.nil ?_
          exact SAny.same [0, 1, 2, 3, 4, 6, 12, 13, 15, 5, 66, 71, 72, 67, 65] [1, 3] n5 (by kernel_rfl) rfl
      refine SAny.take 1 rfl (by kernel_rfl) (by kernel_rfl) (by kernel_rfl) trivial rfl (by decide) (PReader.fieldL rfl ⟨_, _, Tryd.underlying34, rfl, rfl, rfl, sizeOf_3⟩ (by decide) rfl) ?_
      refine SAny.take 6 rfl (by kernel_rfl) (by kernel_rfl) (by kernel_rfl) trivial rfl (by decide) (PReader.fieldL rfl ⟨_, _, Tryd.underlying34, rfl, rfl, rfl, sizeOf_3⟩ (by decide) rfl) ?_
      refine SAny.step [0, 2, 7] (by kernel_rfl) (by decide) ?_
      intro iq hq; simp only [List.mem_cons, List.mem_nil_iff, or_false] at hq
      rcases hq with rfl | rfl | rfl
      · refine ⟨_, rfl, ?_⟩
        refine AOps.steal trivial rfl (by decide) (by decide) (.inl rfl) (v := .list true 9 (l5.map AV.str)) rfl ?_
        refine AOps.nil ?_
        refine SAny.step [2, 7] (by kernel_rfl) (by decide) ?_
        intro iq hq; simp only [List.mem_cons, List.mem_nil_iff, or_false] at hq
        rcases hq with rfl | rfl
        · refine ⟨_, rfl, ?_⟩
          refine AOps.read trivial rfl (by decide) (Reader.loadL rfl Tryd.underlying3 sizeOf_3 rfl rfl (v := .lit (.int .i64 e.n)) rfl rfl) ?_
          refine AOps.nil ?_
          exact SAny.same [0, 1, 2, 3, 4, 6, 12, 13, 15, 5, 66, 71, 67, 65] [1, 3] n10 (by kernel_rfl) rfl
        · refine ⟨_, rfl, ?_⟩
          refine AOps.read trivial rfl (by decide) (Reader.loadL rfl Tryd.underlying3 sizeOf_3 rfl rfl (v := .lit (.int .i64 e.n)) rfl rfl) ?_
          refine AOps.nil ?_
          exact SAny.same [0, 1, 2, 3, 4, 6, 12, 13, 15, 5, 66, 71, 72, 65] [1, 3] n8 (by kernel_rfl) rfl
      · refine ⟨_, rfl, ?_⟩
        refine AOps.read trivial rfl (by decide) (Reader.loadL rfl Tryd.underlying3 sizeOf_3 rfl rfl (v := .lit (.int .i64 e.n)) rfl rfl) ?_
        refine AOps.nil ?_
        refine SAny.step [0, 3, 7] (by kernel_rfl) (by decide) ?_
        intro iq hq; simp only [List.mem_cons, List.mem_nil_iff, or_false] at hq
        rcases hq with rfl | rfl | rfl
        · refine ⟨_, rfl, ?_⟩
          refine AOps.steal trivial rfl (by decide) (by decide) (.inl rfl) (v := .list true 9 (l5.map AV.str)) rfl ?_
          refine AOps.nil ?_
          exact SAny.same [0, 1, 2, 3, 4, 6, 12, 13, 15, 5, 66, 71, 67, 65] [1, 3] n10 (by kernel_rfl) rfl
        · refine ⟨_, rfl, ?_⟩
          refine AOps.call (args := [.lit (.int .i64 e.n)]) trivial rfl (by decide) rfl rfl Tryd.call44 (args_ok rfl) rfl (by intro j x v hx hv; match j, hx, hv with | 0, hx, hv => cases hx; cases hv; exact .inl ⟨rfl, rfl⟩ | _ + 1, hx, hv => cases hx) (itoa_int e.n hn.1 hn.2 M) ?_
          rintro _ _ ⟨rfl, rfl⟩
          refine AOps.nil ?_
          refine SAny.step [0, 4, 7] (by kernel_rfl) (by decide) ?_
          intro iq hq; simp only [List.mem_cons, List.mem_nil_iff, or_false] at hq
          rcases hq with rfl | rfl | rfl
          · refine ⟨_, rfl, ?_⟩
            refine AOps.steal trivial rfl (by decide) (by decide) (.inl rfl) (v := .list true 9 (l5.map AV.str)) rfl ?_
            refine AOps.nil ?_
            exact SAny.same [0, 1, 2, 3, 4, 6, 12, 13, 15, 5, 66, 71, 67, 68, 65] [1, 3] n7 (by kernel_rfl) rfl
          · refine ⟨_, rfl, ?_⟩
            refine AOps.buildSlice (ys := [(0, .str (Lib.itoa e.n))]) (Es := []) (cs := [.str (Lib.itoa e.n)]) (xs := [.str (Lib.itoa e.n)]) trivial rfl (by decide) rfl Tryd.underlying23 Tryd.i9 rfl rfl rfl (by decide) (by refine ⟨rfl, fun j p x hp hx => ?_⟩; match j, hp, hx with | 0, hp, hx => cases hp; cases hx; exact ⟨rfl, .inl ⟨rfl, rfl⟩, rfl, rfl⟩ | _ + 1, hp, hx => cases hp) rfl rfl rfl (all_len rfl) (all_sc rfl) rfl ?_
            refine AOps.nil ?_
            refine SAny.step [0, 7] (by kernel_rfl) (by decide) ?_
            intro iq hq; simp only [List.mem_cons, List.mem_nil_iff, or_false] at hq
            rcases hq with rfl | rfl
            · refine ⟨_, rfl, ?_⟩
              refine AOps.steal trivial rfl (by decide) (by decide) (.inl rfl) (v := .list true 9 (l5.map AV.str)) rfl ?_
              refine AOps.nil ?_
              exact SAny.same [0, 1, 2, 3, 4, 6, 12, 13, 15, 5, 66, 71, 67, 68, 69, 65] [1, 3] n4 (by kernel_rfl) rfl
            · refine ⟨_, rfl, ?_⟩
              refine AOps.read trivial rfl (by decide) (Reader.loadL rfl Tryd.underlying3 sizeOf_3 rfl rfl (v := .lit (.int .i64 e.n)) rfl rfl) ?_
              refine AOps.nil ?_
              exact SAny.same [0, 1, 2, 3, 4, 6, 12, 13, 15, 5, 66, 71, 72, 67, 68, 69] [1, 3] n3 (by kernel_rfl) rfl
          · refine ⟨_, rfl, ?_⟩
            refine AOps.read trivial rfl (by decide) (Reader.loadL rfl Tryd.underlying3 sizeOf_3 rfl rfl (v := .lit (.int .i64 e.n)) rfl rfl) ?_
            refine AOps.nil ?_
            exact SAny.same [0, 1, 2, 3, 4, 6, 12, 13, 15, 5, 66, 71, 72, 67, 68] [1, 3] n6 (by kernel_rfl) rfl
        · refine ⟨_, rfl, ?_⟩
          refine AOps.read trivial rfl (by decide) (Reader.loadL rfl Tryd.underlying3 sizeOf_3 rfl rfl (v := .lit (.int .i64 e.n)) rfl rfl) ?_
          refine AOps.nil ?_
          exact SAny.same [0, 1, 2, 3, 4, 6, 12, 13, 15, 5, 66, 71, 72, 67] [1, 3] n9 (by kernel_rfl) rfl
      · refine ⟨_, rfl, ?_⟩
        refine AOps.read trivial rfl (by decide) (Reader.loadL rfl Tryd.underlying3 sizeOf_3 rfl rfl (v := .lit (.int .i64 e.n)) rfl rfl) ?_
        refine AOps.nil ?_
        refine SAny.step [0, 2] (by kernel_rfl) (by decide) ?_
        intro iq hq; simp only [List.mem_cons, List.mem_nil_iff, or_false] at hq
        rcases hq with rfl | rfl
        · refine ⟨_, rfl, ?_⟩
          refine AOps.steal trivial rfl (by decide) (by decide) (.inl rfl) (v := .list true 9 (l5.map AV.str)) rfl ?_
          refine AOps.nil ?_
          exact SAny.same [0, 1, 2, 3, 4, 6, 12, 13, 15, 5, 66, 71, 72, 65] [1, 3] n8 (by kernel_rfl) rfl
        · refine ⟨_, rfl, ?_⟩
          refine AOps.read trivial rfl (by decide) (Reader.loadL rfl Tryd.underlying3 sizeOf_3 rfl rfl (v := .lit (.int .i64 e.n)) rfl rfl) ?_
          refine AOps.nil ?_
          exact SAny.same [0, 1, 2, 3, 4, 6, 12, 13, 15, 5, 66, 71, 72, 67] [1, 3] n9 (by kernel_rfl) rfl
    refine AWp.exit ?_
    exact ⟨(l5 ++ [Lib.itoa e.n]), _, _, _, rfl, by first | (simp [flE, presL, roomL, *]; done) | (rcases h5 with ⟨h5, rfl⟩ | ⟨h5, rfl⟩ <;> first | (rcases h5 with h5 | h5 <;> simp [flE, h5]; done) | (simp [flE, h5]; done)) | (rcases (show e.kind = 6 ∨ e.kind = 7 by assumption) with h6 | h6 <;> simp [flE, h6]; done) | (simp_all [flE, presL, roomL]; done), by first | (simp [ok1E, beq_dec, *]; done) | (rcases h5 with ⟨h5 | h5, rfl⟩ | ⟨h5, rfl⟩ <;> simp [ok1E, h5]; done) | (rcases (show e.kind = 6 ∨ e.kind = 7 by assumption) with h6 | h6 <;> simp [ok1E, h6]; done) | (simp_all [ok1E]; done), by first | (simp [restE, *]; done) | (rcases h5 with ⟨h5 | h5, rfl⟩ | ⟨h5, rfl⟩ <;> simp [restE, h5]; done) | (rcases (show e.kind = 6 ∨ e.kind = 7 by assumption) with h6 | h6 <;> simp [restE, h6]; done) | (simp_all [restE]; done), by first | (simp [restE, *]; done) | (rcases h5 with ⟨h5 | h5, rfl⟩ | ⟨h5, rfl⟩ <;> simp [restE, h5]; done) | (rcases (show e.kind = 6 ∨ e.kind = 7 by assumption) with h6 | h6 <;> simp [restE, h6]; done) | (simp_all [restE]; done)⟩
  rintro _ ⟨ls, ok, sg2, n2, rfl, hls, hok, hsg, hn2⟩
  refine AWp.mid [0, 1, 2, 3, 4, 12, 13, 5, 90, 6] [3, 1] (fun s => ∃ (ok2 : Bool) (id2 : List UInt8), s = ⟨[(0, encE e), (1, .lptr 1 0), (2, .list true 9 []), (3, .lptr 3 0), (4, .lit (.bool false)), (12, .lit (.int .i64 e.kind)), (13, .lit (.bool (e.kind == 3))), (5, .list true 9 (ls.map AV.str)), (90, .lit (.bool (bif (e.kind != 6) then (bif (e.kind != 7) then (e.kind != 16) else false) else false))), (6, .lit (.bool ok2))], [(3, [.lit (.int .i64 0), .str [], .lit (.int .i64 0), .lit (.int .i64 0)]), (1, [.lit (.int .i64 e.kind), .str id2, .lit (.int .i64 sg2), .lit (.int .i64 n2)])], M⟩ ∧ (ok2 = okE e) ∧ (id2 = (restE e).id)) ?_ ?_
  · skip
    refine AWp.regionJ [90, 0, 1, 2, 3, 4, 12, 13, 5, 6] [3, 1] (fun z => ⟨(90, .lit (.bool z)) :: [(0, encE e), (1, .lptr 1 0), (2, .list true 9 []), (3, .lptr 3 0), (4, .lit (.bool false)), (12, .lit (.int .i64 e.kind)), (13, .lit (.bool (e.kind == 3))), (5, .list true 9 (ls.map AV.str)), (6, .lit (.bool ok))], [(3, [.lit (.int .i64 0), .str [], .lit (.int .i64 0), .lit (.int .i64 0)]), (1, [.lit (.int .i64 e.kind), .str e.id, .lit (.int .i64 sg2), .lit (.int .i64 n2)])], M⟩) (z := bif (e.kind != 6) then (bif (e.kind != 7) then (e.kind != 16) else false) else false) ?_ ?_
    · skip
      refine AOps.read trivial rfl (by decide) (Reader.fieldL rfl ⟨_, _, Tryd.underlying34, rfl, rfl, rfl, sizeOf_3⟩ (by decide) rfl) ?_
      refine AOps.read trivial rfl (by decide) (Reader.loadL rfl Tryd.underlying3 sizeOf_3 rfl rfl (v := .lit (.int .i64 e.kind)) rfl rfl) ?_
      refine AOps.read trivial rfl (by decide) (Reader.int rfl rfl rfl (r := .bool (e.kind != 6)) rfl) ?_
      refine AOps.read trivial rfl (by decide) (Reader.move (.inl rfl) (ok_const rfl) (v := .lit (.bool (e.kind != 6))) rfl) ?_
      refine AOps.splitJ (t := 81) (b := e.kind != 6) (x := (bif (e.kind != 7) then (e.kind != 16) else false)) (y := false) rfl (fun h9 => ?_) (fun h9 => ?_)
      · skip
        have h9' : e.kind ≠ 6 := (by have hh := bne_iff_ne.1 h9; omega)
        clear h9
        refine AOps.read ⟨81, rfl, rfl⟩ rfl (by decide) (Reader.fieldL rfl ⟨_, _, Tryd.underlying34, rfl, rfl, rfl, sizeOf_3⟩ (by decide) rfl) ?_
        refine AOps.read ⟨81, rfl, rfl⟩ rfl (by decide) (Reader.loadL rfl Tryd.underlying3 sizeOf_3 rfl rfl (v := .lit (.int .i64 e.kind)) rfl rfl) ?_
        refine AOps.read ⟨81, rfl, rfl⟩ rfl (by decide) (Reader.int rfl rfl rfl (r := .bool (e.kind != 7)) rfl) ?_
        refine AOps.read trivial rfl (by decide) (Reader.pick rfl (b := true) rfl (ok_const rfl) (ok_const rfl) (v := .lit (.bool (e.kind != 7))) rfl) ?_
        refine AOps.read trivial rfl (by decide) (Reader.move (.inl rfl) (ok_const rfl) (v := .lit (.bool (e.kind != 7))) rfl) ?_
        refine AOps.splitJ (t := 86) (b := e.kind != 7) (x := (e.kind != 16)) (y := false) rfl (fun h10 => ?_) (fun h10 => ?_)
        · skip
          have h10' : e.kind ≠ 7 := (by have hh := bne_iff_ne.1 h10; omega)
          clear h10
          refine AOps.read ⟨86, rfl, rfl⟩ rfl (by decide) (Reader.fieldL rfl ⟨_, _, Tryd.underlying34, rfl, rfl, rfl, sizeOf_3⟩ (by decide) rfl) ?_
          refine AOps.read ⟨86, rfl, rfl⟩ rfl (by decide) (Reader.loadL rfl Tryd.underlying3 sizeOf_3 rfl rfl (v := .lit (.int .i64 e.kind)) rfl rfl) ?_
          refine AOps.read ⟨86, rfl, rfl⟩ rfl (by decide) (Reader.int rfl rfl rfl (r := .bool (e.kind != 16)) rfl) ?_
          refine AOps.read trivial rfl (by decide) (Reader.pick rfl (b := true) rfl (ok_const rfl) (ok_const rfl) (v := .lit (.bool (e.kind != 16))) rfl) ?_
          exact AOps.nil rfl
        · skip
          have h10' : ¬ (e.kind ≠ 7) := (by have hh := bne_eq_false_iff_eq.1 h10; omega)
          clear h10
          refine AOps.skip ⟨8, true, 86, _, rfl, rfl, rfl, by simp⟩ rfl (by decide) ?_
          refine AOps.skip ⟨8, true, 86, _, rfl, rfl, rfl, by simp⟩ rfl (by decide) ?_
          refine AOps.skip ⟨8, true, 86, _, rfl, rfl, rfl, by simp⟩ rfl (by decide) ?_
          refine AOps.read trivial rfl (by decide) (Reader.pick rfl (b := false) rfl (ok_const rfl) (ok_const rfl) (v := .lit (.bool false)) rfl) ?_
          exact AOps.nil rfl
      · skip
        have h9' : ¬ (e.kind ≠ 6) := (by have hh := bne_eq_false_iff_eq.1 h9; omega)
        clear h9
        refine AOps.skip ⟨3, true, 81, _, rfl, rfl, rfl, by simp⟩ rfl (by decide) ?_
        refine AOps.skip ⟨3, true, 81, _, rfl, rfl, rfl, by simp⟩ rfl (by decide) ?_
        refine AOps.skip ⟨3, true, 81, _, rfl, rfl, rfl, by simp⟩ rfl (by decide) ?_
        refine AOps.read trivial rfl (by decide) (Reader.pick rfl (b := false) rfl (ok_const rfl) (ok_const rfl) (v := .lit (.bool false)) rfl) ?_
        refine AOps.read trivial rfl (by decide) (Reader.move (.inl rfl) (ok_const rfl) (v := .lit (.bool false)) rfl) ?_
        refine AOps.skip ⟨8, true, 86, _, rfl, rfl, rfl, by simp⟩ rfl (by decide) ?_
        refine AOps.skip ⟨8, true, 86, _, rfl, rfl, rfl, by simp⟩ rfl (by decide) ?_
        refine AOps.skip ⟨8, true, 86, _, rfl, rfl, rfl, by simp⟩ rfl (by decide) ?_
        refine AOps.read trivial rfl (by decide) (Reader.pick rfl (b := false) rfl (ok_const rfl) (ok_const rfl) (v := .lit (.bool false)) rfl) ?_
        exact AOps.nil rfl
    refine AWp.cond (b := bif (e.kind != 6) then (bif (e.kind != 7) then (e.kind != 16) else false) else false) rfl (fun h11 => ?_) (fun h11 => ?_)
    · skip
      have h11' : Named e.kind := (of_decide_eq_true (named_b.symm.trans h11))
      clear h11
      refine AWp.regionJ [6, 90, 0, 1, 2, 3, 4, 12, 13, 5] [3, 1] (fun z => ⟨(6, .lit (.bool z)) :: [(90, .lit (.bool (bif (e.kind != 6) then (bif (e.kind != 7) then (e.kind != 16) else false) else false))), (0, encE e), (1, .lptr 1 0), (2, .list true 9 []), (3, .lptr 3 0), (4, .lit (.bool false)), (12, .lit (.int .i64 e.kind)), (13, .lit (.bool (e.kind == 3))), (5, .list true 9 (ls.map AV.str))], [(3, [.lit (.int .i64 0), .str [], .lit (.int .i64 0), .lit (.int .i64 0)]), (1, [.lit (.int .i64 e.kind), .str e.id, .lit (.int .i64 sg2), .lit (.int .i64 n2)])], M⟩) (z := bif ok then (wordB e.id) else false) ?_ ?_
      · skip
        refine AOps.read trivial rfl (by decide) (Reader.move (.inl rfl) (ok_const rfl) (v := .lit (.bool ok)) rfl) ?_
        refine AOps.read trivial rfl (by decide) (Reader.move (.inl rfl) (ok_const rfl) (v := .lit (.bool ok)) rfl) ?_
        refine AOps.splitJ (t := 92) (b := ok) (x := (wordB e.id)) (y := false) rfl (fun h12 => ?_) (fun h12 => ?_)
        · skip
          refine AOps.read ⟨92, rfl, rfl⟩ rfl (by decide) (Reader.fieldL rfl ⟨_, _, Tryd.underlying34, rfl, rfl, rfl, sizeOf_9⟩ (by decide) rfl) ?_
          refine AOps.read ⟨92, rfl, rfl⟩ rfl (by decide) (Reader.loadL rfl Tryd.underlying9 sizeOf_9 rfl rfl (v := .str e.id) rfl rfl) ?_
          refine AOps.call (args := [.str e.id]) ⟨92, rfl, rfl⟩ rfl (by decide) rfl rfl Tryd.call100 (args_ok rfl) rfl (by intro j x v hx hv; match j, hx, hv with | 0, hx, hv => cases hx; cases hv; exact .inl ⟨rfl, rfl⟩ | _ + 1, hx, hv => cases hx) (Word_any e.id hid M) ?_
          rintro _ _ ⟨rfl, rfl⟩
          refine AOps.read trivial rfl (by decide) (Reader.pick rfl (b := true) rfl (ok_const rfl) (ok_const rfl) (v := .lit (.bool (wordB e.id))) rfl) ?_
          refine AOps.read trivial rfl (by decide) (Reader.move (.inr rfl) (ok_const rfl) (v := .lit (.bool (wordB e.id))) rfl) ?_
          exact AOps.nil rfl
        · skip
          refine AOps.skip ⟨1, true, 92, _, rfl, rfl, rfl, by simp⟩ rfl (by decide) ?_
          refine AOps.skip ⟨1, true, 92, _, rfl, rfl, rfl, by simp⟩ rfl (by decide) ?_
          refine AOps.skip ⟨1, true, 92, _, rfl, rfl, rfl, by simp⟩ rfl (by decide) ?_
          refine AOps.read trivial rfl (by decide) (Reader.pick rfl (b := false) rfl (ok_const rfl) (ok_const rfl) (v := .lit (.bool false)) rfl) ?_
          refine AOps.read trivial rfl (by decide) (Reader.move (.inr rfl) (ok_const rfl) (v := .lit (.bool false)) rfl) ?_
          exact AOps.nil rfl
      refine AWp.region ?_
      refine AOps.read trivial rfl (by decide) (Reader.fieldL rfl ⟨_, _, Tryd.underlying34, rfl, rfl, rfl, sizeOf_9⟩ (by decide) rfl) ?_
      refine AOps.storeL trivial rfl rfl rfl rfl sizeOf_9 (.inl ⟨rfl, rfl⟩) rfl (v := .str []) rfl (all_flat rfl) rfl (Nat.le_of_ble_eq_true rfl) ?_
      refine AOps.nil ?_
      exact ⟨_, _, rfl, by subst hok; first | (simp [okE, *]; done) | (simp [okE, *]; cases ok1E e <;> simp; done) | (cases ok1E e <;> simp_all [okE]; done), by first | (simp [restE, *]; done) | (rcases h5 with ⟨h5 | h5, rfl⟩ | ⟨h5, rfl⟩ <;> simp [restE, h5]; done) | (rcases (show e.kind = 6 ∨ e.kind = 7 by assumption) with h6 | h6 <;> simp [restE, h6]; done) | (simp_all [restE]; done)⟩
    · skip
      have h11' : ¬ Named e.kind := (of_decide_eq_false (named_b.symm.trans h11))
      clear h11
      refine AWp.skip ?_
      exact ⟨_, _, rfl, by subst hok; first | (simp [okE, *]; done) | (simp [okE, *]; cases ok1E e <;> simp; done) | (cases ok1E e <;> simp_all [okE]; done), by first | (simp [restE, *]; done) | (rcases h5 with ⟨h5 | h5, rfl⟩ | ⟨h5, rfl⟩ <;> simp [restE, h5]; done) | (rcases (show e.kind = 6 ∨ e.kind = 7 by assumption) with h6 | h6 <;> simp [restE, h6]; done) | (simp_all [restE]; done)⟩
  rintro _ ⟨ok2, id2, rfl, hok2, hid2⟩
  refine AWp.seq (AWp.anyR [0, 1, 2, 3, 4, 12, 13, 5, 90, 6] [3, 1] (⟨[(0, encE e), (1, .lptr 1 0), (2, .list true 9 (ls.map AV.str)), (3, .lptr 3 0), (4, .lit (.bool ok2)), (12, .lit (.int .i64 e.kind)), (13, .lit (.bool (e.kind == 3))), (5, .list false 9 (ls.map AV.str)), (90, .lit (.bool (bif (e.kind != 6) then (bif (e.kind != 7) then (e.kind != 16) else false) else false))), (6, .lit (.bool ok2))], [(3, [.lit (.int .i64 e.kind), .str id2, .lit (.int .i64 sg2), .lit (.int .i64 n2)]), (1, [.lit (.int .i64 e.kind), .str id2, .lit (.int .i64 sg2), .lit (.int .i64 n2)])], M⟩) (by kernel_rfl) ?_ ?_)
  · skip
    skip
    refine SAny.share 2 #[true, true, true, true, false, false] (⟨[(0, encE e), (1, .lptr 1 0), (2, .list true 9 (ls.map AV.str)), (3, .lptr 3 0), (4, .lit (.bool false)), (12, .lit (.int .i64 e.kind)), (13, .lit (.bool (e.kind == 3))), (5, .list false 9 (ls.map AV.str)), (90, .lit (.bool (bif (e.kind != 6) then (bif (e.kind != 7) then (e.kind != 16) else false) else false))), (6, .lit (.bool ok2)), (100, .lit (.bool ok2)), (99, .agg [.lit (.int .i64 e.kind), .str id2, .lit (.int .i64 sg2), .lit (.int .i64 n2)]), (98, .list false 9 (ls.map AV.str))], [(3, [.lit (.int .i64 0), .str [], .lit (.int .i64 0), .lit (.int .i64 0)]), (1, [.lit (.int .i64 e.kind), .str id2, .lit (.int .i64 sg2), .lit (.int .i64 n2)])], M⟩) ?_ (fun n0 => ?_)
    · skip
      refine SAny.step [4] (by kernel_rfl) (by decide) ?_
      intro iq hq; simp only [List.mem_cons, List.mem_nil_iff, or_false] at hq
      rcases hq with rfl
      · refine ⟨_, rfl, ?_⟩
        refine AOps.storeL trivial rfl rfl rfl rfl sizeOf_34 (.inl ⟨rfl, rfl⟩) rfl (v := .agg [.lit (.int .i64 e.kind), .str id2, .lit (.int .i64 sg2), .lit (.int .i64 n2)]) rfl (all_flat rfl) rfl (Nat.le_of_ble_eq_true rfl) ?_
        refine AOps.nil ?_
        refine SAny.take 5 rfl (by kernel_rfl) (by kernel_rfl) (by kernel_rfl) trivial rfl (by decide) (PReader.move (.inr rfl) (ok_const rfl) (v := .lit (.bool ok2)) rfl) ?_
        exact SAny.done (by kernel_rfl) rfl
    refine SAny.share 3 #[true, true, true, false, false, false] (⟨[(0, encE e), (1, .lptr 1 0), (2, .list true 9 []), (3, .lptr 3 0), (4, .lit (.bool false)), (12, .lit (.int .i64 e.kind)), (13, .lit (.bool (e.kind == 3))), (5, .list false 9 (ls.map AV.str)), (90, .lit (.bool (bif (e.kind != 6) then (bif (e.kind != 7) then (e.kind != 16) else false) else false))), (6, .lit (.bool ok2)), (100, .lit (.bool ok2)), (99, .agg [.lit (.int .i64 e.kind), .str id2, .lit (.int .i64 sg2), .lit (.int .i64 n2)]), (98, .list true 9 (ls.map AV.str))], [(3, [.lit (.int .i64 0), .str [], .lit (.int .i64 0), .lit (.int .i64 0)]), (1, [.lit (.int .i64 e.kind), .str id2, .lit (.int .i64 sg2), .lit (.int .i64 n2)])], M⟩) ?_ (fun n1 => ?_)
    · skip
      refine SAny.step [3] (by kernel_rfl) (by decide) ?_
      intro iq hq; simp only [List.mem_cons, List.mem_nil_iff, or_false] at hq
      rcases hq with rfl
      · refine ⟨_, rfl, ?_⟩
        refine AOps.steal trivial rfl (by decide) (by decide) (.inr rfl) (v := .list true 9 (ls.map AV.str)) rfl ?_
        refine AOps.nil ?_
        exact SAny.same [0, 1, 2, 3, 4, 12, 13, 5, 90, 6, 100, 99, 98] [3, 1] n0 (by kernel_rfl) rfl
    refine SAny.take 2 rfl (by kernel_rfl) (by kernel_rfl) (by kernel_rfl) trivial rfl (by decide) (PReader.move (.inl rfl) (ok_const rfl) (v := .lit (.bool ok2)) rfl) ?_
    refine SAny.step [0, 1] (by kernel_rfl) (by decide) ?_
    intro iq hq; simp only [List.mem_cons, List.mem_nil_iff, or_false] at hq
    rcases hq with rfl | rfl
    · refine ⟨_, rfl, ?_⟩
      refine AOps.steal trivial rfl (by decide) (by decide) (.inl rfl) (v := .list true 9 (ls.map AV.str)) rfl ?_
      refine AOps.nil ?_
      refine SAny.step [1, 3] (by kernel_rfl) (by decide) ?_
      intro iq hq; simp only [List.mem_cons, List.mem_nil_iff, or_false] at hq
      rcases hq with rfl | rfl
      · refine ⟨_, rfl, ?_⟩
        refine AOps.read trivial rfl (by decide) (Reader.loadL rfl Tryd.underlying34 sizeOf_34 rfl rfl (v := .agg [.lit (.int .i64 e.kind), .str id2, .lit (.int .i64 sg2), .lit (.int .i64 n2)]) rfl rfl) ?_
        refine AOps.nil ?_
        exact SAny.same [0, 1, 2, 3, 4, 12, 13, 5, 90, 6, 100, 99, 98] [3, 1] n1 (by kernel_rfl) rfl
      · refine ⟨_, rfl, ?_⟩
        refine AOps.steal trivial rfl (by decide) (by decide) (.inr rfl) (v := .list true 9 (ls.map AV.str)) rfl ?_
        refine AOps.nil ?_
        refine SAny.step [1] (by kernel_rfl) (by decide) ?_
        intro iq hq; simp only [List.mem_cons, List.mem_nil_iff, or_false] at hq
        rcases hq with rfl
        · refine ⟨_, rfl, ?_⟩
          refine AOps.read trivial rfl (by decide) (Reader.loadL rfl Tryd.underlying34 sizeOf_34 rfl rfl (v := .agg [.lit (.int .i64 e.kind), .str id2, .lit (.int .i64 sg2), .lit (.int .i64 n2)]) rfl rfl) ?_
          refine AOps.nil ?_
          exact SAny.same [0, 1, 2, 3, 4, 12, 13, 5, 90, 6, 100, 99, 98] [3, 1] n0 (by kernel_rfl) rfl
    · refine ⟨_, rfl, ?_⟩
      refine AOps.read trivial rfl (by decide) (Reader.loadL rfl Tryd.underlying34 sizeOf_34 rfl rfl (v := .agg [.lit (.int .i64 e.kind), .str id2, .lit (.int .i64 sg2), .lit (.int .i64 n2)]) rfl rfl) ?_
      refine AOps.nil ?_
      refine SAny.step [0] (by kernel_rfl) (by decide) ?_
      intro iq hq; simp only [List.mem_cons, List.mem_nil_iff, or_false] at hq
      rcases hq with rfl
      · refine ⟨_, rfl, ?_⟩
        refine AOps.steal trivial rfl (by decide) (by decide) (.inl rfl) (v := .list true 9 (ls.map AV.str)) rfl ?_
        refine AOps.nil ?_
        exact SAny.same [0, 1, 2, 3, 4, 12, 13, 5, 90, 6, 100, 99, 98] [3, 1] n1 (by kernel_rfl) rfl
  refine AWp.ret ?_
  exact ⟨.inl rfl, _, ResOf.tmpCellTmp 2 (.list true 9 (ls.map AV.str)) rfl (.inr ⟨_, _, rfl⟩) 3 3 0 4 34 _ _ (.agg [.lit (.int .i64 e.kind), .str id2, .lit (.int .i64 sg2), .lit (.int .i64 n2)]) rfl rfl Tryd.underlying34 sizeOf_34 rfl (Eq.refl true) 4 (.lit (.bool ok2)) rfl rfl (by decide), ⟨by rw [hls, hok2, hid2, hsg, hn2]; rfl, rfl⟩⟩

end Go.Proofs.YtlpihekflkjkfaaDoor
