/- Walks over abstract values, printed by my program av.py. -/
import Derived.Test.YtkdpehhdbjkljaaDoorFacts
namespace Go.Proofs.YtkdpehhdbjkljaaDoor
open Go.RowKit
theorem noEscape_run : ∀ (v : Value) (w : World), (callFunc 59 #[v]).run Tryd.prog w = .ok (.value v) w := fun _ _ => by kernel_rfl
set_option maxRecDepth 20000 in
theorem copyCheck_nil (M : Nat → Option (List AV)) (id : Nat) (hid : id % 10000 = 54) (c : AV) (M' : Nat → Option (List AV)) (hM : M id = some [.lit (.pointer none), c]) (hM' : setM M id [.gptr id 0, c] = M')  : ACall Tryd.prog 47 [.gptr id 0] M (fun r M1 => r = .tuple [] ∧ M1 = M') := by
  refine ACall.of Tryd.func47 rfl (n := 20) rfl rfl rfl ?_
  refine AWp.seq (AWp.region ?_)
  refine AOps.read trivial rfl (by decide) (Reader.move (.inl rfl) (ok_const rfl) (v := .gptr id 0) rfl) ?_
  refine AOps.read trivial rfl (by decide) (Reader.nilCheck (v := .gptr id 0) rfl rfl (.inr (.inl ⟨_, _, rfl⟩))) ?_
  refine AOps.read trivial rfl (by decide) (Reader.fieldG rfl ⟨_, _, Tryd.underlying54, rfl, rfl, rfl, sizeOf_52⟩ (by decide) rfl) ?_
  refine AOps.read trivial rfl (by decide) (Reader.loadG rfl Tryd.underlying52 sizeOf_52 rfl hM (v := .lit (.pointer none)) rfl rfl) ?_
  refine AOps.read trivial rfl (by decide) (Reader.eqPtr (b := true) (xv := .lit (.pointer none)) (yv := .lit (.pointer none)) rfl Tryd.underlying52 sizeOf_54 (by decide) rfl rfl (by simp [ptrEq]) (.inl ⟨rfl, rfl⟩)) ?_
  refine AOps.nil ?_
  refine AWp.cond (b := true) rfl (fun hx => ?_) (fun hx => by cases hx)
  refine AWp.region ?_
  refine AOps.read trivial rfl (by decide) (Reader.move (.inl rfl) (ok_const rfl) (v := .gptr id 0) rfl) ?_
  refine AOps.read trivial rfl (by decide) (Reader.move (.inl rfl) (ok_const rfl) (v := .gptr id 0) rfl) ?_
  refine AOps.read trivial rfl (by decide) (Reader.toUnsafe rfl Tryd.underlying52 Tryd.underlying84 sizeOf_54 (by decide) rfl hM (Nat.le_of_ble_eq_true rfl)) ?_
  refine AOps.read trivial rfl (by decide) (Reader.same rfl rfl rfl noEscape_run rfl) ?_
  refine AOps.read trivial rfl (by decide) (Reader.fromUnsafe rfl Tryd.underlying84 Tryd.underlying52 sizeOf_54 rfl hM (by assumption) (by kernel_rfl)) ?_
  refine AOps.read trivial rfl (by decide) (Reader.nilCheck (v := .gptr id 0) rfl rfl (.inr (.inl ⟨_, _, rfl⟩))) ?_
  refine AOps.read trivial rfl (by decide) (Reader.fieldG rfl ⟨_, _, Tryd.underlying54, rfl, rfl, rfl, sizeOf_52⟩ (by decide) rfl) ?_
  refine AOps.storeG trivial rfl rfl rfl hM sizeOf_52 (.inl ⟨rfl, rfl⟩) rfl (v := .gptr id 0) rfl (all_flat rfl) rfl (Nat.le_of_ble_eq_true rfl) rfl ?_
  refine AOps.nil ?_
  exact ⟨.inr rfl, _, ResOf.none, ⟨rfl, hM'⟩⟩

set_option maxRecDepth 20000 in
theorem copyCheck_used (M : Nat → Option (List AV)) (id : Nat) (hid : id % 10000 = 54) (c : AV) (hM : M id = some [.gptr id 0, c])  : ACall Tryd.prog 47 [.gptr id 0] M (fun r M1 => r = .tuple [] ∧ M1 = M) := by
  refine ACall.of Tryd.func47 rfl (n := 20) rfl rfl rfl ?_
  refine AWp.seq (AWp.region ?_)
  refine AOps.read trivial rfl (by decide) (Reader.move (.inl rfl) (ok_const rfl) (v := .gptr id 0) rfl) ?_
  refine AOps.read trivial rfl (by decide) (Reader.nilCheck (v := .gptr id 0) rfl rfl (.inr (.inl ⟨_, _, rfl⟩))) ?_
  refine AOps.read trivial rfl (by decide) (Reader.fieldG rfl ⟨_, _, Tryd.underlying54, rfl, rfl, rfl, sizeOf_52⟩ (by decide) rfl) ?_
  refine AOps.read trivial rfl (by decide) (Reader.loadG rfl Tryd.underlying52 sizeOf_52 rfl hM (v := .gptr id 0) rfl rfl) ?_
  refine AOps.read trivial rfl (by decide) (Reader.eqPtr (b := false) (xv := .gptr id 0) (yv := .lit (.pointer none)) rfl Tryd.underlying52 sizeOf_54 (by decide) rfl rfl (by simp [ptrEq]) (.inl ⟨rfl, rfl⟩)) ?_
  refine AOps.nil ?_
  refine AWp.cond (b := false) rfl (fun hx => by cases hx) (fun hx => ?_)
  refine AWp.seq (AWp.region ?_)
  refine AOps.read trivial rfl (by decide) (Reader.move (.inl rfl) (ok_const rfl) (v := .gptr id 0) rfl) ?_
  refine AOps.read trivial rfl (by decide) (Reader.nilCheck (v := .gptr id 0) rfl rfl (.inr (.inl ⟨_, _, rfl⟩))) ?_
  refine AOps.read trivial rfl (by decide) (Reader.fieldG rfl ⟨_, _, Tryd.underlying54, rfl, rfl, rfl, sizeOf_52⟩ (by decide) rfl) ?_
  refine AOps.read trivial rfl (by decide) (Reader.loadG rfl Tryd.underlying52 sizeOf_52 rfl hM (v := .gptr id 0) rfl rfl) ?_
  refine AOps.read trivial rfl (by decide) (Reader.move (.inl rfl) (ok_const rfl) (v := .gptr id 0) rfl) ?_
  refine AOps.read trivial rfl (by decide) (Reader.eqPtr (b := true) (xv := .gptr id 0) (yv := .gptr id 0) rfl Tryd.underlying52 sizeOf_54 (by decide) rfl rfl (by simp [ptrEq]) (.inr ⟨rfl, rfl⟩)) ?_
  refine AOps.nil ?_
  refine AWp.cond (b := false) rfl (fun hx => by cases hx) (fun hx => ?_)
  refine AWp.skip ?_
  exact ⟨.inr rfl, _, ResOf.none, ⟨rfl, rfl⟩⟩

theorem copyCheck_any (id : Nat) (hid : id % 10000 = 54) (p c : AV) (hp : p = .lit (.pointer none) ∨ p = .gptr id 0) (M M' : Nat → Option (List AV)) (hM : M id = some [p, c]) (hM' : setM M id [.gptr id 0, c] = M') : ACall Tryd.prog 47 [.gptr id 0] M (fun r M1 => r = .tuple [] ∧ M1 = M') := by
  rcases hp with rfl | rfl
  · exact copyCheck_nil M id hid c M' hM hM'
  · rw [setM_same hM] at hM'
    subst hM'
    exact copyCheck_used M id hid c hM

set_option maxRecDepth 20000 in
theorem WriteByte_nil (M : Nat → Option (List AV)) (id : Nat) (hid : id % 10000 = 54) (ch : UInt8) (p : AV) (hp : p = .lit (.pointer none) ∨ p = .gptr id 0) (M' : Nat → Option (List AV)) (hM : M id = some [p, .lit (.slice none 0 0)]) (hM' : setM M id [.gptr id 0, .list true 5 (byteAVs (([] : List UInt8) ++ [ch]))] = M')  : ACall Tryd.prog 34 [.gptr id 0, .lit (.int .u8 (ch.toNat : Int))] M (fun r M1 => r = .lit .nilIface ∧ M1 = M') := by
  refine ACall.of Tryd.func34 rfl (n := 17) rfl rfl rfl ?_
  refine AWp.seq (AWp.region ?_)
  refine AOps.read trivial rfl (by decide) (Reader.move (.inr rfl) (ok_const rfl) (v := .lit .nilIface) rfl) ?_
  refine AOps.nil ?_
  refine AWp.seq (AWp.region ?_)
  refine AOps.read trivial rfl (by decide) (Reader.move (.inl rfl) (ok_const rfl) (v := .gptr id 0) rfl) ?_
  refine AOps.call (args := [.gptr id 0]) trivial rfl (by decide) rfl rfl Tryd.call47 (args_ok rfl) rfl (by intro j x v hx hv; match j, hx, hv with | 0, hx, hv => cases hx; cases hv; exact .inl ⟨rfl, rfl⟩ | _ + 1, hx, hv => cases hx) (copyCheck_any id hid p (.lit (.slice none 0 0)) hp M (setM M id [.gptr id 0, .lit (.slice none 0 0)]) hM rfl) ?_
  rintro _ _ ⟨rfl, rfl⟩
  refine AOps.nil ?_
  refine AWp.seq (AWp.region ?_)
  refine AOps.read trivial rfl (by decide) (Reader.move (.inl rfl) (ok_const rfl) (v := .gptr id 0) rfl) ?_
  refine AOps.read trivial rfl (by decide) (Reader.move (.inl rfl) (ok_const rfl) (v := .gptr id 0) rfl) ?_
  refine AOps.read trivial rfl (by decide) (Reader.nilCheck (v := .gptr id 0) rfl rfl (.inr (.inl ⟨_, _, rfl⟩))) ?_
  refine AOps.read trivial rfl (by decide) (Reader.fieldG rfl ⟨_, _, Tryd.underlying54, rfl, rfl, rfl, sizeOf_22⟩ (by decide) rfl) ?_
  refine AOps.read trivial rfl (by decide) (Reader.loadG rfl Tryd.underlying22 sizeOf_22 rfl setM_get (v := .lit (.slice none 0 0)) rfl rfl) ?_
  refine AOps.read trivial rfl (by decide) (Reader.move (.inl rfl) (ok_const rfl) (v := .lit (.int .u8 (ch.toNat : Int))) rfl) ?_
  refine AOps.buildSlice (ys := [(0, .lit (.int .u8 (ch.toNat : Int)))]) (Es := []) (cs := [.lit (.int .u8 (ch.toNat : Int))]) (xs := (byteAVs [ch])) trivial rfl (by decide) rfl Tryd.underlying22 Tryd.i5 rfl rfl rfl (by decide) (by refine ⟨rfl, fun j p x hp hx => ?_⟩; match j, hp, hx with | 0, hp, hx => cases hp; cases hx; exact ⟨rfl, .inl ⟨rfl, rfl⟩, rfl, rfl⟩ | _ + 1, hp, hx => cases hp) rfl rfl rfl (all_len rfl) (all_sc rfl) rfl ?_
  refine AOps.asList (r := 11) 5 rfl ?_
  refine AOps.appL (bytes := 1) trivial rfl (by decide) (by decide) rfl rfl rfl rfl Tryd.underlying22 Tryd.underlying22 Tryd.i5 rfl rfl rfl rfl (xs := (byteAVs ([] : List UInt8))) (ys := (byteAVs [ch])) (zs := (byteAVs (([] : List UInt8) ++ [ch]))) rfl rfl (m1 := 0) (m2 := 1) rfl rfl (by first | omega | (unfold maxLen; omega)) (by omega) (by simp [byteAVs]) ?_
  refine AOps.read trivial rfl (by decide) (Reader.nilCheck (v := .gptr id 0) rfl rfl (.inr (.inl ⟨_, _, rfl⟩))) ?_
  refine AOps.read trivial rfl (by decide) (Reader.fieldG rfl ⟨_, _, Tryd.underlying54, rfl, rfl, rfl, sizeOf_22⟩ (by decide) rfl) ?_
  refine AOps.storeOwn trivial rfl rfl rfl setM_get sizeOf_22 rfl (Nat.le_of_ble_eq_true rfl) setM_setM ?_
  refine AOps.nil ?_
  refine AWp.seq (AWp.region ?_)
  refine AOps.read trivial rfl (by decide) (Reader.move (.inr rfl) (ok_const rfl) (v := .lit .nilIface) rfl) ?_
  refine AOps.nil ?_
  refine AWp.ret ?_
  exact ⟨.inl rfl, _, ResOf.one 4 (.lit .nilIface) rfl rfl, ⟨rfl, hM'⟩⟩

set_option maxRecDepth 20000 in
theorem WriteByte_list (M : Nat → Option (List AV)) (id : Nat) (hid : id % 10000 = 54) (l : List UInt8) (hl : l.length < 140737488355328) (ch : UInt8) (p : AV) (hp : p = .lit (.pointer none) ∨ p = .gptr id 0) (M' : Nat → Option (List AV)) (hM : M id = some [p, .list true 5 (byteAVs l)]) (hM' : setM M id [.gptr id 0, .list true 5 (byteAVs (l ++ [ch]))] = M')  : ACall Tryd.prog 34 [.gptr id 0, .lit (.int .u8 (ch.toNat : Int))] M (fun r M1 => r = .lit .nilIface ∧ M1 = M') := by
  refine ACall.of Tryd.func34 rfl (n := 17) rfl rfl rfl ?_
  refine AWp.seq (AWp.region ?_)
  refine AOps.read trivial rfl (by decide) (Reader.move (.inr rfl) (ok_const rfl) (v := .lit .nilIface) rfl) ?_
  refine AOps.nil ?_
  refine AWp.seq (AWp.region ?_)
  refine AOps.read trivial rfl (by decide) (Reader.move (.inl rfl) (ok_const rfl) (v := .gptr id 0) rfl) ?_
  refine AOps.call (args := [.gptr id 0]) trivial rfl (by decide) rfl rfl Tryd.call47 (args_ok rfl) rfl (by intro j x v hx hv; match j, hx, hv with | 0, hx, hv => cases hx; cases hv; exact .inl ⟨rfl, rfl⟩ | _ + 1, hx, hv => cases hx) (copyCheck_any id hid p (.list true 5 (byteAVs l)) hp M (setM M id [.gptr id 0, .list true 5 (byteAVs l)]) hM rfl) ?_
  rintro _ _ ⟨rfl, rfl⟩
  refine AOps.nil ?_
  refine AWp.seq (AWp.region ?_)
  refine AOps.read trivial rfl (by decide) (Reader.move (.inl rfl) (ok_const rfl) (v := .gptr id 0) rfl) ?_
  refine AOps.read trivial rfl (by decide) (Reader.move (.inl rfl) (ok_const rfl) (v := .gptr id 0) rfl) ?_
  refine AOps.read trivial rfl (by decide) (Reader.nilCheck (v := .gptr id 0) rfl rfl (.inr (.inl ⟨_, _, rfl⟩))) ?_
  refine AOps.read trivial rfl (by decide) (Reader.fieldG rfl ⟨_, _, Tryd.underlying54, rfl, rfl, rfl, sizeOf_22⟩ (by decide) rfl) ?_
  refine AOps.grabG trivial rfl (by decide) rfl Tryd.underlying22 rfl setM_get rfl rfl setM_setM ?_
  refine AOps.read trivial rfl (by decide) (Reader.move (.inl rfl) (ok_const rfl) (v := .lit (.int .u8 (ch.toNat : Int))) rfl) ?_
  refine AOps.buildSlice (ys := [(0, .lit (.int .u8 (ch.toNat : Int)))]) (Es := []) (cs := [.lit (.int .u8 (ch.toNat : Int))]) (xs := (byteAVs [ch])) trivial rfl (by decide) rfl Tryd.underlying22 Tryd.i5 rfl rfl rfl (by decide) (by refine ⟨rfl, fun j p x hp hx => ?_⟩; match j, hp, hx with | 0, hp, hx => cases hp; cases hx; exact ⟨rfl, .inl ⟨rfl, rfl⟩, rfl, rfl⟩ | _ + 1, hp, hx => cases hp) rfl rfl rfl (all_len rfl) (all_sc rfl) rfl ?_
  refine AOps.appL (bytes := 1) trivial rfl (by decide) (by decide) rfl rfl rfl rfl Tryd.underlying22 Tryd.underlying22 Tryd.i5 rfl rfl rfl rfl (xs := (byteAVs l)) (ys := (byteAVs [ch])) (zs := (byteAVs (l ++ [ch]))) rfl rfl (m1 := l.length) (m2 := 1) (byteAVs_len _) rfl (by first | omega | (unfold maxLen; omega)) (by omega) (by simp [byteAVs]) ?_
  refine AOps.read trivial rfl (by decide) (Reader.nilCheck (v := .gptr id 0) rfl rfl (.inr (.inl ⟨_, _, rfl⟩))) ?_
  refine AOps.read trivial rfl (by decide) (Reader.fieldG rfl ⟨_, _, Tryd.underlying54, rfl, rfl, rfl, sizeOf_22⟩ (by decide) rfl) ?_
  refine AOps.storeOwn trivial rfl rfl rfl setM_get sizeOf_22 rfl (Nat.le_of_ble_eq_true rfl) setM_setM ?_
  refine AOps.nil ?_
  refine AWp.seq (AWp.region ?_)
  refine AOps.read trivial rfl (by decide) (Reader.move (.inr rfl) (ok_const rfl) (v := .lit .nilIface) rfl) ?_
  refine AOps.nil ?_
  refine AWp.ret ?_
  exact ⟨.inl rfl, _, ResOf.one 4 (.lit .nilIface) rfl rfl, ⟨rfl, hM'⟩⟩

set_option maxRecDepth 20000 in
theorem WriteString_nil (M : Nat → Option (List AV)) (id : Nat) (hid : id % 10000 = 54) (t : List UInt8) (hl : t.length ≤ 140737488355328) (p : AV) (hp : p = .lit (.pointer none) ∨ p = .gptr id 0) (M' : Nat → Option (List AV)) (hM : M id = some [p, .lit (.slice none 0 0)]) (hM' : setM M id [.gptr id 0, .list true 5 (byteAVs (([] : List UInt8) ++ t))] = M')  : ACall Tryd.prog 35 [.gptr id 0, .str t] M (fun r M1 => r = .tuple [.lit (.int .i64 t.length), .lit .nilIface] ∧ M1 = M') := by
  refine ACall.of Tryd.func35 rfl (n := 19) rfl rfl rfl ?_
  refine AWp.seq (AWp.region ?_)
  refine AOps.read trivial rfl (by decide) (Reader.move (.inr rfl) (ok_const rfl) (v := .lit (.int .i64 0)) rfl) ?_
  refine AOps.read trivial rfl (by decide) (Reader.move (.inr rfl) (ok_const rfl) (v := .lit .nilIface) rfl) ?_
  refine AOps.nil ?_
  refine AWp.seq (AWp.region ?_)
  refine AOps.read trivial rfl (by decide) (Reader.move (.inl rfl) (ok_const rfl) (v := .gptr id 0) rfl) ?_
  refine AOps.call (args := [.gptr id 0]) trivial rfl (by decide) rfl rfl Tryd.call47 (args_ok rfl) rfl (by intro j x v hx hv; match j, hx, hv with | 0, hx, hv => cases hx; cases hv; exact .inl ⟨rfl, rfl⟩ | _ + 1, hx, hv => cases hx) (copyCheck_any id hid p (.lit (.slice none 0 0)) hp M (setM M id [.gptr id 0, .lit (.slice none 0 0)]) hM rfl) ?_
  rintro _ _ ⟨rfl, rfl⟩
  refine AOps.nil ?_
  refine AWp.seq (AWp.region ?_)
  refine AOps.read trivial rfl (by decide) (Reader.move (.inl rfl) (ok_const rfl) (v := .gptr id 0) rfl) ?_
  refine AOps.read trivial rfl (by decide) (Reader.move (.inl rfl) (ok_const rfl) (v := .gptr id 0) rfl) ?_
  refine AOps.read trivial rfl (by decide) (Reader.nilCheck (v := .gptr id 0) rfl rfl (.inr (.inl ⟨_, _, rfl⟩))) ?_
  refine AOps.read trivial rfl (by decide) (Reader.fieldG rfl ⟨_, _, Tryd.underlying54, rfl, rfl, rfl, sizeOf_22⟩ (by decide) rfl) ?_
  refine AOps.read trivial rfl (by decide) (Reader.loadG rfl Tryd.underlying22 sizeOf_22 rfl setM_get (v := .lit (.slice none 0 0)) rfl rfl) ?_
  refine AOps.read trivial rfl (by decide) (Reader.move (.inl rfl) (ok_const rfl) (v := .str t) rfl) ?_
  refine AOps.asList (r := 12) 5 rfl ?_
  refine AOps.appS (bytes := 1) trivial rfl (by decide) (by decide) rfl rfl rfl rfl Tryd.underlying22 Tryd.underlying9 Tryd.i5 rfl rfl rfl rfl (xs := (byteAVs ([] : List UInt8))) (l := t) (zs := (byteAVs (([] : List UInt8) ++ t))) rfl rfl (m1 := 0) (m2 := t.length) rfl rfl (by first | omega | (unfold maxLen; omega)) (by omega) (by simp [byteAVs]) ?_
  refine AOps.read trivial rfl (by decide) (Reader.nilCheck (v := .gptr id 0) rfl rfl (.inr (.inl ⟨_, _, rfl⟩))) ?_
  refine AOps.read trivial rfl (by decide) (Reader.fieldG rfl ⟨_, _, Tryd.underlying54, rfl, rfl, rfl, sizeOf_22⟩ (by decide) rfl) ?_
  refine AOps.storeOwn trivial rfl rfl rfl setM_get sizeOf_22 rfl (Nat.le_of_ble_eq_true rfl) setM_setM ?_
  refine AOps.nil ?_
  refine AWp.seq (AWp.region ?_)
  refine AOps.read trivial rfl (by decide) (Reader.move (.inl rfl) (ok_const rfl) (v := .str t) rfl) ?_
  refine AOps.read trivial rfl (by decide) (Reader.lenStr' (l := t) rfl rfl rfl rfl Tryd.underlying9 rfl (m := t.length) (by first | rfl | simp)) ?_
  refine AOps.read trivial rfl (by decide) (Reader.move (.inr rfl) (ok_const rfl) (v := .lit (.int .i64 (t.length : Int))) rfl) ?_
  refine AOps.read trivial rfl (by decide) (Reader.move (.inr rfl) (ok_const rfl) (v := .lit .nilIface) rfl) ?_
  refine AOps.nil ?_
  refine AWp.ret ?_
  exact ⟨.inl rfl, _, ResOf.two 4 5 (.lit (.int .i64 (t.length : Int))) (.lit .nilIface) rfl rfl (.inl rfl) (.inl rfl) (by decide), ⟨rfl, hM'⟩⟩

set_option maxRecDepth 20000 in
theorem WriteString_list (M : Nat → Option (List AV)) (id : Nat) (hid : id % 10000 = 54) (l t : List UInt8) (hl : l.length + t.length ≤ 140737488355328) (p : AV) (hp : p = .lit (.pointer none) ∨ p = .gptr id 0) (M' : Nat → Option (List AV)) (hM : M id = some [p, .list true 5 (byteAVs l)]) (hM' : setM M id [.gptr id 0, .list true 5 (byteAVs (l ++ t))] = M')  : ACall Tryd.prog 35 [.gptr id 0, .str t] M (fun r M1 => r = .tuple [.lit (.int .i64 t.length), .lit .nilIface] ∧ M1 = M') := by
  refine ACall.of Tryd.func35 rfl (n := 19) rfl rfl rfl ?_
  refine AWp.seq (AWp.region ?_)
  refine AOps.read trivial rfl (by decide) (Reader.move (.inr rfl) (ok_const rfl) (v := .lit (.int .i64 0)) rfl) ?_
  refine AOps.read trivial rfl (by decide) (Reader.move (.inr rfl) (ok_const rfl) (v := .lit .nilIface) rfl) ?_
  refine AOps.nil ?_
  refine AWp.seq (AWp.region ?_)
  refine AOps.read trivial rfl (by decide) (Reader.move (.inl rfl) (ok_const rfl) (v := .gptr id 0) rfl) ?_
  refine AOps.call (args := [.gptr id 0]) trivial rfl (by decide) rfl rfl Tryd.call47 (args_ok rfl) rfl (by intro j x v hx hv; match j, hx, hv with | 0, hx, hv => cases hx; cases hv; exact .inl ⟨rfl, rfl⟩ | _ + 1, hx, hv => cases hx) (copyCheck_any id hid p (.list true 5 (byteAVs l)) hp M (setM M id [.gptr id 0, .list true 5 (byteAVs l)]) hM rfl) ?_
  rintro _ _ ⟨rfl, rfl⟩
  refine AOps.nil ?_
  refine AWp.seq (AWp.region ?_)
  refine AOps.read trivial rfl (by decide) (Reader.move (.inl rfl) (ok_const rfl) (v := .gptr id 0) rfl) ?_
  refine AOps.read trivial rfl (by decide) (Reader.move (.inl rfl) (ok_const rfl) (v := .gptr id 0) rfl) ?_
  refine AOps.read trivial rfl (by decide) (Reader.nilCheck (v := .gptr id 0) rfl rfl (.inr (.inl ⟨_, _, rfl⟩))) ?_
  refine AOps.read trivial rfl (by decide) (Reader.fieldG rfl ⟨_, _, Tryd.underlying54, rfl, rfl, rfl, sizeOf_22⟩ (by decide) rfl) ?_
  refine AOps.grabG trivial rfl (by decide) rfl Tryd.underlying22 rfl setM_get rfl rfl setM_setM ?_
  refine AOps.read trivial rfl (by decide) (Reader.move (.inl rfl) (ok_const rfl) (v := .str t) rfl) ?_
  refine AOps.appS (bytes := 1) trivial rfl (by decide) (by decide) rfl rfl rfl rfl Tryd.underlying22 Tryd.underlying9 Tryd.i5 rfl rfl rfl rfl (xs := (byteAVs l)) (l := t) (zs := (byteAVs (l ++ t))) rfl rfl (m1 := l.length) (m2 := t.length) (byteAVs_len _) rfl (by first | omega | (unfold maxLen; omega)) (by omega) (by simp [byteAVs]) ?_
  refine AOps.read trivial rfl (by decide) (Reader.nilCheck (v := .gptr id 0) rfl rfl (.inr (.inl ⟨_, _, rfl⟩))) ?_
  refine AOps.read trivial rfl (by decide) (Reader.fieldG rfl ⟨_, _, Tryd.underlying54, rfl, rfl, rfl, sizeOf_22⟩ (by decide) rfl) ?_
  refine AOps.storeOwn trivial rfl rfl rfl setM_get sizeOf_22 rfl (Nat.le_of_ble_eq_true rfl) setM_setM ?_
  refine AOps.nil ?_
  refine AWp.seq (AWp.region ?_)
  refine AOps.read trivial rfl (by decide) (Reader.move (.inl rfl) (ok_const rfl) (v := .str t) rfl) ?_
  refine AOps.read trivial rfl (by decide) (Reader.lenStr' (l := t) rfl rfl rfl rfl Tryd.underlying9 rfl (m := t.length) (by first | rfl | simp)) ?_
  refine AOps.read trivial rfl (by decide) (Reader.move (.inr rfl) (ok_const rfl) (v := .lit (.int .i64 (t.length : Int))) rfl) ?_
  refine AOps.read trivial rfl (by decide) (Reader.move (.inr rfl) (ok_const rfl) (v := .lit .nilIface) rfl) ?_
  refine AOps.nil ?_
  refine AWp.ret ?_
  exact ⟨.inl rfl, _, ResOf.two 4 5 (.lit (.int .i64 (t.length : Int))) (.lit .nilIface) rfl rfl (.inl rfl) (.inl rfl) (by decide), ⟨rfl, hM'⟩⟩

/-- What a builder's buffer reads as. -/
def bufAV (l : List UInt8) : AV := if l = [] then .lit (.slice none 0 0) else .list true 5 (byteAVs l)
theorem bufAV_ne {l : List UInt8} (h : l ≠ []) : bufAV l = .list true 5 (byteAVs l) := if_neg h
theorem WriteByte_any (id : Nat) (hid : id % 10000 = 54) (l : List UInt8) (hl : l.length < 140737488355328) (ch : UInt8) (p : AV) (hp : p = .lit (.pointer none) ∨ p = .gptr id 0) (M M' : Nat → Option (List AV)) (hM : M id = some [p, bufAV l]) (hM' : setM M id [.gptr id 0, bufAV (l ++ [ch])] = M') :
    ACall Tryd.prog 34 [.gptr id 0, .lit (.int .u8 (ch.toNat : Int))] M (fun r M1 => r = .lit .nilIface ∧ M1 = M') := by
  rw [bufAV_ne (by simp)] at hM'
  by_cases h : l = []
  · subst h
    exact WriteByte_nil M id hid ch p hp M' hM hM'
  · rw [bufAV_ne h] at hM
    exact WriteByte_list M id hid l hl ch p hp M' hM hM'
theorem WriteString_any (id : Nat) (hid : id % 10000 = 54) (l t : List UInt8) (hl : l.length + t.length ≤ 140737488355328) (hne : l ++ t ≠ []) (p : AV) (hp : p = .lit (.pointer none) ∨ p = .gptr id 0) (M M' : Nat → Option (List AV)) (hM : M id = some [p, bufAV l]) (hM' : setM M id [.gptr id 0, bufAV (l ++ t)] = M') :
    ACall Tryd.prog 35 [.gptr id 0, .str t] M (fun r M1 => r = .tuple [.lit (.int .i64 t.length), .lit .nilIface] ∧ M1 = M') := by
  rw [bufAV_ne hne] at hM'
  by_cases h : l = []
  · subst h
    exact WriteString_nil M id hid t (by simpa using hl) p hp M' hM hM'
  · rw [bufAV_ne h] at hM
    exact WriteString_list M id hid l t hl p hp M' hM hM'

theorem WriteByte_to (id : Nat) (hid : id % 10000 = 54) (l l2 : List UInt8) (ch : UInt8) (h2 : l ++ [ch] = l2) (hl : l.length < 140737488355328) (p : AV) (hp : p = .lit (.pointer none) ∨ p = .gptr id 0) (M M' : Nat → Option (List AV)) (hM : M id = some [p, bufAV l]) (hM' : setM M id [.gptr id 0, bufAV l2] = M') :
    ACall Tryd.prog 34 [.gptr id 0, .lit (.int .u8 (ch.toNat : Int))] M (fun r M1 => r = .lit .nilIface ∧ M1 = M') := by
  subst h2
  exact WriteByte_any id hid l hl ch p hp M M' hM hM'
theorem WriteString_to (id : Nat) (hid : id % 10000 = 54) (l t l2 : List UInt8) (h2 : l ++ t = l2) (hne : l ++ t ≠ []) (hl : l.length + t.length ≤ 140737488355328) (p : AV) (hp : p = .lit (.pointer none) ∨ p = .gptr id 0) (M M' : Nat → Option (List AV)) (hM : M id = some [p, bufAV l]) (hM' : setM M id [.gptr id 0, bufAV l2] = M') :
    ACall Tryd.prog 35 [.gptr id 0, .str t] M (fun r M1 => r = .tuple [.lit (.int .i64 t.length), .lit .nilIface] ∧ M1 = M') := by
  subst h2
  exact WriteString_any id hid l t hl hne p hp M M' hM hM'

end Go.Proofs.YtkdpehhdbjkljaaDoor
