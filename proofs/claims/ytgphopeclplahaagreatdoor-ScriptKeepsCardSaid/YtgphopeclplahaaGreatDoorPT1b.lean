/- T1b. -/
import Derived.Test.YtgphopeclplahaaGreatDoorPT1
set_option maxHeartbeats 8000000
namespace Go.Proofs.YtgphopeclplahaaGreatDoor
open Go.RowKit
def g_ref03_Read_k2 (x5 : Int) : Option (Int × Bool) :=
 some (w64 x5, true)
def g_ref03_Read_l3 (k390 : Int → Option (Int × Bool)) : Nat → Int → Int → Option (Int × Bool)
 | 0, _, _ => none
 | m3 + 1, x6, x7 =>
  bif decide (x6 > 1075) then
   (g_ref03_Read_l3 k390 m3) (w64 (x6 - 1)) (IntKind.u64.wrap (x7 * 2))
  else
   k390 x7
def g_ref03_Read_k1 (x3 : Int) (x4 : Int) : Option (Int × Bool) :=
 g_ref03_Read_l3 g_ref03_Read_k2 FUEL x3 x4
def g_ref03_Read_l4 (k490 : Int → Int → Option (Int × Bool)) : Nat → Int → Int → Option (Int × Bool)
 | 0, _, _ => none
 | m4 + 1, x8, x9 =>
  bif decide (x8 < 1075) then
   (g_ref03_Read_l4 k490 m4) (w64 (x8 + 1)) (IntKind.u64.wrap (x9.tdiv 2))
  else
   k490 x8 x9
def g_ref03_Read (a0 : Nat) : Option (Int × Bool) :=
 bO (g_ref03_Kind a0) fun v1 =>
 bif v1 == 1 then
  some (0, false)
 else
  bif decide (v1 ≤ 5) then
   some (0, true)
  else
   bO (g_ref03_parts a0) fun v2 =>
   bif decide (v2.2.1 ≥ 1086) then
    some (9223372036854775807, true)
   else
    bif decide (v2.2.1 < 1023) then
     some (0, true)
    else
     g_ref03_Read_l4 g_ref03_Read_k1 FUEL v2.2.1 (IntKind.u64.wrap (v2.2.2 + 4503599627370496))
def g_ref05_Digits_r : Nat → Int → Option (List UInt8)
 | 0, _ => none
 | m + 1, a0 =>
  bif decide (a0 < 10) then
   some [u8 (w64 (48 + a0))]
  else
   bO (g_ref05_Digits_r m (w64 (a0.tdiv 10))) fun v1 =>
   bO (g_ref05_Digits_r m (a0.tmod 10)) fun v2 =>
   bO (appO v1 v2) fun v3 =>
   some v3
def g_ref05_Digits (a0 : Int) : Option (List UInt8) := g_ref05_Digits_r FUEL a0
def g_ref05_Print_k1 (a0 : Int) (x2 : List UInt8) : Option (List UInt8) :=
 bO (g_ref05_Unit x2) fun v3 =>
 bO (quoO .i64 a0 v3) fun v4 =>
 bO (g_ref05_Digits v4) fun v5 =>
 bO (appO v5 x2) fun v6 =>
 some v6
def g_ref05_Print_k3 (x8 : Int) (q2 : (List UInt8) → Int → Option (List UInt8)) (x9 : List UInt8) : Option (List UInt8) :=
 q2 x9 (w64 (x8 - 1))
def g_ref05_Print_l2 (a0 : Int) (v1 : List (List UInt8)) (k290 : (List UInt8) → Option (List UInt8)) : Nat → (List UInt8) → Int → Option (List UInt8)
 | 0, _, _ => none
 | m2 + 1, x7, x8 =>
  bif decide (x8 ≥ 0) then
   bO (idx v1 x8) fun v10 =>
   bO (g_ref05_Unit v10) fun v11 =>
   bO (remO a0 v11) fun v12 =>
   bif v12 == 0 then
    bO (idx v1 x8) fun v13 =>
    g_ref05_Print_k3 x8 (g_ref05_Print_l2 a0 v1 k290 m2) v13
   else
    g_ref05_Print_k3 x8 (g_ref05_Print_l2 a0 v1 k290 m2) x7
  else
   k290 x7
def g_ref05_Print (a0 : Int) : Option (List UInt8) :=
 bif decide (a0 ≤ 0) then
  some [48]
 else
  bO (g_ref05_Names) fun v1 =>
  g_ref05_Print_l2 a0 v1 (g_ref05_Print_k1 a0) FUEL ([] : List UInt8) 7
def g_ref26_Show (a0 : Nat) : Option ((List UInt8) × Bool) :=
 bO (g_ref03_Kind a0) fun v1 =>
 bif v1 == 1 then
  some ([110, 97, 110], true)
 else
  bif v1 == 2 then
   some ([45, 105, 110, 102], true)
  else
   bif v1 == 7 then
    some ([105, 110, 102], true)
   else
    bif v1 == 4 then
     some ([45, 48], true)
    else
     bO (g_ref03_Read a0) fun v2 =>
     bO (bif ((v1 == 3) || (decide (v2.1 > 9007199254740992))) then some default else (g_ref03_Alike (FloatKind.f64.nearest v2.1) a0)) fun v3 =>
     bif ((v1 == 3) || (decide (v2.1 > 9007199254740992))) || (!v3) then
      some (([] : List UInt8), false)
     else
      bO (g_ref05_Print v2.1) fun v4 =>
      some (v4, true)
def g_ref04_Readable_k1 (a0 : List UInt8) : Option Bool :=
 some (decide ((a0.length : Int) ≤ 65536))
def g_ref04_Readable_l2 (a0 : List UInt8) (k290 : Option Bool) : Nat → Int → Option Bool
 | 0, _ => none
 | m2 + 1, x1 =>
  bif decide (x1 < (a0.length : Int)) then
   bO (idx a0 x1) fun v2 =>
   bif !(((((v2.toNat : Int) == 9) || ((v2.toNat : Int) == 10)) || ((v2.toNat : Int) == 13)) || ((decide ((v2.toNat : Int) ≥ 32)) && (decide ((v2.toNat : Int) ≤ 126)))) then
    some false
   else
    (g_ref04_Readable_l2 a0 k290 m2) (w64 (x1 + 1))
  else
   k290
def g_ref04_Readable (a0 : List UInt8) : Option Bool :=
 g_ref04_Readable_l2 a0 (g_ref04_Readable_k1 a0) FUEL 0
theorem g_ref04_Readable_w {a0 : List UInt8} {r : Bool} (h : g_ref04_Readable a0 = some r) : PCall Tryz.prog 29 [.list false 5 (a0.map zU8)] (zB r) := by
 refine PCall.body Tryz.func29 rfl rfl rfl rfl fun base => ?_
 unfold g_ref04_Readable at h
 refine CWp.seq (CWp.region ?_)
 refine rn 1 rfl (COps.done [0] [] rfl ?_)
 refine CWp.mid (fun e => e = ⟨[(0, [], .list false 5 (a0.map zU8))], [], [], [], base⟩ ∧ g_ref04_Readable_k1 a0 = some r) ?_ ?_
 ·refine CWp.seq (CWp.region ?_)
  refine rn 1 rfl (COps.done [0, 3] [] rfl ?_)
  refine CWp.block ?_
  refine CWp.loop (fun m2 e => ∃ x1, e = ⟨[(0, [], .list false 5 (a0.map zU8)), (3, [], zI x1)], [], [], [], base⟩ ∧ g_ref04_Readable_l2 a0 (g_ref04_Readable_k1 a0) m2 x1 = some r) FUEL ⟨_, rfl, h⟩ ?_ ?_
  ·rintro m2 _ ⟨x1, rfl, h⟩
   rw [g_ref04_Readable_l2] at h
   refine CWp.seq (CWp.seq (CWp.region ?_))
   refine rh 4 [a0.length] [] rfl ⟨List.length_map .., trivial⟩ ?_
   refine COps.done [0, 3, 8] [] rfl ?_
   refine CWp.cond h rfl (fun h => ?_) (fun h => ?_)
   ·refine CWp.skip ?_
    refine CWp.seq (CWp.block ?_)
    refine CWp.seq (CWp.region ?_)
    obtain ⟨v2, hv2, h⟩ := bI h
    refine rn 2 rfl ?_
    refine rd (rIx hv2) ?_
    refine rn 2 rfl (COps.done [0, 3, 4] [] rfl ?_)
    refine CWp.seq (CWp.region ?_)
    refine rn 19 rfl (COps.done [0, 3, 33] [] rfl ?_)
    refine CWp.cond h rfl (fun h => ?_) (fun h => ?_)
    ·refine CWp.seq (CWp.region ?_)
     refine rn 1 rfl (COps.done [2] [] rfl ?_)
     refine CWp.ret ?_
     cases h
     exact ⟨.inl rfl, rfl, rfl⟩
    ·refine CWp.skip ?_
     refine CWp.region ?_
     refine rn 3 rfl (COps.done [0, 3] [] rfl ?_)
     exact ⟨_, rfl, h⟩
   ·refine CWp.keep [0] [] rfl ?_
    refine CWp.exit ?_
    exact ⟨rfl, h⟩
  ·rintro _ ⟨_, _, h⟩
   rw [g_ref04_Readable_l2] at h; cases h
 ·rintro _ ⟨rfl, h⟩
  unfold g_ref04_Readable_k1 at h
  refine CWp.seq (CWp.region ?_)
  refine rh 4 [a0.length] [] rfl ⟨List.length_map .., trivial⟩ ?_
  refine COps.done [2] [] rfl ?_
  refine CWp.ret ?_
  cases h
  exact ⟨.inl rfl, rfl, rfl⟩
def g_ref04_Lines_k1 (x1 : List (List SField)) : Option (List (List SField)) :=
 some x1
def g_ref04_Lines_k3 (x4 : Int) (x7 : Int) (q2 : (List (List SField)) → (List SField) → Int → Int → Bool → Int → Option (List (List SField))) (x9 : List (List SField)) : Option (List (List SField)) :=
 q2 x9 ([] : List SField) (w64 (x4 + 1)) (w64 (x7 + 1)) false (w64 (x7 + 1))
def g_ref04_Lines_k4 (a0 : List UInt8) (x2 : List (List SField)) (x3 : List SField) (x4 : Int) (x5 : Int) (x6 : Bool) (x7 : Int) (q2 : (List (List SField)) → (List SField) → Int → Int → Bool → Int → Option (List (List SField))) (x15 : Int) : Option (List (List SField)) :=
 bO (slO a0 x7 x15) fun v16 =>
 bO (appO x3 [(⟨v16, x4, w64 ((w64 (x7 - x5)) + 1)⟩ : SField)]) fun v17 =>
 q2 x2 v17 x4 x5 x6 x15
def g_ref04_Lines_l5 (a0 : List UInt8) (k590 : Int → Option (List (List SField))) : Nat → Int → Option (List (List SField))
 | 0, _ => none
 | m5 + 1, x18 =>
  bO (bif (decide (x18 < (a0.length : Int))) then (idx a0 x18) else some default) fun v19 =>
  bif (decide (x18 < (a0.length : Int))) && (decide ((v19.toNat : Int) > 32)) then
   (g_ref04_Lines_l5 a0 k590 m5) (w64 (x18 + 1))
  else
   k590 x18
def g_ref04_Lines_l2 (a0 : List UInt8) (k290 : (List (List SField)) → Option (List (List SField))) : Nat → (List (List SField)) → (List SField) → Int → Int → Bool → Int → Option (List (List SField))
 | 0, _, _, _, _, _, _ => none
 | m2 + 1, x2, x3, x4, x5, x6, x7 =>
  bif decide (x7 ≤ (a0.length : Int)) then
   bO (bif (x7 == (a0.length : Int)) then some default else (idx a0 x7)) fun v8 =>
   bif (x7 == (a0.length : Int)) || ((v8.toNat : Int) == 10) then
    bif decide ((x3.length : Int) > 0) then
     bO (appO x2 [x3]) fun v10 =>
     g_ref04_Lines_k3 x4 x7 (g_ref04_Lines_l2 a0 k290 m2) v10
    else
     g_ref04_Lines_k3 x4 x7 (g_ref04_Lines_l2 a0 k290 m2) x2
   else
    bO (bif x6 then some default else (idx a0 x7)) fun v11 =>
    bO (bif (x6 || ((v11.toNat : Int) == 9)) then some default else (idx a0 x7)) fun v12 =>
    bO (bif ((x6 || ((v11.toNat : Int) == 9)) || ((v12.toNat : Int) == 13)) then some default else (idx a0 x7)) fun v13 =>
    bif ((x6 || ((v11.toNat : Int) == 9)) || ((v12.toNat : Int) == 13)) || ((v13.toNat : Int) == 32) then
     (g_ref04_Lines_l2 a0 k290 m2) x2 x3 x4 x5 x6 (w64 (x7 + 1))
    else
     bO (idx a0 x7) fun v14 =>
     bif (v14.toNat : Int) == 35 then
      (g_ref04_Lines_l2 a0 k290 m2) x2 x3 x4 x5 true x7
     else
      g_ref04_Lines_l5 a0 (g_ref04_Lines_k4 a0 x2 x3 x4 x5 x6 x7 (g_ref04_Lines_l2 a0 k290 m2)) FUEL x7
  else
   k290 x2
def g_ref04_Lines (a0 : List UInt8) : Option (List (List SField)) :=
 g_ref04_Lines_l2 a0 g_ref04_Lines_k1 FUEL ([] : List (List SField)) ([] : List SField) 1 0 false 0
theorem g_ref04_Lines_w {a0 : List UInt8} {r : List (List SField)} (h : g_ref04_Lines a0 = some r) : PCall Tryz.prog 44 [.list false 5 (a0.map zU8)] (.list true 75 (r.map (fun x => .list false 81 (x.map eSField)))) := by
 refine PCall.body Tryz.func44 rfl rfl rfl rfl fun base => ?_
 unfold g_ref04_Lines at h
 refine CWp.seq (CWp.region ?_)
 refine rn 1 rfl (COps.done [0] [] rfl ?_)
 refine CWp.seq (CWp.region ?_)
 refine rn 1 rfl (COps.done [0, 3] [] rfl ?_)
 refine CWp.seq (CWp.region ?_)
 refine rn 1 rfl (COps.done [0, 3, 4] [] rfl ?_)
 refine CWp.seq (CWp.region ?_)
 refine rn 1 rfl (COps.done [0, 3, 4, 5] [] rfl ?_)
 refine CWp.seq (CWp.region ?_)
 refine rn 1 rfl (COps.done [0, 3, 4, 5, 6] [] rfl ?_)
 refine CWp.seq (CWp.region ?_)
 refine rn 1 rfl (COps.done [0, 3, 4, 5, 6, 7] [] rfl ?_)
 refine CWp.seq (CWp.region ?_)
 refine rn 1 rfl (COps.done [0, 3, 4, 5, 6, 7, 8] [] rfl ?_)
 refine CWp.mid (fun e => ∃ x1, e = ⟨[(3, [], .list true 75 (x1.map (fun x => .list false 81 (x.map eSField))))], [], [], [], base⟩ ∧ g_ref04_Lines_k1 x1 = some r) ?_ ?_
 ·refine CWp.block ?_
  refine CWp.loop (fun m2 e => ∃ x2 x3 x4 x5 x6 x7, e = ⟨[(0, [], .list false 5 (a0.map zU8)), (3, [], .list true 75 (x2.map (fun x => .list false 81 (x.map eSField)))), (4, [], .list true 81 (x3.map eSField)), (5, [], zI x4), (6, [], zI x5), (7, [], zB x6), (8, [], zI x7)], [], [], [], base⟩ ∧ g_ref04_Lines_l2 a0 (g_ref04_Lines_k1) m2 x2 x3 x4 x5 x6 x7 = some r) FUEL ⟨_, _, _, _, _, _, rfl, h⟩ ?_ ?_
  ·rintro m2 _ ⟨x2, x3, x4, x5, x6, x7, rfl, h⟩
   rw [g_ref04_Lines_l2] at h
   refine CWp.seq (CWp.seq (CWp.region ?_))
   refine rh 4 [a0.length] [] rfl ⟨List.length_map .., trivial⟩ ?_
   refine COps.done [0, 3, 4, 5, 6, 7, 8, 13] [] rfl ?_
   refine CWp.cond h rfl (fun h => ?_) (fun h => ?_)
   ·refine CWp.skip ?_
    refine CWp.block ?_
    refine CWp.seq (CWp.seq (CWp.region ?_))
    obtain ⟨v8, hv8, h⟩ := bI h
    refine rh 7 [a0.length] [] rfl ⟨List.length_map .., trivial⟩ ?_
    refine rdg 18 false [] (fun ht => rIx (gdf hv8 (ht.1 _ rfl))) ?_
    refine rn 3 rfl (COps.done [0, 3, 4, 5, 6, 7, 8, 24] [] rfl ?_)
    refine CWp.cond h rfl (fun h => ?_) (fun h => ?_)
    ·refine CWp.mid (fun e => ∃ x9, e = ⟨[(0, [], .list false 5 (a0.map zU8)), (3, [], .list true 75 (x9.map (fun x => .list false 81 (x.map eSField)))), (5, [], zI x4), (8, [], zI x7)], [], [], [], base⟩ ∧ g_ref04_Lines_k3 x4 x7 (g_ref04_Lines_l2 a0 (g_ref04_Lines_k1) m2) x9 = some r) ?_ ?_
     ·refine CWp.seq (CWp.region ?_)
      refine rh 3 [x3.length] [] rfl ⟨List.length_map .., trivial⟩ ?_
      refine COps.done [0, 3, 4, 5, 8, 27] [] rfl ?_
      refine CWp.cond h rfl (fun h => ?_) (fun h => ?_)
      ·refine CWp.region ?_
       obtain ⟨v10, hv10, h⟩ := bI h
       refine rh 3 [] [28] rfl trivial ?_
       refine cApp hv10 ?_
       refine rh 1 [] [3] rfl trivial ?_
       refine COps.done [0, 3, 5, 8] [] rfl ?_
       exact ⟨_, rfl, h⟩
      ·refine CWp.keep [0, 3, 5, 8] [] rfl ?_
       refine CWp.skip ?_
       exact ⟨_, rfl, h⟩
     ·rintro _ ⟨x9, rfl, h⟩
      unfold g_ref04_Lines_k3 at h
      refine CWp.seq (CWp.region ?_)
      refine rn 1 rfl (COps.done [0, 3, 4, 5, 8] [] rfl ?_)
      refine CWp.seq (CWp.region ?_)
      refine rn 3 rfl (COps.done [0, 3, 4, 5, 8] [] rfl ?_)
      refine CWp.seq (CWp.region ?_)
      refine rn 3 rfl (COps.done [0, 3, 4, 5, 8] [] rfl ?_)
      refine CWp.seq (CWp.region ?_)
      refine rn 2 rfl (COps.done [0, 3, 4, 5, 6, 8] [] rfl ?_)
      refine CWp.seq (CWp.region ?_)
      refine rn 1 rfl (COps.done [0, 3, 4, 5, 6, 7, 8] [] rfl ?_)
      refine CWp.exit ?_
      exact ⟨_, _, _, _, _, _, rfl, h⟩
    ·refine CWp.skip ?_
     refine CWp.seq (CWp.seq (CWp.region ?_))
     obtain ⟨v11, hv11, h⟩ := bI h
     refine rn 4 rfl ?_
     refine rdg 38 false [] (fun ht => rIx (gdf hv11 (ht.1 _ rfl))) ?_
     obtain ⟨v12, hv12, h⟩ := bI h
     refine rn 6 rfl ?_
     refine rdg 45 false [] (fun ht => rIx (gdf hv12 (ht.1 _ rfl))) ?_
     obtain ⟨v13, hv13, h⟩ := bI h
     refine rn 6 rfl ?_
     refine rdg 52 false [] (fun ht => rIx (gdf hv13 (ht.1 _ rfl))) ?_
     refine rn 3 rfl (COps.done [0, 3, 4, 5, 6, 7, 8, 58] [] rfl ?_)
     refine CWp.cond h rfl (fun h => ?_) (fun h => ?_)
     ·refine CWp.seq (CWp.region ?_)
      refine rn 3 rfl (COps.done [0, 3, 4, 5, 6, 7, 8] [] rfl ?_)
      refine CWp.exit ?_
      exact ⟨_, _, _, _, _, _, rfl, h⟩
     ·refine CWp.skip ?_
      refine CWp.seq (CWp.seq (CWp.region ?_))
      obtain ⟨v14, hv14, h⟩ := bI h
      refine rn 2 rfl ?_
      refine rd (rIx hv14) ?_
      refine rn 2 rfl (COps.done [0, 3, 4, 5, 6, 7, 8, 65] [] rfl ?_)
      refine CWp.cond h rfl (fun h => ?_) (fun h => ?_)
      ·refine CWp.seq (CWp.region ?_)
       refine rn 1 rfl (COps.done [0, 3, 4, 5, 6, 7, 8] [] rfl ?_)
       refine CWp.exit ?_
       exact ⟨_, _, _, _, _, _, rfl, h⟩
      ·refine CWp.skip ?_
       refine CWp.seq (CWp.region ?_)
       refine rn 2 rfl (COps.done [0, 3, 4, 5, 6, 7, 8, 9] [] rfl ?_)
       refine CWp.mid (fun e => ∃ x15, e = ⟨[(0, [], .list false 5 (a0.map zU8)), (3, [], .list true 75 (x2.map (fun x => .list false 81 (x.map eSField)))), (4, [], .list true 81 (x3.map eSField)), (5, [], zI x4), (6, [], zI x5), (7, [], zB x6), (8, [], zI x7), (9, [], zI x15)], [], [], [], base⟩ ∧ g_ref04_Lines_k4 a0 x2 x3 x4 x5 x6 x7 (g_ref04_Lines_l2 a0 (g_ref04_Lines_k1) m2) x15 = some r) ?_ ?_
       ·refine CWp.block ?_
        refine CWp.loop (fun m5 e => ∃ x18, e = ⟨[(0, [], .list false 5 (a0.map zU8)), (3, [], .list true 75 (x2.map (fun x => .list false 81 (x.map eSField)))), (4, [], .list true 81 (x3.map eSField)), (5, [], zI x4), (6, [], zI x5), (7, [], zB x6), (8, [], zI x7), (9, [], zI x18)], [], [], [], base⟩ ∧ g_ref04_Lines_l5 a0 (g_ref04_Lines_k4 a0 x2 x3 x4 x5 x6 x7 (g_ref04_Lines_l2 a0 (g_ref04_Lines_k1) m2)) m5 x18 = some r) FUEL ⟨_, rfl, h⟩ ?_ ?_
        ·rintro m5 _ ⟨x18, rfl, h⟩
         rw [g_ref04_Lines_l5] at h
         refine CWp.seq (CWp.seq (CWp.region ?_))
         obtain ⟨v19, hv19, h⟩ := bI h
         refine rh 7 [a0.length] [] rfl ⟨List.length_map .., trivial⟩ ?_
         refine rdg 71 true [] (fun ht => rIx (gd hv19 (ht.1 _ rfl))) ?_
         refine rn 3 rfl (COps.done [0, 3, 4, 5, 6, 7, 8, 9, 77] [] rfl ?_)
         refine CWp.cond h rfl (fun h => ?_) (fun h => ?_)
         ·refine CWp.skip ?_
          refine CWp.block ?_
          refine CWp.region ?_
          refine rn 3 rfl (COps.done [0, 3, 4, 5, 6, 7, 8, 9] [] rfl ?_)
          exact ⟨_, rfl, h⟩
         ·refine CWp.keep [0, 3, 4, 5, 6, 7, 8, 9] [] rfl ?_
          refine CWp.exit ?_
          exact ⟨_, rfl, h⟩
        ·rintro _ ⟨_, _, h⟩
         rw [g_ref04_Lines_l5] at h; cases h
       ·rintro _ ⟨x15, rfl, h⟩
        unfold g_ref04_Lines_k4 at h
        refine CWp.seq (CWp.region ?_)
        obtain ⟨v16, hv16, h⟩ := bI h
        refine rh 4 [] [80] rfl trivial ?_
        refine rd (rPc hv16) ?_
        refine rd (rStr (l := v16)) ?_
        obtain ⟨v17, hv17, h⟩ := bI h
        refine rn 7 rfl ?_
        refine cApp hv17 ?_
        refine rh 1 [] [4] rfl trivial ?_
        refine COps.done [0, 3, 4, 5, 6, 7, 9] [] rfl ?_
        refine CWp.region ?_
        refine rn 2 rfl (COps.done [0, 3, 4, 5, 6, 7, 8] [] rfl ?_)
        exact ⟨_, _, _, _, _, _, rfl, h⟩
   ·refine CWp.keep [3] [] rfl ?_
    refine CWp.exit ?_
    exact ⟨_, rfl, h⟩
  ·rintro _ ⟨_, _, _, _, _, _, _, h⟩
   rw [g_ref04_Lines_l2] at h; cases h
 ·rintro _ ⟨x1, rfl, h⟩
  unfold g_ref04_Lines_k1 at h
  refine CWp.seq (CWp.region ?_)
  refine rh 2 [] [95, 2] rfl trivial ?_
  refine COps.done [2] [] rfl ?_
  refine CWp.ret ?_
  cases h
  exact ⟨.inl rfl, rfl, rfl⟩
def g_ref26_Whole_k2 (x1 : Int) (x4 : Int) : Option (Int × Bool) :=
 bif decide (x4 > 1099511627776) then
  some (0, false)
 else
  bif x1 == 1 then
   some (w64 (0 - x4), true)
  else
   some (x4, true)
def g_ref26_Whole_l3 (v2 : List UInt8) (k390 : Int → Option (Int × Bool)) : Nat → Int → Int → Option (Int × Bool)
 | 0, _, _ => none
 | m3 + 1, x5, x6 =>
  bif decide (x6 < (v2.length : Int)) then
   bO (idx v2 x6) fun v7 =>
   bif (decide ((v7.toNat : Int) < 48)) || (decide ((v7.toNat : Int) > 57)) then
    some (0, false)
   else
    bO (idx v2 x6) fun v8 =>
    (g_ref26_Whole_l3 v2 k390 m3) (w64 ((w64 ((w64 (10 * x5)) + (w64 (v8.toNat : Int)))) - 48)) (w64 (x6 + 1))
  else
   k390 x5
def g_ref26_Whole_k1 (a0 : List UInt8) (x1 : Int) : Option (Int × Bool) :=
 bO (slO a0 x1 (a0.length : Int)) fun v2 =>
 bO (bif (((v2.length : Int) == 0) || (decide ((v2.length : Int) > 13))) then some default else (idx v2 0)) fun v3 =>
 bif (((v2.length : Int) == 0) || (decide ((v2.length : Int) > 13))) || (((v3.toNat : Int) == 48) && (decide ((a0.length : Int) > 1))) then
  some (0, false)
 else
  g_ref26_Whole_l3 v2 (g_ref26_Whole_k2 x1) FUEL 0 0
def g_ref26_Whole (a0 : List UInt8) : Option (Int × Bool) :=
 bO (bif (decide ((a0.length : Int) > 0)) then (idx a0 0) else some default) fun v9 =>
 bif (decide ((a0.length : Int) > 0)) && ((v9.toNat : Int) == 45) then
  g_ref26_Whole_k1 a0 1
 else
  g_ref26_Whole_k1 a0 0
theorem g_ref26_Whole_w {a0 : List UInt8} {r : Int × Bool} (h : g_ref26_Whole a0 = some r) : PCall Tryz.prog 84 [.str a0] (.tuple [zI r.1, zB r.2]) := by
 refine PCall.body Tryz.func84 rfl rfl rfl rfl fun base => ?_
 unfold g_ref26_Whole at h
 refine CWp.seq (CWp.region ?_)
 refine rn 2 rfl (COps.done [0] [] rfl ?_)
 refine CWp.seq (CWp.region ?_)
 refine rn 1 rfl (COps.done [0, 4] [] rfl ?_)
 refine CWp.mid (fun e => ∃ x1, e = ⟨[(0, [], .str a0), (4, [], zI x1)], [], [], [], base⟩ ∧ g_ref26_Whole_k1 a0 x1 = some r) ?_ ?_
 ·refine CWp.seq (CWp.region ?_)
  obtain ⟨v9, hv9, h⟩ := bI h
  refine rn 5 rfl ?_
  refine rdg 11 true [] (fun ht => rBy (gd hv9 (ht.1 _ rfl))) ?_
  refine rn 2 rfl (COps.done [0, 4, 15] [] rfl ?_)
  refine CWp.cond h rfl (fun h => ?_) (fun h => ?_)
  ·refine CWp.region ?_
   refine rn 1 rfl (COps.done [0, 4] [] rfl ?_)
   exact ⟨_, rfl, h⟩
  ·refine CWp.keep [0, 4] [] rfl ?_
   refine CWp.skip ?_
   exact ⟨_, rfl, h⟩
 ·rintro _ ⟨x1, rfl, h⟩
  unfold g_ref26_Whole_k1 at h
  refine CWp.seq (CWp.region ?_)
  obtain ⟨v2, hv2, h⟩ := bI h
  refine rn 2 rfl ?_
  refine rd (rSub hv2) ?_
  refine rn 1 rfl (COps.done [0, 4, 5] [] rfl ?_)
  refine CWp.seq (CWp.seq (CWp.region ?_))
  obtain ⟨v3, hv3, h⟩ := bI h
  refine rn 10 rfl ?_
  refine rdg 27 false [] (fun ht => rBy (gdf hv3 (ht.1 _ rfl))) ?_
  refine rn 7 rfl (COps.done [4, 5, 36] [] rfl ?_)
  refine CWp.cond h rfl (fun h => ?_) (fun h => ?_)
  ·refine CWp.seq (CWp.region ?_)
   refine rn 2 rfl (COps.done [2, 3] [] rfl ?_)
   refine CWp.ret ?_
   cases h
   exact ⟨.inl rfl, rfl, rfl⟩
  ·refine CWp.skip ?_
   refine CWp.seq (CWp.region ?_)
   refine rn 1 rfl (COps.done [4, 5, 6] [] rfl ?_)
   refine CWp.mid (fun e => ∃ x4, e = ⟨[(4, [], zI x1), (6, [], zI x4)], [], [], [], base⟩ ∧ g_ref26_Whole_k2 x1 x4 = some r) ?_ ?_
   ·refine CWp.seq (CWp.region ?_)
    refine rn 1 rfl (COps.done [4, 5, 6, 7] [] rfl ?_)
    refine CWp.block ?_
    refine CWp.loop (fun m3 e => ∃ x5 x6, e = ⟨[(4, [], zI x1), (5, [], .str v2), (6, [], zI x5), (7, [], zI x6)], [], [], [], base⟩ ∧ g_ref26_Whole_l3 v2 (g_ref26_Whole_k2 x1) m3 x5 x6 = some r) FUEL ⟨_, _, rfl, h⟩ ?_ ?_
    ·rintro m3 _ ⟨x5, x6, rfl, h⟩
     rw [g_ref26_Whole_l3] at h
     refine CWp.seq (CWp.seq (CWp.region ?_))
     refine rn 4 rfl (COps.done [4, 5, 6, 7, 40] [] rfl ?_)
     refine CWp.cond h rfl (fun h => ?_) (fun h => ?_)
     ·refine CWp.skip ?_
      refine CWp.seq (CWp.block ?_)
      refine CWp.seq (CWp.seq (CWp.region ?_))
      obtain ⟨v7, hv7, h⟩ := bI h
      refine rn 2 rfl ?_
      refine rd (rBy hv7) ?_
      refine rn 4 rfl ?_
      refine rdg 47 false [] (fun ht => rBy hv7) ?_
      refine rn 2 rfl (COps.done [4, 5, 6, 7, 52] [] rfl ?_)
      refine CWp.cond h rfl (fun h => ?_) (fun h => ?_)
      ·refine CWp.seq (CWp.region ?_)
       refine rn 2 rfl (COps.done [2, 3] [] rfl ?_)
       refine CWp.ret ?_
       cases h
       exact ⟨.inl rfl, rfl, rfl⟩
      ·refine CWp.skip ?_
       refine CWp.region ?_
       obtain ⟨v8, hv8, h⟩ := bI h
       refine rn 4 rfl ?_
       refine rd (rBy hv8) ?_
       refine rn 4 rfl (COps.done [4, 5, 6, 7] [] rfl ?_)
       refine CWp.region ?_
       refine rn 3 rfl (COps.done [4, 5, 6, 7] [] rfl ?_)
       exact ⟨_, _, rfl, h⟩
     ·refine CWp.keep [4, 6] [] rfl ?_
      refine CWp.exit ?_
      exact ⟨_, rfl, h⟩
    ·rintro _ ⟨_, _, _, h⟩
     rw [g_ref26_Whole_l3] at h; cases h
   ·rintro _ ⟨x4, rfl, h⟩
    unfold g_ref26_Whole_k2 at h
    refine CWp.seq (CWp.seq (CWp.region ?_))
    refine rn 2 rfl (COps.done [4, 6, 62] [] rfl ?_)
    refine CWp.cond h rfl (fun h => ?_) (fun h => ?_)
    ·refine CWp.seq (CWp.region ?_)
     refine rn 2 rfl (COps.done [2, 3] [] rfl ?_)
     refine CWp.ret ?_
     cases h
     exact ⟨.inl rfl, rfl, rfl⟩
    ·refine CWp.skip ?_
     refine CWp.seq (CWp.seq (CWp.region ?_))
     refine rn 2 rfl (COps.done [6, 64] [] rfl ?_)
     refine CWp.cond h rfl (fun h => ?_) (fun h => ?_)
     ·refine CWp.seq (CWp.region ?_)
      refine rn 4 rfl (COps.done [2, 3] [] rfl ?_)
      refine CWp.ret ?_
      cases h
      exact ⟨.inl rfl, rfl, rfl⟩
     ·refine CWp.skip ?_
      refine CWp.seq (CWp.region ?_)
      refine rn 3 rfl (COps.done [2, 3] [] rfl ?_)
      refine CWp.ret ?_
      cases h
      exact ⟨.inl rfl, rfl, rfl⟩
def g_ref26_quantities_k1 (x1 : Int) (x2 : Int) (x3 : Int) : Option ((V3 Int) × Bool) :=
 some ((⟨x1, x2, x3⟩ : V3 Int), true)
def g_ref26_quantities (a0 : List (List UInt8)) (a1 : Int) : Option ((V3 Int) × Bool) :=
 bO (idx a0 (w64 (a1 + 0))) fun v4 =>
 bO (g_ref05_Read v4) fun v5 =>
 bif !v5.2 then
  some ((⟨0, 0, 0⟩ : V3 Int), false)
 else
  bO (idx a0 (w64 (a1 + (w64 ((0 : Int) + 1))))) fun v6 =>
  bO (g_ref05_Read v6) fun v7 =>
  bif !v7.2 then
   some ((⟨v5.1, 0, 0⟩ : V3 Int), false)
  else
   bO (idx a0 (w64 (a1 + (w64 ((w64 ((0 : Int) + 1) : Int) + 1))))) fun v8 =>
   bO (g_ref05_Read v8) fun v9 =>
   bif !v9.2 then
    some ((⟨v5.1, v7.1, 0⟩ : V3 Int), false)
   else
    g_ref26_quantities_k1 v5.1 v7.1 v9.1
theorem g_ref26_quantities_w {a0 : List (List UInt8)} {a1 : Int} {r : (V3 Int) × Bool} (h : g_ref26_quantities a0 a1 = some r) : PCall Tryz.prog 115 [.list false 9 (a0.map AV.str), zI a1] (.tuple [e3_Int r.1, zB r.2]) := by
 refine PCall.body Tryz.func115 rfl rfl rfl rfl fun base => ?_
 unfold g_ref26_quantities at h
 refine CWp.seq (CWp.region ?_)
 refine rn 2 rfl ?_
 refine COps.done [0, 1, 4] [4] rfl ?_
 refine CWp.seq (CWp.region ?_)
 refine rn 1 rfl ?_
 refine COps.done [0, 1, 4, 6] [4, 6] rfl ?_
 refine CWp.mid (fun e => ∃ x1 x2 x3, e = ⟨[(4, [], .lptr 4 0), (6, [], .lptr 6 0)], [], [(4, [zI 0, zI 0, zI 0]), (6, [zI x1, zI x2, zI x3])], [], base⟩ ∧ g_ref26_quantities_k1 x1 x2 x3 = some r) ?_ ?_
 ·refine CWp.seq (CWp.region ?_)
  refine rn 1 rfl ?_
  refine COps.done [0, 1, 4, 6, 7] [4, 6] rfl ?_
  refine CWp.block ?_
  refine CWp.unroll 4 ?_
  refine crd ?_
  refine CWp.seq (CWp.seq (CWp.region ?_))
  refine rn 2 rfl ?_
  refine COps.done [0, 1, 4, 6, 7, 11] [4, 6] rfl ?_
  refine CWp.condT rfl (by decide) ?_
  refine CWp.skip ?_
  refine CWp.seq (CWp.block ?_)
  refine CWp.seq (CWp.region ?_)
  obtain ⟨v4, hv4, h⟩ := bI h
  refine rn 4 rfl ?_
  refine rd (rIx hv4) ?_
  refine rn 1 rfl ?_
  obtain ⟨v5, hv5, h⟩ := bI h
  refine pCall Tryz.call35 (g_ref05_Read_w hv5) rfl ?_
  refine rn 5 rfl ?_
  refine COps.done [0, 1, 4, 6, 7, 8, 9] [4, 6] rfl ?_
  refine CWp.seq (CWp.seq (CWp.region ?_))
  refine rn 2 rfl ?_
  refine COps.done [0, 1, 4, 6, 7, 8, 25] [4, 6] rfl ?_
  refine CWp.cond h rfl (fun h => ?_) (fun h => ?_)
  ·refine CWp.seq (CWp.region ?_)
   refine rn 3 rfl ?_
   refine COps.done [4, 5] [4] rfl ?_
   refine CWp.ret ?_
   cases h
   exact ⟨.inl rfl, rfl, rfl⟩
  ·refine CWp.skip ?_
   refine CWp.region ?_
   refine rn 4 rfl ?_
   refine COps.done [0, 1, 4, 6, 7] [4, 6] rfl ?_
   refine CWp.region ?_
   refine rn 3 rfl ?_
   refine COps.done [0, 1, 4, 6, 7] [4, 6] rfl ?_
   refine crd ?_
   refine CWp.seq (CWp.seq (CWp.region ?_))
   refine rn 2 rfl ?_
   refine COps.done [0, 1, 4, 6, 7, 11] [4, 6] rfl ?_
   refine CWp.condT rfl (by decide) ?_
   refine CWp.skip ?_
   refine CWp.seq (CWp.block ?_)
   refine CWp.seq (CWp.region ?_)
   obtain ⟨v6, hv6, h⟩ := bI h
   refine rn 4 rfl ?_
   refine rd (rIx hv6) ?_
   refine rn 1 rfl ?_
   obtain ⟨v7, hv7, h⟩ := bI h
   refine pCall Tryz.call35 (g_ref05_Read_w hv7) rfl ?_
   refine rn 5 rfl ?_
   refine COps.done [0, 1, 4, 6, 7, 8, 9] [4, 6] rfl ?_
   refine CWp.seq (CWp.seq (CWp.region ?_))
   refine rn 2 rfl ?_
   refine COps.done [0, 1, 4, 6, 7, 8, 25] [4, 6] rfl ?_
   refine CWp.cond h rfl (fun h => ?_) (fun h => ?_)
   ·refine CWp.seq (CWp.region ?_)
    refine rn 3 rfl ?_
    refine COps.done [4, 5] [4] rfl ?_
    refine CWp.ret ?_
    cases h
    exact ⟨.inl rfl, rfl, rfl⟩
   ·refine CWp.skip ?_
    refine CWp.region ?_
    refine rn 4 rfl ?_
    refine COps.done [0, 1, 4, 6, 7] [4, 6] rfl ?_
    refine CWp.region ?_
    refine rn 3 rfl ?_
    refine COps.done [0, 1, 4, 6, 7] [4, 6] rfl ?_
    refine crd ?_
    refine CWp.seq (CWp.seq (CWp.region ?_))
    refine rn 2 rfl ?_
    refine COps.done [0, 1, 4, 6, 7, 11] [4, 6] rfl ?_
    refine CWp.condT rfl (by decide) ?_
    refine CWp.skip ?_
    refine CWp.seq (CWp.block ?_)
    refine CWp.seq (CWp.region ?_)
    obtain ⟨v8, hv8, h⟩ := bI h
    refine rn 4 rfl ?_
    refine rd (rIx hv8) ?_
    refine rn 1 rfl ?_
    obtain ⟨v9, hv9, h⟩ := bI h
    refine pCall Tryz.call35 (g_ref05_Read_w hv9) rfl ?_
    refine rn 5 rfl ?_
    refine COps.done [0, 1, 4, 6, 7, 8, 9] [4, 6] rfl ?_
    refine CWp.seq (CWp.seq (CWp.region ?_))
    refine rn 2 rfl ?_
    refine COps.done [0, 1, 4, 6, 7, 8, 25] [4, 6] rfl ?_
    refine CWp.cond h rfl (fun h => ?_) (fun h => ?_)
    ·refine CWp.seq (CWp.region ?_)
     refine rn 3 rfl ?_
     refine COps.done [4, 5] [4] rfl ?_
     refine CWp.ret ?_
     cases h
     exact ⟨.inl rfl, rfl, rfl⟩
    ·refine CWp.skip ?_
     refine CWp.region ?_
     refine rn 4 rfl ?_
     refine COps.done [0, 1, 4, 6, 7] [4, 6] rfl ?_
     refine CWp.region ?_
     refine rn 3 rfl ?_
     refine COps.done [0, 1, 4, 6, 7] [4, 6] rfl ?_
     refine crd ?_
     refine CWp.seq (CWp.seq (CWp.region ?_))
     refine rn 2 rfl ?_
     refine COps.done [0, 1, 4, 6, 7, 11] [4, 6] rfl ?_
     refine CWp.condF rfl (by decide) ?_
     refine CWp.keep [4, 6] [4, 6] rfl ?_
     refine CWp.exit ?_
     exact ⟨_, _, _, rfl, h⟩
 ·rintro _ ⟨x1, x2, x3, rfl, h⟩
  unfold g_ref26_quantities_k1 at h
  refine CWp.seq (CWp.region ?_)
  refine rn 3 rfl ?_
  refine COps.done [4, 5] [4] rfl ?_
  refine CWp.ret ?_
  cases h
  exact ⟨.inl rfl, rfl, rfl⟩
def g_ref26_pod_k1 (a0 : List (List UInt8)) (v7 : Int × Bool) (v9 : Int × Bool) (v10 : (V3 Int) × Bool) (x11 : Bool) (x12 : Int) (x13 : Int) (x14 : Int) : Option (SPod × Bool) :=
 bO (idx a0 1) fun v15 =>
 bO (idx a0 2) fun v16 =>
 bO (idx a0 5) fun v17 =>
 some ((⟨v15, v9.1, v17 == [99, 114, 105, 116, 105, 99, 97, 108], v10.1, (⟨x12, x13, x14⟩ : V3 Int), v16, v7.1⟩ : SPod), ((v7.2 && v9.2) && v10.2) && x11)
def g_ref26_pod (a0 : List (List UInt8)) : Option (SPod × Bool) :=
 bO (bif (((a0.length : Int) != 9) && ((a0.length : Int) != 12)) then some default else (idx a0 1)) fun v1 =>
 bO (bif (((a0.length : Int) != 9) && ((a0.length : Int) != 12)) then some default else (g_ref26_Word v1)) fun v2 =>
 bO (bif ((((a0.length : Int) != 9) && ((a0.length : Int) != 12)) || (!v2)) then some default else (idx a0 2)) fun v3 =>
 bO (bif ((((a0.length : Int) != 9) && ((a0.length : Int) != 12)) || (!v2)) then some default else (g_ref26_Word v3)) fun v4 =>
 bO (bif (((((a0.length : Int) != 9) && ((a0.length : Int) != 12)) || (!v2)) || (!v4)) then some default else (idx a0 5)) fun v5 =>
 bif (((((a0.length : Int) != 9) && ((a0.length : Int) != 12)) || (!v2)) || (!v4)) || ((!(v5 == [99, 114, 105, 116, 105, 99, 97, 108])) && (!(v5 == [112, 108, 97, 105, 110]))) then
  some ((⟨([] : List UInt8), 0, false, (⟨0, 0, 0⟩ : V3 Int), (⟨0, 0, 0⟩ : V3 Int), ([] : List UInt8), 0⟩ : SPod), false)
 else
  bO (idx a0 3) fun v6 =>
  bO (g_ref05_Read v6) fun v7 =>
  bO (idx a0 4) fun v8 =>
  bO (g_ref26_Whole v8) fun v9 =>
  bO (g_ref26_quantities a0 6) fun v10 =>
  bif (a0.length : Int) == 12 then
   bO (g_ref26_quantities a0 9) fun v18 =>
   g_ref26_pod_k1 a0 v7 v9 v10 v18.2 v18.1.a v18.1.b v18.1.c
  else
   g_ref26_pod_k1 a0 v7 v9 v10 true 0 0 0
theorem g_ref26_pod_w {a0 : List (List UInt8)} {r : SPod × Bool} (h : g_ref26_pod a0 = some r) : PCall Tryz.prog 82 [.list false 9 (a0.map AV.str)] (.tuple [eSPod r.1, zB r.2]) := by
 refine PCall.body Tryz.func82 rfl rfl rfl rfl fun base => ?_
 unfold g_ref26_pod at h
 refine CWp.seq (CWp.region ?_)
 refine rn 2 rfl ?_
 refine COps.done [0, 2] [2] rfl ?_
 refine CWp.seq (CWp.seq (CWp.region ?_))
 obtain ⟨v1, hv1, h⟩ := bI h
 refine rh 10 [a0.length, a0.length] [] rfl ⟨List.length_map .., List.length_map .., trivial⟩ ?_
 refine rdg 20 false [] (fun ht => rIx (gdf hv1 (ht.1 _ rfl))) ?_
 refine rn 1 rfl ?_
 refine COps.keepG [0, 2, 20, 23] rfl ?_
 obtain ⟨v2, hv2, h⟩ := bI h
 refine pCallg 20 false [] Tryz.call15 (fun ht => g_ref26_Word_w (gdf hv2 (ht.1 _ rfl))) rfl ?_
 obtain ⟨v3, hv3, h⟩ := bI h
 refine rn 4 rfl ?_
 refine rdg 27 false [] (fun ht => rIx (gdf hv3 (ht.1 _ rfl))) ?_
 refine rn 1 rfl ?_
 refine COps.keepG [0, 2, 27, 30] rfl ?_
 obtain ⟨v4, hv4, h⟩ := bI h
 refine pCallg 27 false [] Tryz.call15 (fun ht => g_ref26_Word_w (gdf hv4 (ht.1 _ rfl))) rfl ?_
 obtain ⟨v5, hv5, h⟩ := bI h
 refine rn 4 rfl ?_
 refine rdg 34 false [] (fun ht => rIx (gdf hv5 (ht.1 _ rfl))) ?_
 refine rn 4 rfl ?_
 refine rdg 39 true [(34, false)] (fun ht => rIx (gdf hv5 (ht.2.1 _ rfl))) ?_
 refine rn 4 rfl ?_
 refine COps.done [0, 2, 45] [2] rfl ?_
 refine CWp.cond h rfl (fun h => ?_) (fun h => ?_)
 ·refine CWp.seq (CWp.region ?_)
  refine rn 3 rfl ?_
  refine COps.done [2, 3] [2] rfl ?_
  refine CWp.ret ?_
  cases h
  exact ⟨.inl rfl, rfl, rfl⟩
 ·refine CWp.skip ?_
  refine CWp.seq (CWp.region ?_)
  obtain ⟨v6, hv6, h⟩ := bI h
  refine rn 1 rfl ?_
  refine rd (rIx hv6) ?_
  refine rn 1 rfl ?_
  obtain ⟨v7, hv7, h⟩ := bI h
  refine pCall Tryz.call35 (g_ref05_Read_w hv7) rfl ?_
  refine rn 5 rfl ?_
  refine COps.done [0, 2, 4, 5] [2] rfl ?_
  refine CWp.seq (CWp.region ?_)
  obtain ⟨v8, hv8, h⟩ := bI h
  refine rn 1 rfl ?_
  refine rd (rIx hv8) ?_
  refine rn 1 rfl ?_
  obtain ⟨v9, hv9, h⟩ := bI h
  refine pCall Tryz.call84 (g_ref26_Whole_w hv9) rfl ?_
  refine rn 5 rfl ?_
  refine COps.done [0, 2, 4, 5, 6, 7] [2] rfl ?_
  refine CWp.seq (CWp.region ?_)
  refine rn 1 rfl ?_
  obtain ⟨v10, hv10, h⟩ := bI h
  refine pCall Tryz.call115 (g_ref26_quantities_w hv10) rfl ?_
  refine rn 6 rfl ?_
  refine COps.done [0, 2, 4, 5, 6, 7, 8, 9] [2, 8] rfl ?_
  refine CWp.seq (CWp.region ?_)
  refine rn 1 rfl ?_
  refine COps.done [0, 2, 4, 5, 6, 7, 8, 9, 10] [2, 8, 10] rfl ?_
  refine CWp.seq (CWp.region ?_)
  refine rn 1 rfl ?_
  refine COps.done [0, 2, 4, 5, 6, 7, 8, 9, 10, 11] [2, 8, 10] rfl ?_
  refine CWp.mid (fun e => ∃ x11 x12 x13 x14, e = ⟨[(0, [], .list false 9 (a0.map AV.str)), (2, [], .lptr 2 0), (4, [], zI v7.1), (5, [], zB v7.2), (6, [], zI v9.1), (7, [], zB v9.2), (8, [], .lptr 8 0), (9, [], zB v10.2), (10, [], .lptr 10 0), (11, [], zB x11)], [], [(2, [.str ([] : List UInt8), zI 0, zB false, zI 0, zI 0, zI 0, zI 0, zI 0, zI 0, .str ([] : List UInt8), zI 0]), (8, [zI v10.1.a, zI v10.1.b, zI v10.1.c]), (10, [zI x12, zI x13, zI x14])], [], base⟩ ∧ g_ref26_pod_k1 a0 v7 v9 v10 x11 x12 x13 x14 = some r) ?_ ?_
  ·refine CWp.seq (CWp.region ?_)
   refine rh 3 [a0.length] [] rfl ⟨List.length_map .., trivial⟩ ?_
   refine COps.done [0, 2, 4, 5, 6, 7, 8, 9, 10, 11, 68] [2, 8, 10] rfl ?_
   refine CWp.cond h rfl (fun h => ?_) (fun h => ?_)
   ·refine CWp.region ?_
    refine rn 1 rfl ?_
    obtain ⟨v18, hv18, h⟩ := bI h
    refine pCall Tryz.call115 (g_ref26_quantities_w hv18) rfl ?_
    refine rn 5 rfl ?_
    refine COps.done [0, 2, 4, 5, 6, 7, 8, 9, 10, 11] [2, 8, 10] rfl ?_
    exact ⟨_, _, _, _, rfl, h⟩
   ·refine CWp.keep [0, 2, 4, 5, 6, 7, 8, 9, 10, 11] [2, 8, 10] rfl ?_
    refine CWp.skip ?_
    exact ⟨_, _, _, _, rfl, h⟩
  ·rintro _ ⟨x11, x12, x13, x14, rfl, h⟩
   unfold g_ref26_pod_k1 at h
   refine CWp.seq ?_
   refine CWp.late 25 (by kernel_rfl) ?_
   obtain ⟨v15, hv15, h⟩ := bI h
   refine pn 1 rfl ?_
   refine pd (rIx hv15) ?_
   obtain ⟨v16, hv16, h⟩ := bI h
   refine pn 2 rfl ?_
   refine pd (rIx hv16) ?_
   obtain ⟨v17, hv17, h⟩ := bI h
   refine pn 4 rfl ?_
   refine pd (rIx hv17) ?_
   refine pn 15 rfl ?_
   refine COpsE.nil ?_
   refine COps.keep [2, 88, 98] [2] rfl ?_
   refine rn 2 rfl ?_
   refine COps.done [2, 3] [2] rfl ?_
   refine CWp.ret ?_
   cases h
   exact ⟨.inl rfl, rfl, rfl⟩
def g_ref26_amounts_k1 (x1 : Nat) (x2 : Nat) (x3 : Nat) : Option ((V3 Nat) × Bool) :=
 some ((⟨x1, x2, x3⟩ : V3 Nat), true)
def g_ref26_amounts (a0 : List (List UInt8)) (a1 : Int) : Option ((V3 Nat) × Bool) :=
 bO (idx a0 (w64 (a1 + 0))) fun v4 =>
 bO (g_ref26_Amount v4) fun v5 =>
 bif !v5.2 then
  some ((⟨0, 0, 0⟩ : V3 Nat), false)
 else
  bO (idx a0 (w64 (a1 + (w64 ((0 : Int) + 1))))) fun v6 =>
  bO (g_ref26_Amount v6) fun v7 =>
  bif !v7.2 then
   some ((⟨v5.1, 0, 0⟩ : V3 Nat), false)
  else
   bO (idx a0 (w64 (a1 + (w64 ((w64 ((0 : Int) + 1) : Int) + 1))))) fun v8 =>
   bO (g_ref26_Amount v8) fun v9 =>
   bif !v9.2 then
    some ((⟨v5.1, v7.1, 0⟩ : V3 Nat), false)
   else
    g_ref26_amounts_k1 v5.1 v7.1 v9.1
theorem g_ref26_amounts_w {a0 : List (List UInt8)} {a1 : Int} {r : (V3 Nat) × Bool} (h : g_ref26_amounts a0 a1 = some r) : PCall Tryz.prog 116 [.list false 9 (a0.map AV.str), zI a1] (.tuple [e3_Nat r.1, zB r.2]) := by
 refine PCall.body Tryz.func116 rfl rfl rfl rfl fun base => ?_
 unfold g_ref26_amounts at h
 refine CWp.seq (CWp.region ?_)
 refine rn 2 rfl ?_
 refine COps.done [0, 1, 4] [4] rfl ?_
 refine CWp.seq (CWp.region ?_)
 refine rn 1 rfl ?_
 refine COps.done [0, 1, 4, 6] [4, 6] rfl ?_
 refine CWp.mid (fun e => ∃ x1 x2 x3, e = ⟨[(4, [], .lptr 4 0), (6, [], .lptr 6 0)], [], [(4, [zF 0, zF 0, zF 0]), (6, [zF x1, zF x2, zF x3])], [], base⟩ ∧ g_ref26_amounts_k1 x1 x2 x3 = some r) ?_ ?_
 ·refine CWp.seq (CWp.region ?_)
  refine rn 1 rfl ?_
  refine COps.done [0, 1, 4, 6, 7] [4, 6] rfl ?_
  refine CWp.block ?_
  refine CWp.unroll 4 ?_
  refine crd ?_
  refine CWp.seq (CWp.seq (CWp.region ?_))
  refine rn 2 rfl ?_
  refine COps.done [0, 1, 4, 6, 7, 11] [4, 6] rfl ?_
  refine CWp.condT rfl (by decide) ?_
  refine CWp.skip ?_
  refine CWp.seq (CWp.block ?_)
  refine CWp.seq (CWp.region ?_)
  obtain ⟨v4, hv4, h⟩ := bI h
  refine rn 4 rfl ?_
  refine rd (rIx hv4) ?_
  refine rn 1 rfl ?_
  obtain ⟨v5, hv5, h⟩ := bI h
  refine pCall Tryz.call13 (g_ref26_Amount_w hv5) rfl ?_
  refine rn 5 rfl ?_
  refine COps.done [0, 1, 4, 6, 7, 8, 9] [4, 6] rfl ?_
  refine CWp.seq (CWp.seq (CWp.region ?_))
  refine rn 2 rfl ?_
  refine COps.done [0, 1, 4, 6, 7, 8, 25] [4, 6] rfl ?_
  refine CWp.cond h rfl (fun h => ?_) (fun h => ?_)
  ·refine CWp.seq (CWp.region ?_)
   refine rn 3 rfl ?_
   refine COps.done [4, 5] [4] rfl ?_
   refine CWp.ret ?_
   cases h
   exact ⟨.inl rfl, rfl, rfl⟩
  ·refine CWp.skip ?_
   refine CWp.region ?_
   refine rn 4 rfl ?_
   refine COps.done [0, 1, 4, 6, 7] [4, 6] rfl ?_
   refine CWp.region ?_
   refine rn 3 rfl ?_
   refine COps.done [0, 1, 4, 6, 7] [4, 6] rfl ?_
   refine crd ?_
   refine CWp.seq (CWp.seq (CWp.region ?_))
   refine rn 2 rfl ?_
   refine COps.done [0, 1, 4, 6, 7, 11] [4, 6] rfl ?_
   refine CWp.condT rfl (by decide) ?_
   refine CWp.skip ?_
   refine CWp.seq (CWp.block ?_)
   refine CWp.seq (CWp.region ?_)
   obtain ⟨v6, hv6, h⟩ := bI h
   refine rn 4 rfl ?_
   refine rd (rIx hv6) ?_
   refine rn 1 rfl ?_
   obtain ⟨v7, hv7, h⟩ := bI h
   refine pCall Tryz.call13 (g_ref26_Amount_w hv7) rfl ?_
   refine rn 5 rfl ?_
   refine COps.done [0, 1, 4, 6, 7, 8, 9] [4, 6] rfl ?_
   refine CWp.seq (CWp.seq (CWp.region ?_))
   refine rn 2 rfl ?_
   refine COps.done [0, 1, 4, 6, 7, 8, 25] [4, 6] rfl ?_
   refine CWp.cond h rfl (fun h => ?_) (fun h => ?_)
   ·refine CWp.seq (CWp.region ?_)
    refine rn 3 rfl ?_
    refine COps.done [4, 5] [4] rfl ?_
    refine CWp.ret ?_
    cases h
    exact ⟨.inl rfl, rfl, rfl⟩
   ·refine CWp.skip ?_
    refine CWp.region ?_
    refine rn 4 rfl ?_
    refine COps.done [0, 1, 4, 6, 7] [4, 6] rfl ?_
    refine CWp.region ?_
    refine rn 3 rfl ?_
    refine COps.done [0, 1, 4, 6, 7] [4, 6] rfl ?_
    refine crd ?_
    refine CWp.seq (CWp.seq (CWp.region ?_))
    refine rn 2 rfl ?_
    refine COps.done [0, 1, 4, 6, 7, 11] [4, 6] rfl ?_
    refine CWp.condT rfl (by decide) ?_
    refine CWp.skip ?_
    refine CWp.seq (CWp.block ?_)
    refine CWp.seq (CWp.region ?_)
    obtain ⟨v8, hv8, h⟩ := bI h
    refine rn 4 rfl ?_
    refine rd (rIx hv8) ?_
    refine rn 1 rfl ?_
    obtain ⟨v9, hv9, h⟩ := bI h
    refine pCall Tryz.call13 (g_ref26_Amount_w hv9) rfl ?_
    refine rn 5 rfl ?_
    refine COps.done [0, 1, 4, 6, 7, 8, 9] [4, 6] rfl ?_
    refine CWp.seq (CWp.seq (CWp.region ?_))
    refine rn 2 rfl ?_
    refine COps.done [0, 1, 4, 6, 7, 8, 25] [4, 6] rfl ?_
    refine CWp.cond h rfl (fun h => ?_) (fun h => ?_)
    ·refine CWp.seq (CWp.region ?_)
     refine rn 3 rfl ?_
     refine COps.done [4, 5] [4] rfl ?_
     refine CWp.ret ?_
     cases h
     exact ⟨.inl rfl, rfl, rfl⟩
    ·refine CWp.skip ?_
     refine CWp.region ?_
     refine rn 4 rfl ?_
     refine COps.done [0, 1, 4, 6, 7] [4, 6] rfl ?_
     refine CWp.region ?_
     refine rn 3 rfl ?_
     refine COps.done [0, 1, 4, 6, 7] [4, 6] rfl ?_
     refine crd ?_
     refine CWp.seq (CWp.seq (CWp.region ?_))
     refine rn 2 rfl ?_
     refine COps.done [0, 1, 4, 6, 7, 11] [4, 6] rfl ?_
     refine CWp.condF rfl (by decide) ?_
     refine CWp.keep [4, 6] [4, 6] rfl ?_
     refine CWp.exit ?_
     exact ⟨_, _, _, rfl, h⟩
 ·rintro _ ⟨x1, x2, x3, rfl, h⟩
  unfold g_ref26_amounts_k1 at h
  refine CWp.seq (CWp.region ?_)
  refine rn 3 rfl ?_
  refine COps.done [4, 5] [4] rfl ?_
  refine CWp.ret ?_
  cases h
  exact ⟨.inl rfl, rfl, rfl⟩
def g_ref26_raw_k1 (v2 : Int × Bool) (v3 : (V3 Nat) × Bool) (x5 : List SUsage) : Option (SRaw × Bool) :=
 some ((⟨v2.1, v3.1, x5⟩ : SRaw), v2.2 && v3.2)
def g_ref26_raw_l2 (a0 : List (List UInt8)) (k290 : (List SUsage) → Option (SRaw × Bool)) : Nat → (List SUsage) → Int → Option (SRaw × Bool)
 | 0, _, _ => none
 | m2 + 1, x6, x7 =>
  bif decide (x7 < (a0.length : Int)) then
   bO (g_ref26_amounts a0 (w64 (x7 + 1))) fun v8 =>
   bO (bif (!v8.2) then some default else (idx a0 x7)) fun v9 =>
   bO (bif (!v8.2) then some default else (g_ref26_Word v9)) fun v10 =>
   bif (!v8.2) || (!v10) then
    some ((⟨0, (⟨0, 0, 0⟩ : V3 Nat), ([] : List SUsage)⟩ : SRaw), false)
   else
    bO (idx a0 x7) fun v11 =>
    bO (appO x6 [(⟨v11, v8.1⟩ : SUsage)]) fun v12 =>
    (g_ref26_raw_l2 a0 k290 m2) v12 (w64 (x7 + 4))
  else
   k290 x6
def g_ref26_raw (a0 : List (List UInt8)) : Option (SRaw × Bool) :=
 bif (decide ((a0.length : Int) < 5)) || (((w64 ((a0.length : Int) - 5)).tmod 4) != 0) then
  some ((⟨0, (⟨0, 0, 0⟩ : V3 Nat), ([] : List SUsage)⟩ : SRaw), false)
 else
  bO (idx a0 1) fun v1 =>
  bO (g_ref26_Whole v1) fun v2 =>
  bO (g_ref26_amounts a0 2) fun v3 =>
  g_ref26_raw_l2 a0 (g_ref26_raw_k1 v2 v3) FUEL ([] : List SUsage) 5
theorem g_ref26_raw_w {a0 : List (List UInt8)} {r : SRaw × Bool} (h : g_ref26_raw a0 = some r) : PCall Tryz.prog 83 [.list false 9 (a0.map AV.str)] (.tuple [eSRaw r.1, zB r.2]) := by
 refine PCall.body Tryz.func83 rfl rfl rfl rfl fun base => ?_
 unfold g_ref26_raw at h
 refine CWp.seq (CWp.region ?_)
 refine rn 2 rfl ?_
 refine COps.done [0, 2] [2] rfl ?_
 refine CWp.seq (CWp.seq (CWp.region ?_))
 refine rh 10 [a0.length, a0.length] [] rfl ⟨List.length_map .., List.length_map .., trivial⟩ ?_
 refine COps.done [0, 2, 21] [2] rfl ?_
 refine CWp.cond h rfl (fun h => ?_) (fun h => ?_)
 ·refine CWp.seq (CWp.region ?_)
  refine rn 3 rfl ?_
  refine COps.done [2, 3] [2] rfl ?_
  refine CWp.ret ?_
  cases h
  exact ⟨.inl rfl, rfl, rfl⟩
 ·refine CWp.skip ?_
  refine CWp.seq (CWp.region ?_)
  obtain ⟨v1, hv1, h⟩ := bI h
  refine rn 1 rfl ?_
  refine rd (rIx hv1) ?_
  refine rn 1 rfl ?_
  obtain ⟨v2, hv2, h⟩ := bI h
  refine pCall Tryz.call84 (g_ref26_Whole_w hv2) rfl ?_
  refine rn 5 rfl ?_
  refine COps.done [0, 2, 4, 5] [2] rfl ?_
  refine CWp.seq (CWp.region ?_)
  refine rn 1 rfl ?_
  obtain ⟨v3, hv3, h⟩ := bI h
  refine pCall Tryz.call116 (g_ref26_amounts_w hv3) rfl ?_
  refine rn 6 rfl ?_
  refine COps.done [0, 2, 4, 5, 6, 7] [2, 6] rfl ?_
  refine CWp.seq (CWp.region ?_)
  refine rh 3 [] [37] rfl trivial ?_
  refine cNewO ?_
  rintro o4 -
  refine cOwn 0 4 114 ?_
  refine rh 1 [0] [] rfl ⟨rfl, trivial⟩ ?_
  refine cOwn 0 4 114 ?_
  refine COps.done [0, 2, 5, 7, 8] [2] rfl ?_
  refine CWp.mid (fun e => ∃ x5, e = ⟨[(2, [], .lptr 2 0), (5, [], zB v2.2), (7, [], zB v3.2), (8, [], .gptr o4 0)], [], [(2, [zI 0, zF 0, zF 0, zF 0, .list false 114 (([] : List SUsage).map eSUsage)])], [(o4, [zI v2.1, zF v3.1.a, zF v3.1.b, zF v3.1.c, .list true 114 (x5.map eSUsage)])], base⟩ ∧ g_ref26_raw_k1 v2 v3 x5 = some r) ?_ ?_
  ·refine CWp.seq (CWp.region ?_)
   refine rn 1 rfl ?_
   refine COps.done [0, 2, 5, 7, 8, 9] [2] rfl ?_
   refine CWp.block ?_
   refine CWp.loop (fun m2 e => ∃ x6 x7, e = ⟨[(0, [], .list false 9 (a0.map AV.str)), (2, [], .lptr 2 0), (5, [], zB v2.2), (7, [], zB v3.2), (8, [], .gptr o4 0), (9, [], zI x7)], [], [(2, [zI 0, zF 0, zF 0, zF 0, .list false 114 (([] : List SUsage).map eSUsage)])], [(o4, [zI v2.1, zF v3.1.a, zF v3.1.b, zF v3.1.c, .list true 114 (x6.map eSUsage)])], base⟩ ∧ g_ref26_raw_l2 a0 (g_ref26_raw_k1 v2 v3) m2 x6 x7 = some r) FUEL ⟨_, _, rfl, h⟩ ?_ ?_
   ·rintro m2 _ ⟨x6, x7, rfl, h⟩
    rw [g_ref26_raw_l2] at h
    refine CWp.seq (CWp.seq (CWp.region ?_))
    refine rh 4 [a0.length] [] rfl ⟨List.length_map .., trivial⟩ ?_
    refine COps.done [0, 2, 5, 7, 8, 9, 41] [2] rfl ?_
    refine CWp.cond h rfl (fun h => ?_) (fun h => ?_)
    ·refine CWp.skip ?_
     refine CWp.seq (CWp.block ?_)
     refine CWp.seq (CWp.region ?_)
     refine rn 3 rfl ?_
     obtain ⟨v8, hv8, h⟩ := bI h
     refine pCall Tryz.call116 (g_ref26_amounts_w hv8) rfl ?_
     refine rn 6 rfl ?_
     refine COps.done [0, 2, 5, 7, 8, 9, 10, 11] [2, 10] rfl ?_
     refine CWp.seq (CWp.seq (CWp.region ?_))
     obtain ⟨v9, hv9, h⟩ := bI h
     refine rn 5 rfl ?_
     refine rdg 53 false [] (fun ht => rIx (gdf hv9 (ht.1 _ rfl))) ?_
     refine rn 1 rfl ?_
     obtain ⟨v10, hv10, h⟩ := bI h
     refine pCallg 53 false [] Tryz.call15 (fun ht => g_ref26_Word_w (gdf hv10 (ht.1 _ rfl))) rfl ?_
     refine rn 2 rfl ?_
     refine COps.done [0, 2, 5, 7, 8, 9, 10, 60] [2, 10] rfl ?_
     refine CWp.cond h rfl (fun h => ?_) (fun h => ?_)
     ·refine CWp.seq (CWp.region ?_)
      refine rn 3 rfl ?_
      refine COps.objs [] rfl ?_
      refine COps.done [2, 3] [2] rfl ?_
      refine CWp.ret ?_
      cases h
      exact ⟨.inl rfl, rfl, rfl⟩
     ·refine CWp.skip ?_
      refine CWp.aheadG 8 0 4 63 (by kernel_rfl) rfl rfl rfl (fun pinO pinQ pinC => ?_)
      obtain ⟨v11, hv11, h⟩ := bI h
      refine ph 4 [0] rfl ⟨rfl, trivial⟩ ?_
      refine pd (rIx hv11) ?_
      refine pn 3 rfl ?_
      refine COpsE.nil ?_
      refine ⟨⟨[(0, [], .list false 9 (a0.map AV.str)), (2, [], .lptr 2 0), (5, [], zB v2.2), (7, [], zB v3.2), (8, [], .gptr o4 0), (9, [], zI x7), (63, [], .lit (.slice pinO pinQ pinC)), (70, [], .list true 114 ([(⟨v11, v8.1⟩ : SUsage)].map eSUsage))], [], [(2, [zI 0, zF 0, zF 0, zF 0, .list false 114 (([] : List SUsage).map eSUsage)])], [(o4, [zI v2.1, zF v3.1.a, zF v3.1.b, zF v3.1.c, .lit (.slice pinO pinQ pinC)])], base⟩, _, ?_, rfl, rfl, rfl, rfl, rfl, ?_⟩
      ·refine rn 1 rfl ?_
       refine COps.done [0, 2, 5, 7, 8, 9, 63, 70] [2] rfl ?_
       exact rfl
      obtain ⟨v12, hv12, h⟩ := bI h
      refine cApp hv12 ?_
      refine rh 2 [0] [71] rfl ⟨rfl, trivial⟩ ?_
      refine COps.done [0, 2, 5, 7, 8, 9] [2] rfl ?_
      refine CWp.region ?_
      refine rn 3 rfl ?_
      refine COps.done [0, 2, 5, 7, 8, 9] [2] rfl ?_
      exact ⟨_, _, rfl, h⟩
    ·refine CWp.keep [2, 5, 7, 8] [2] rfl ?_
     refine CWp.exit ?_
     exact ⟨_, rfl, h⟩
   ·rintro _ ⟨_, _, _, h⟩
    rw [g_ref26_raw_l2] at h; cases h
  ·rintro _ ⟨x5, rfl, h⟩
   unfold g_ref26_raw_k1 at h
   refine CWp.seq (CWp.region ?_)
   refine rh 5 [0] [] rfl ⟨rfl, trivial⟩ ?_
   refine COps.keep [2, 73, 77] [2] rfl ?_
   refine rn 2 rfl ?_
   refine COps.objs [] rfl ?_
   refine COps.done [2, 3] [2] rfl ?_
   refine CWp.ret ?_
   cases h
   exact ⟨.inl rfl, rfl, rfl⟩
def g_ref26_Line_k2 : Option (SAct × Bool) :=
 some ((⟨0, (⟨([] : List UInt8), 0, false, (⟨0, 0, 0⟩ : V3 Int), (⟨0, 0, 0⟩ : V3 Int), ([] : List UInt8), 0⟩ : SPod), ([] : List UInt8), (⟨0, (⟨0, 0, 0⟩ : V3 Nat), ([] : List SUsage)⟩ : SRaw), ([] : List Bool), 0, ([] : List Int)⟩ : SAct), false)
def g_ref26_Line_k3 (x11 : Int) (x12 : List Int) : Option (SAct × Bool) :=
 some ((⟨6, (⟨([] : List UInt8), 0, false, (⟨0, 0, 0⟩ : V3 Int), (⟨0, 0, 0⟩ : V3 Int), ([] : List UInt8), 0⟩ : SPod), ([] : List UInt8), (⟨0, (⟨0, 0, 0⟩ : V3 Nat), ([] : List SUsage)⟩ : SRaw), ([] : List Bool), x11, x12⟩ : SAct), true)
def g_ref26_Line_k5 (x15 : Int) (q4 : Int → (List Int) → Int → Option (SAct × Bool)) (x16 : Int) (x17 : List Int) : Option (SAct × Bool) :=
 q4 x16 x17 (w64 (x15 + 1))
def g_ref26_Line_l4 (a0 : List (List UInt8)) (k490 : Int → (List Int) → Option (SAct × Bool)) : Nat → Int → (List Int) → Int → Option (SAct × Bool)
 | 0, _, _, _ => none
 | m4 + 1, x13, x14, x15 =>
  bif decide (x15 < (a0.length : Int)) then
   bO (idx a0 x15) fun v18 =>
   bO (g_ref26_Whole v18) fun v19 =>
   bif !v19.2 then
    some ((⟨0, (⟨([] : List UInt8), 0, false, (⟨0, 0, 0⟩ : V3 Int), (⟨0, 0, 0⟩ : V3 Int), ([] : List UInt8), 0⟩ : SPod), ([] : List UInt8), (⟨0, (⟨0, 0, 0⟩ : V3 Nat), ([] : List SUsage)⟩ : SRaw), ([] : List Bool), 0, ([] : List Int)⟩ : SAct), false)
   else
    bif x15 == 1 then
     g_ref26_Line_k5 x15 (g_ref26_Line_l4 a0 k490 m4) v19.1 x14
    else
     bO (appO x14 [v19.1]) fun v20 =>
     g_ref26_Line_k5 x15 (g_ref26_Line_l4 a0 k490 m4) x13 v20
  else
   k490 x13 x14
def g_ref26_Line_k1 (a0 : List (List UInt8)) : Option (SAct × Bool) :=
 bO (idx a0 0) fun v9 =>
 bif (v9 == [99, 114, 97, 115, 104]) && (decide ((a0.length : Int) > 1)) then
  g_ref26_Line_l4 a0 g_ref26_Line_k3 FUEL 0 ([] : List Int) 1
 else
  g_ref26_Line_k2
def g_ref26_Line_k6 (x23 : List Bool) : Option (SAct × Bool) :=
 some ((⟨5, (⟨([] : List UInt8), 0, false, (⟨0, 0, 0⟩ : V3 Int), (⟨0, 0, 0⟩ : V3 Int), ([] : List UInt8), 0⟩ : SPod), ([] : List UInt8), (⟨0, (⟨0, 0, 0⟩ : V3 Nat), ([] : List SUsage)⟩ : SRaw), x23, 0, ([] : List Int)⟩ : SAct), true)
def g_ref26_Line_l7 (a0 : List (List UInt8)) (k790 : (List Bool) → Option (SAct × Bool)) : Nat → (List Bool) → Int → Option (SAct × Bool)
 | 0, _, _ => none
 | m7 + 1, x24, x25 =>
  bif decide (x25 < (a0.length : Int)) then
   bO (idx a0 x25) fun v26 =>
   bif (!(v26 == [111, 107])) && (!(v26 == [98, 97, 100])) then
    some ((⟨0, (⟨([] : List UInt8), 0, false, (⟨0, 0, 0⟩ : V3 Int), (⟨0, 0, 0⟩ : V3 Int), ([] : List UInt8), 0⟩ : SPod), ([] : List UInt8), (⟨0, (⟨0, 0, 0⟩ : V3 Nat), ([] : List SUsage)⟩ : SRaw), ([] : List Bool), 0, ([] : List Int)⟩ : SAct), false)
   else
    bO (idx a0 x25) fun v27 =>
    bO (appO x24 [v27 == [111, 107]]) fun v28 =>
    (g_ref26_Line_l7 a0 k790 m7) v28 (w64 (x25 + 1))
  else
   k790 x24
def g_ref26_Line (a0 : List (List UInt8)) : Option (SAct × Bool) :=
 bO (idx a0 0) fun v1 =>
 bif v1 == [97, 100, 109, 105, 116] then
  bO (g_ref26_pod a0) fun v2 =>
  some ((⟨1, v2.1, ([] : List UInt8), (⟨0, (⟨0, 0, 0⟩ : V3 Nat), ([] : List SUsage)⟩ : SRaw), ([] : List Bool), 0, ([] : List Int)⟩ : SAct), v2.2)
 else
  bO (idx a0 0) fun v3 =>
  bif v3 == [100, 101, 108, 101, 116, 101] then
   bif (a0.length : Int) != 2 then
    some ((⟨0, (⟨([] : List UInt8), 0, false, (⟨0, 0, 0⟩ : V3 Int), (⟨0, 0, 0⟩ : V3 Int), ([] : List UInt8), 0⟩ : SPod), ([] : List UInt8), (⟨0, (⟨0, 0, 0⟩ : V3 Nat), ([] : List SUsage)⟩ : SRaw), ([] : List Bool), 0, ([] : List Int)⟩ : SAct), false)
   else
    bO (idx a0 1) fun v4 =>
    bO (g_ref26_Word v4) fun v5 =>
    some ((⟨2, (⟨([] : List UInt8), 0, false, (⟨0, 0, 0⟩ : V3 Int), (⟨0, 0, 0⟩ : V3 Int), ([] : List UInt8), 0⟩ : SPod), v4, (⟨0, (⟨0, 0, 0⟩ : V3 Nat), ([] : List SUsage)⟩ : SRaw), ([] : List Bool), 0, ([] : List Int)⟩ : SAct), v5)
  else
   bO (idx a0 0) fun v6 =>
   bif v6 == [116, 105, 99, 107] then
    some ((⟨3, (⟨([] : List UInt8), 0, false, (⟨0, 0, 0⟩ : V3 Int), (⟨0, 0, 0⟩ : V3 Int), ([] : List UInt8), 0⟩ : SPod), ([] : List UInt8), (⟨0, (⟨0, 0, 0⟩ : V3 Nat), ([] : List SUsage)⟩ : SRaw), ([] : List Bool), 0, ([] : List Int)⟩ : SAct), (a0.length : Int) == 1)
   else
    bO (idx a0 0) fun v7 =>
    bif v7 == [115, 97, 109, 112, 108, 101] then
     bO (g_ref26_raw a0) fun v8 =>
     some ((⟨4, (⟨([] : List UInt8), 0, false, (⟨0, 0, 0⟩ : V3 Int), (⟨0, 0, 0⟩ : V3 Int), ([] : List UInt8), 0⟩ : SPod), ([] : List UInt8), v8.1, ([] : List Bool), 0, ([] : List Int)⟩ : SAct), v8.2)
    else
     bO (idx a0 0) fun v21 =>
     bif v21 == [102, 101, 101, 100] then
      g_ref26_Line_l7 a0 g_ref26_Line_k6 FUEL ([] : List Bool) 1
     else
      g_ref26_Line_k1 a0
theorem g_ref26_Line_w {a0 : List (List UInt8)} {r : SAct × Bool} (h : g_ref26_Line a0 = some r) : PCall Tryz.prog 45 [.list false 9 (a0.map AV.str)] (.tuple [eSAct r.1, zB r.2]) := by
 refine PCall.body Tryz.func45 rfl rfl rfl rfl fun base => ?_
 unfold g_ref26_Line at h
 refine CWp.seq (CWp.region ?_)
 refine rn 2 rfl ?_
 refine COps.done [0, 2] [2] rfl ?_
 refine CWp.seq (CWp.seq (CWp.region ?_))
 obtain ⟨v1, hv1, h⟩ := bI h
 refine rn 1 rfl ?_
 refine rd (rIx hv1) ?_
 refine rn 2 rfl ?_
 refine COps.done [0, 2, 17] [2] rfl ?_
 refine CWp.cond h rfl (fun h => ?_) (fun h => ?_)
 ·refine CWp.seq (CWp.region ?_)
  refine rn 1 rfl ?_
  obtain ⟨v2, hv2, h⟩ := bI h
  refine pCall Tryz.call82 (g_ref26_pod_w hv2) rfl ?_
  refine rn 6 rfl ?_
  refine COps.done [2, 4, 5] [2, 4] rfl ?_
  refine CWp.seq (CWp.region ?_)
  refine rn 5 rfl ?_
  refine COps.done [2, 3] [2] rfl ?_
  refine CWp.ret ?_
  cases h
  exact ⟨.inl rfl, rfl, rfl⟩
 ·refine CWp.skip ?_
  refine CWp.seq (CWp.seq (CWp.region ?_))
  obtain ⟨v3, hv3, h⟩ := bI h
  refine rn 1 rfl ?_
  refine rd (rIx hv3) ?_
  refine rn 2 rfl ?_
  refine COps.done [0, 2, 29] [2] rfl ?_
  refine CWp.cond h rfl (fun h => ?_) (fun h => ?_)
  ·refine CWp.seq (CWp.seq (CWp.region ?_))
   refine rh 3 [a0.length] [] rfl ⟨List.length_map .., trivial⟩ ?_
   refine COps.done [0, 2, 32] [2] rfl ?_
   refine CWp.cond h rfl (fun h => ?_) (fun h => ?_)
   ·refine CWp.seq (CWp.region ?_)
    refine rn 3 rfl ?_
    refine COps.done [2, 3] [2] rfl ?_
    refine CWp.ret ?_
    cases h
    exact ⟨.inl rfl, rfl, rfl⟩
   ·refine CWp.skip ?_
    refine CWp.seq ?_
    refine CWp.late 8 (by kernel_rfl) ?_
    obtain ⟨v4, hv4, h⟩ := bI h
    refine pn 1 rfl ?_
    refine pd (rIx hv4) ?_
    refine pn 3 rfl ?_
    refine pd (rIx hv4) ?_
    refine pn 1 rfl ?_
    obtain ⟨v5, hv5, h⟩ := bI h
    refine qCall Tryz.call15 (g_ref26_Word_w hv5) rfl ?_
    refine COpsE.nil ?_
    refine rn 2 rfl ?_
    refine COps.done [2, 3] [2] rfl ?_
    refine CWp.ret ?_
    cases h
    exact ⟨.inl rfl, rfl, rfl⟩
  ·refine CWp.skip ?_
   refine CWp.seq (CWp.seq (CWp.region ?_))
   obtain ⟨v6, hv6, h⟩ := bI h
   refine rn 1 rfl ?_
   refine rd (rIx hv6) ?_
   refine rn 2 rfl ?_
   refine COps.done [0, 2, 45] [2] rfl ?_
   refine CWp.cond h rfl (fun h => ?_) (fun h => ?_)
   ·refine CWp.seq (CWp.region ?_)
    refine rh 6 [a0.length] [] rfl ⟨List.length_map .., trivial⟩ ?_
    refine COps.done [2, 3] [2] rfl ?_
    refine CWp.ret ?_
    cases h
    exact ⟨.inl rfl, rfl, rfl⟩
   ·refine CWp.skip ?_
    refine CWp.seq (CWp.seq (CWp.region ?_))
    obtain ⟨v7, hv7, h⟩ := bI h
    refine rn 1 rfl ?_
    refine rd (rIx hv7) ?_
    refine rn 2 rfl ?_
    refine COps.done [0, 2, 53] [2] rfl ?_
    refine CWp.cond h rfl (fun h => ?_) (fun h => ?_)
    ·refine CWp.seq (CWp.region ?_)
     refine rn 1 rfl ?_
     obtain ⟨v8, hv8, h⟩ := bI h
     refine pCall Tryz.call83 (g_ref26_raw_w hv8) rfl ?_
     refine rn 6 rfl ?_
     refine COps.done [2, 6, 7] [2, 6] rfl ?_
     refine CWp.seq (CWp.region ?_)
     refine rn 5 rfl ?_
     refine COps.done [2, 3] [2] rfl ?_
     refine CWp.ret ?_
     cases h
     exact ⟨.inl rfl, rfl, rfl⟩
    ·refine CWp.skip ?_
     refine CWp.mid (fun e => e = ⟨[(0, [], .list false 9 (a0.map AV.str)), (2, [], .lptr 2 0)], [], [(2, [zI 0, .str ([] : List UInt8), zI 0, zB false, zI 0, zI 0, zI 0, zI 0, zI 0, zI 0, .str ([] : List UInt8), zI 0, .str ([] : List UInt8), zI 0, zF 0, zF 0, zF 0, .list false 114 (([] : List SUsage).map eSUsage), .list false 4 (([] : List Bool).map zB), zI 0, .list false 3 (([] : List Int).map zI)])], [], base⟩ ∧ g_ref26_Line_k1 a0 = some r) ?_ ?_
     ·refine CWp.seq (CWp.region ?_)
      obtain ⟨v21, hv21, h⟩ := bI h
      refine rn 1 rfl ?_
      refine rd (rIx hv21) ?_
      refine rn 2 rfl ?_
      refine COps.done [0, 2, 65] [2] rfl ?_
      refine CWp.cond h rfl (fun h => ?_) (fun h => ?_)
      ·refine CWp.seq (CWp.region ?_)
       refine rh 1 [] [66] rfl trivial ?_
       refine cNewO ?_
       rintro o22 -
       refine cOwn 0 18 4 ?_
       refine cNil 0 17 114 ?_
       refine cNil 0 20 3 ?_
       refine rh 1 [0] [] rfl ⟨rfl, trivial⟩ ?_
       refine cOwn 0 18 4 ?_
       refine cNil 0 17 114 ?_
       refine cNil 0 20 3 ?_
       refine COps.done [0, 2, 8] [2] rfl ?_
       refine CWp.mid (fun e => ∃ x23, e = ⟨[(2, [], .lptr 2 0), (8, [], .gptr o22 0)], [], [(2, [zI 0, .str ([] : List UInt8), zI 0, zB false, zI 0, zI 0, zI 0, zI 0, zI 0, zI 0, .str ([] : List UInt8), zI 0, .str ([] : List UInt8), zI 0, zF 0, zF 0, zF 0, .list false 114 (([] : List SUsage).map eSUsage), .list false 4 (([] : List Bool).map zB), zI 0, .list false 3 (([] : List Int).map zI)])], [(o22, [zI 5, .str ([] : List UInt8), zI 0, zB false, zI 0, zI 0, zI 0, zI 0, zI 0, zI 0, .str ([] : List UInt8), zI 0, .str ([] : List UInt8), zI 0, zF 0, zF 0, zF 0, .list false 114 (([] : List SUsage).map eSUsage), .list true 4 (x23.map zB), zI 0, .list false 3 (([] : List Int).map zI)])], base⟩ ∧ g_ref26_Line_k6 x23 = some r) ?_ ?_
       ·refine CWp.seq (CWp.region ?_)
        refine rn 1 rfl ?_
        refine COps.done [0, 2, 8, 9] [2] rfl ?_
        refine CWp.block ?_
        refine CWp.loop (fun m7 e => ∃ x24 x25, e = ⟨[(0, [], .list false 9 (a0.map AV.str)), (2, [], .lptr 2 0), (8, [], .gptr o22 0), (9, [], zI x25)], [], [(2, [zI 0, .str ([] : List UInt8), zI 0, zB false, zI 0, zI 0, zI 0, zI 0, zI 0, zI 0, .str ([] : List UInt8), zI 0, .str ([] : List UInt8), zI 0, zF 0, zF 0, zF 0, .list false 114 (([] : List SUsage).map eSUsage), .list false 4 (([] : List Bool).map zB), zI 0, .list false 3 (([] : List Int).map zI)])], [(o22, [zI 5, .str ([] : List UInt8), zI 0, zB false, zI 0, zI 0, zI 0, zI 0, zI 0, zI 0, .str ([] : List UInt8), zI 0, .str ([] : List UInt8), zI 0, zF 0, zF 0, zF 0, .list false 114 (([] : List SUsage).map eSUsage), .list true 4 (x24.map zB), zI 0, .list false 3 (([] : List Int).map zI)])], base⟩ ∧ g_ref26_Line_l7 a0 (g_ref26_Line_k6) m7 x24 x25 = some r) FUEL ⟨_, _, rfl, h⟩ ?_ ?_
        ·rintro m7 _ ⟨x24, x25, rfl, h⟩
         rw [g_ref26_Line_l7] at h
         refine CWp.seq (CWp.seq (CWp.region ?_))
         refine rh 4 [a0.length] [] rfl ⟨List.length_map .., trivial⟩ ?_
         refine COps.done [0, 2, 8, 9, 70] [2] rfl ?_
         refine CWp.cond h rfl (fun h => ?_) (fun h => ?_)
         ·refine CWp.skip ?_
          refine CWp.seq (CWp.block ?_)
          refine CWp.seq (CWp.seq (CWp.region ?_))
          obtain ⟨v26, hv26, h⟩ := bI h
          refine rn 2 rfl ?_
          refine rd (rIx hv26) ?_
          refine rn 5 rfl ?_
          refine rdg 78 true [] (fun ht => rIx hv26) ?_
          refine rn 3 rfl ?_
          refine COps.done [0, 2, 8, 9, 84] [2] rfl ?_
          refine CWp.cond h rfl (fun h => ?_) (fun h => ?_)
          ·refine CWp.seq (CWp.region ?_)
           refine rn 3 rfl ?_
           refine COps.objs [] rfl ?_
           refine COps.done [2, 3] [2] rfl ?_
           refine CWp.ret ?_
           cases h
           exact ⟨.inl rfl, rfl, rfl⟩
          ·refine CWp.skip ?_
           refine CWp.aheadG 7 0 18 87 (by kernel_rfl) rfl rfl rfl (fun pinO pinQ pinC => ?_)
           obtain ⟨v27, hv27, h⟩ := bI h
           refine ph 4 [0] rfl ⟨rfl, trivial⟩ ?_
           refine pd (rIx hv27) ?_
           refine pn 2 rfl ?_
           refine COpsE.nil ?_
           refine ⟨⟨[(0, [], .list false 9 (a0.map AV.str)), (2, [], .lptr 2 0), (8, [], .gptr o22 0), (9, [], zI x25), (87, [], .lit (.slice pinO pinQ pinC)), (93, [], .list true 4 ([v27 == [111, 107]].map zB))], [], [(2, [zI 0, .str ([] : List UInt8), zI 0, zB false, zI 0, zI 0, zI 0, zI 0, zI 0, zI 0, .str ([] : List UInt8), zI 0, .str ([] : List UInt8), zI 0, zF 0, zF 0, zF 0, .list false 114 (([] : List SUsage).map eSUsage), .list false 4 (([] : List Bool).map zB), zI 0, .list false 3 (([] : List Int).map zI)])], [(o22, [zI 5, .str ([] : List UInt8), zI 0, zB false, zI 0, zI 0, zI 0, zI 0, zI 0, zI 0, .str ([] : List UInt8), zI 0, .str ([] : List UInt8), zI 0, zF 0, zF 0, zF 0, .list false 114 (([] : List SUsage).map eSUsage), .lit (.slice pinO pinQ pinC), zI 0, .list false 3 (([] : List Int).map zI)])], base⟩, _, ?_, rfl, rfl, rfl, rfl, rfl, ?_⟩
           ·refine rn 1 rfl ?_
            refine COps.done [0, 2, 8, 9, 87, 93] [2] rfl ?_
            exact rfl
           obtain ⟨v28, hv28, h⟩ := bI h
           refine cApp hv28 ?_
           refine rh 2 [0] [94] rfl ⟨rfl, trivial⟩ ?_
           refine COps.done [0, 2, 8, 9] [2] rfl ?_
           refine CWp.region ?_
           refine rn 3 rfl ?_
           refine COps.done [0, 2, 8, 9] [2] rfl ?_
           exact ⟨_, _, rfl, h⟩
         ·refine CWp.keep [2, 8] [2] rfl ?_
          refine CWp.exit ?_
          exact ⟨_, rfl, h⟩
        ·rintro _ ⟨_, _, _, h⟩
         rw [g_ref26_Line_l7] at h; cases h
       ·rintro _ ⟨x23, rfl, h⟩
        unfold g_ref26_Line_k6 at h
        refine CWp.seq (CWp.region ?_)
        refine rh 3 [0] [] rfl ⟨rfl, trivial⟩ ?_
        refine COps.objs [] rfl ?_
        refine COps.done [2, 3] [2] rfl ?_
        refine CWp.ret ?_
        cases h
        exact ⟨.inl rfl, rfl, rfl⟩
      ·refine CWp.keep [0, 2] [2] rfl ?_
       refine CWp.skip ?_
       exact ⟨rfl, h⟩
     ·rintro _ ⟨rfl, h⟩
      unfold g_ref26_Line_k1 at h
      refine CWp.mid (fun e => e = ⟨[(2, [], .lptr 2 0)], [], [(2, [zI 0, .str ([] : List UInt8), zI 0, zB false, zI 0, zI 0, zI 0, zI 0, zI 0, zI 0, .str ([] : List UInt8), zI 0, .str ([] : List UInt8), zI 0, zF 0, zF 0, zF 0, .list false 114 (([] : List SUsage).map eSUsage), .list false 4 (([] : List Bool).map zB), zI 0, .list false 3 (([] : List Int).map zI)])], [], base⟩ ∧ g_ref26_Line_k2 = some r) ?_ ?_
      ·refine CWp.seq (CWp.region ?_)
       obtain ⟨v9, hv9, h⟩ := bI h
       refine rn 1 rfl ?_
       refine rd (rIx hv9) ?_
       refine rh 7 [a0.length] [] rfl ⟨List.length_map .., trivial⟩ ?_
       refine COps.done [0, 2, 105] [2] rfl ?_
       refine CWp.cond h rfl (fun h => ?_) (fun h => ?_)
       ·refine CWp.seq (CWp.region ?_)
        refine rh 1 [] [106] rfl trivial ?_
        refine cNewO ?_
        rintro o10 -
        refine cOwn 0 20 3 ?_
        refine cNil 0 17 114 ?_
        refine cNil 0 18 4 ?_
        refine rh 1 [0] [] rfl ⟨rfl, trivial⟩ ?_
        refine cOwn 0 20 3 ?_
        refine cNil 0 17 114 ?_
        refine cNil 0 18 4 ?_
        refine COps.done [0, 2, 10] [2] rfl ?_
        refine CWp.mid (fun e => ∃ x11 x12, e = ⟨[(2, [], .lptr 2 0), (10, [], .gptr o10 0)], [], [(2, [zI 0, .str ([] : List UInt8), zI 0, zB false, zI 0, zI 0, zI 0, zI 0, zI 0, zI 0, .str ([] : List UInt8), zI 0, .str ([] : List UInt8), zI 0, zF 0, zF 0, zF 0, .list false 114 (([] : List SUsage).map eSUsage), .list false 4 (([] : List Bool).map zB), zI 0, .list false 3 (([] : List Int).map zI)])], [(o10, [zI 6, .str ([] : List UInt8), zI 0, zB false, zI 0, zI 0, zI 0, zI 0, zI 0, zI 0, .str ([] : List UInt8), zI 0, .str ([] : List UInt8), zI 0, zF 0, zF 0, zF 0, .list false 114 (([] : List SUsage).map eSUsage), .list false 4 (([] : List Bool).map zB), zI x11, .list true 3 (x12.map zI)])], base⟩ ∧ g_ref26_Line_k3 x11 x12 = some r) ?_ ?_
        ·refine CWp.seq (CWp.region ?_)
         refine rn 1 rfl ?_
         refine COps.done [0, 2, 10, 11] [2] rfl ?_
         refine CWp.block ?_
         refine CWp.loop (fun m4 e => ∃ x13 x14 x15, e = ⟨[(0, [], .list false 9 (a0.map AV.str)), (2, [], .lptr 2 0), (10, [], .gptr o10 0), (11, [], zI x15)], [], [(2, [zI 0, .str ([] : List UInt8), zI 0, zB false, zI 0, zI 0, zI 0, zI 0, zI 0, zI 0, .str ([] : List UInt8), zI 0, .str ([] : List UInt8), zI 0, zF 0, zF 0, zF 0, .list false 114 (([] : List SUsage).map eSUsage), .list false 4 (([] : List Bool).map zB), zI 0, .list false 3 (([] : List Int).map zI)])], [(o10, [zI 6, .str ([] : List UInt8), zI 0, zB false, zI 0, zI 0, zI 0, zI 0, zI 0, zI 0, .str ([] : List UInt8), zI 0, .str ([] : List UInt8), zI 0, zF 0, zF 0, zF 0, .list false 114 (([] : List SUsage).map eSUsage), .list false 4 (([] : List Bool).map zB), zI x13, .list true 3 (x14.map zI)])], base⟩ ∧ g_ref26_Line_l4 a0 (g_ref26_Line_k3) m4 x13 x14 x15 = some r) FUEL ⟨_, _, _, rfl, h⟩ ?_ ?_
         ·rintro m4 _ ⟨x13, x14, x15, rfl, h⟩
          rw [g_ref26_Line_l4] at h
          refine CWp.seq (CWp.seq (CWp.region ?_))
          refine rh 4 [a0.length] [] rfl ⟨List.length_map .., trivial⟩ ?_
          refine COps.done [0, 2, 10, 11, 110] [2] rfl ?_
          refine CWp.cond h rfl (fun h => ?_) (fun h => ?_)
          ·refine CWp.skip ?_
           refine CWp.mid (fun e => ∃ x16 x17, e = ⟨[(0, [], .list false 9 (a0.map AV.str)), (2, [], .lptr 2 0), (10, [], .gptr o10 0), (11, [], zI x15)], [], [(2, [zI 0, .str ([] : List UInt8), zI 0, zB false, zI 0, zI 0, zI 0, zI 0, zI 0, zI 0, .str ([] : List UInt8), zI 0, .str ([] : List UInt8), zI 0, zF 0, zF 0, zF 0, .list false 114 (([] : List SUsage).map eSUsage), .list false 4 (([] : List Bool).map zB), zI 0, .list false 3 (([] : List Int).map zI)])], [(o10, [zI 6, .str ([] : List UInt8), zI 0, zB false, zI 0, zI 0, zI 0, zI 0, zI 0, zI 0, .str ([] : List UInt8), zI 0, .str ([] : List UInt8), zI 0, zF 0, zF 0, zF 0, .list false 114 (([] : List SUsage).map eSUsage), .list false 4 (([] : List Bool).map zB), zI x16, .list true 3 (x17.map zI)])], base⟩ ∧ g_ref26_Line_k5 x15 (g_ref26_Line_l4 a0 (g_ref26_Line_k3) m4) x16 x17 = some r) ?_ ?_
           ·refine CWp.block ?_
            refine CWp.seq (CWp.region ?_)
            obtain ⟨v18, hv18, h⟩ := bI h
            refine rn 2 rfl ?_
            refine rd (rIx hv18) ?_
            refine rn 1 rfl ?_
            obtain ⟨v19, hv19, h⟩ := bI h
            refine pCall Tryz.call84 (g_ref26_Whole_w hv19) rfl ?_
            refine rn 5 rfl ?_
            refine COps.done [0, 2, 10, 11, 12, 13] [2] rfl ?_
            refine CWp.seq (CWp.seq (CWp.region ?_))
            refine rn 2 rfl ?_
            refine COps.done [0, 2, 10, 11, 12, 122] [2] rfl ?_
            refine CWp.cond h rfl (fun h => ?_) (fun h => ?_)
            ·refine CWp.seq (CWp.region ?_)
             refine rn 3 rfl ?_
             refine COps.objs [] rfl ?_
             refine COps.done [2, 3] [2] rfl ?_
             refine CWp.ret ?_
             cases h
             exact ⟨.inl rfl, rfl, rfl⟩
            ·refine CWp.skip ?_
             refine CWp.seq (CWp.region ?_)
             refine rn 2 rfl ?_
             refine COps.done [0, 2, 10, 11, 12, 125] [2] rfl ?_
             refine CWp.cond h rfl (fun h => ?_) (fun h => ?_)
             ·refine CWp.region ?_
              refine rh 3 [0] [] rfl ⟨rfl, trivial⟩ ?_
              refine COps.done [0, 2, 10, 11] [2] rfl ?_
              exact ⟨_, _, rfl, h⟩
             ·refine CWp.region ?_
              obtain ⟨v20, hv20, h⟩ := bI h
              refine rh 4 [0] [129] rfl ⟨rfl, trivial⟩ ?_
              refine cApp hv20 ?_
              refine rh 2 [0] [132] rfl ⟨rfl, trivial⟩ ?_
              refine COps.done [0, 2, 10, 11] [2] rfl ?_
              exact ⟨_, _, rfl, h⟩
           ·rintro _ ⟨x16, x17, rfl, h⟩
            unfold g_ref26_Line_k5 at h
            refine CWp.region ?_
            refine rn 3 rfl ?_
            refine COps.done [0, 2, 10, 11] [2] rfl ?_
            exact ⟨_, _, _, rfl, h⟩
          ·refine CWp.keep [2, 10] [2] rfl ?_
           refine CWp.exit ?_
           exact ⟨_, _, rfl, h⟩
         ·rintro _ ⟨_, _, _, _, h⟩
          rw [g_ref26_Line_l4] at h; cases h
        ·rintro _ ⟨x11, x12, rfl, h⟩
         unfold g_ref26_Line_k3 at h
         refine CWp.seq (CWp.region ?_)
         refine rh 3 [0] [] rfl ⟨rfl, trivial⟩ ?_
         refine COps.objs [] rfl ?_
         refine COps.done [2, 3] [2] rfl ?_
         refine CWp.ret ?_
         cases h
         exact ⟨.inl rfl, rfl, rfl⟩
       ·refine CWp.keep [2] [2] rfl ?_
        refine CWp.skip ?_
        exact ⟨rfl, h⟩
      ·rintro _ ⟨rfl, h⟩
       unfold g_ref26_Line_k2 at h
       refine CWp.seq (CWp.region ?_)
       refine rn 3 rfl ?_
       refine COps.done [2, 3] [2] rfl ?_
       refine CWp.ret ?_
       cases h
       exact ⟨.inl rfl, rfl, rfl⟩
def g_ref26_Read_k1 (x3 : List SAct) : Option ((List SAct) × Int × Int) :=
 some (x3, 0, 0)
def g_ref26_Read_k3 (x5 : Int) (q2 : (List SAct) → Int → Option ((List SAct) × Int × Int)) (x6 : List SAct) : Option ((List SAct) × Int × Int) :=
 q2 x6 (w64 (x5 + 1))
def g_ref26_Read_k4 (v2 : List (List SField)) (x4 : List SAct) (x5 : Int) (q2 : (List SAct) → Int → Option ((List SAct) × Int × Int)) (x7 : List (List UInt8)) : Option ((List SAct) × Int × Int) :=
 bO (g_ref26_Line x7) fun v8 =>
 bif !v8.2 then
  bO (idx v2 x5) fun v9 =>
  bO (idx v9 0) fun v10 =>
  some (([] : List SAct), v10.line, 2)
 else
  bO (appO x4 [v8.1]) fun v11 =>
  g_ref26_Read_k3 x5 q2 v11
def g_ref26_Read_l5 (v2 : List (List SField)) (x5 : Int) (k590 : (List (List UInt8)) → Option ((List SAct) × Int × Int)) : Nat → (List (List UInt8)) → Int → Option ((List SAct) × Int × Int)
 | 0, _, _ => none
 | m5 + 1, x12, x13 =>
  bO (idx v2 x5) fun v14 =>
  bif decide (x13 < (v14.length : Int)) then
   bO (idx v2 x5) fun v15 =>
   bO (idx v15 x13) fun v16 =>
   bO (appO x12 [v16.text]) fun v17 =>
   (g_ref26_Read_l5 v2 x5 k590 m5) v17 (w64 (x13 + 1))
  else
   k590 x12
def g_ref26_Read_l2 (v2 : List (List SField)) (k290 : (List SAct) → Option ((List SAct) × Int × Int)) : Nat → (List SAct) → Int → Option ((List SAct) × Int × Int)
 | 0, _, _ => none
 | m2 + 1, x4, x5 =>
  bif decide (x5 < (v2.length : Int)) then
   g_ref26_Read_l5 v2 x5 (g_ref26_Read_k4 v2 x4 x5 (g_ref26_Read_l2 v2 k290 m2)) FUEL ([] : List (List UInt8)) 0
  else
   k290 x4
def g_ref26_Read (a0 : List UInt8) : Option ((List SAct) × Int × Int) :=
 bO (g_ref04_Readable a0) fun v1 =>
 bif !v1 then
  some (([] : List SAct), 0, 2)
 else
  bO (g_ref04_Lines a0) fun v2 =>
  g_ref26_Read_l2 v2 g_ref26_Read_k1 FUEL ([] : List SAct) 0
theorem g_ref26_Read_w {a0 : List UInt8} {r : (List SAct) × Int × Int} (h : g_ref26_Read a0 = some r) : PCall Tryz.prog 21 [.list false 5 (a0.map zU8)] (.tuple [.list true 50 (r.1.map eSAct), zI r.2.1, zI r.2.2]) := by
 refine PCall.body Tryz.func21 rfl rfl rfl rfl fun base => ?_
 unfold g_ref26_Read at h
 refine CWp.seq (CWp.region ?_)
 refine rn 3 rfl (COps.done [0] [] rfl ?_)
 refine CWp.seq (CWp.seq (CWp.region ?_))
 refine rn 1 rfl ?_
 obtain ⟨v1, hv1, h⟩ := bI h
 refine pCall Tryz.call29 (g_ref04_Readable_w hv1) rfl ?_
 refine rn 1 rfl (COps.done [0, 14] [] rfl ?_)
 refine CWp.cond h rfl (fun h => ?_) (fun h => ?_)
 ·refine CWp.seq (CWp.region ?_)
  refine rn 3 rfl (COps.done [2, 3, 4] [] rfl ?_)
  refine CWp.ret ?_
  cases h
  exact ⟨.inl rfl, rfl, rfl⟩
 ·refine CWp.skip ?_
  refine CWp.seq (CWp.region ?_)
  refine rn 1 rfl ?_
  obtain ⟨v2, hv2, h⟩ := bI h
  refine pCall Tryz.call44 (g_ref04_Lines_w hv2) rfl ?_
  refine rh 1 [] [5] rfl trivial ?_
  refine COps.done [5] [] rfl ?_
  refine CWp.seq (CWp.region ?_)
  refine rn 1 rfl (COps.done [5, 6] [] rfl ?_)
  refine CWp.mid (fun e => ∃ x3, e = ⟨[(6, [], .list true 50 (x3.map eSAct))], [], [], [], base⟩ ∧ g_ref26_Read_k1 x3 = some r) ?_ ?_
  ·refine CWp.seq (CWp.region ?_)
   refine rn 1 rfl (COps.done [5, 6, 7] [] rfl ?_)
   refine CWp.block ?_
   refine CWp.loop (fun m2 e => ∃ x4 x5, e = ⟨[(5, [], .list true 75 (v2.map (fun x => .list false 81 (x.map eSField)))), (6, [], .list true 50 (x4.map eSAct)), (7, [], zI x5)], [], [], [], base⟩ ∧ g_ref26_Read_l2 v2 (g_ref26_Read_k1) m2 x4 x5 = some r) FUEL ⟨_, _, rfl, h⟩ ?_ ?_
   ·rintro m2 _ ⟨x4, x5, rfl, h⟩
    rw [g_ref26_Read_l2] at h
    refine CWp.seq (CWp.seq (CWp.region ?_))
    refine rh 4 [v2.length] [] rfl ⟨List.length_map .., trivial⟩ ?_
    refine COps.done [5, 6, 7, 20] [] rfl ?_
    refine CWp.cond h rfl (fun h => ?_) (fun h => ?_)
    ·refine CWp.skip ?_
     refine CWp.mid (fun e => ∃ x6, e = ⟨[(5, [], .list true 75 (v2.map (fun x => .list false 81 (x.map eSField)))), (6, [], .list true 50 (x6.map eSAct)), (7, [], zI x5)], [], [], [], base⟩ ∧ g_ref26_Read_k3 x5 (g_ref26_Read_l2 v2 (g_ref26_Read_k1) m2) x6 = some r) ?_ ?_
     ·refine CWp.block ?_
      refine CWp.seq (CWp.region ?_)
      refine rn 1 rfl (COps.done [5, 6, 7, 8] [] rfl ?_)
      refine CWp.mid (fun e => ∃ x7, e = ⟨[(5, [], .list true 75 (v2.map (fun x => .list false 81 (x.map eSField)))), (6, [], .list true 50 (x4.map eSAct)), (7, [], zI x5), (8, [], .list true 9 (x7.map AV.str))], [], [], [], base⟩ ∧ g_ref26_Read_k4 v2 x4 x5 (g_ref26_Read_l2 v2 (g_ref26_Read_k1) m2) x7 = some r) ?_ ?_
      ·refine CWp.seq (CWp.region ?_)
       refine rn 1 rfl (COps.done [5, 6, 7, 8, 9] [] rfl ?_)
       refine CWp.block ?_
       refine CWp.loop (fun m5 e => ∃ x12 x13, e = ⟨[(5, [], .list true 75 (v2.map (fun x => .list false 81 (x.map eSField)))), (6, [], .list true 50 (x4.map eSAct)), (7, [], zI x5), (8, [], .list true 9 (x12.map AV.str)), (9, [], zI x13)], [], [], [], base⟩ ∧ g_ref26_Read_l5 v2 x5 (g_ref26_Read_k4 v2 x4 x5 (g_ref26_Read_l2 v2 (g_ref26_Read_k1) m2)) m5 x12 x13 = some r) FUEL ⟨_, _, rfl, h⟩ ?_ ?_
       ·rintro m5 _ ⟨x12, x13, rfl, h⟩
        rw [g_ref26_Read_l5] at h
        refine CWp.seq (CWp.seq (CWp.region ?_))
        obtain ⟨v14, hv14, h⟩ := bI h
        refine rn 3 rfl ?_
        refine rd (rIx hv14) ?_
        refine rh 3 [v14.length] [] rfl ⟨List.length_map .., trivial⟩ ?_
        refine COps.done [5, 6, 7, 8, 9, 29] [] rfl ?_
        refine CWp.cond h rfl (fun h => ?_) (fun h => ?_)
        ·refine CWp.skip ?_
         refine CWp.seq (CWp.block ?_)
         refine CWp.region ?_
         obtain ⟨v15, hv15, h⟩ := bI h
         refine rh 3 [] [32] rfl trivial ?_
         refine rd (rIx hv15) ?_
         obtain ⟨v16, hv16, h⟩ := bI h
         refine rn 2 rfl ?_
         refine rd (rIx hv16) ?_
         obtain ⟨v17, hv17, h⟩ := bI h
         refine rn 3 rfl ?_
         refine cApp hv17 ?_
         refine rh 1 [] [8] rfl trivial ?_
         refine COps.done [5, 6, 7, 8, 9] [] rfl ?_
         refine CWp.region ?_
         refine rn 3 rfl (COps.done [5, 6, 7, 8, 9] [] rfl ?_)
         exact ⟨_, _, rfl, h⟩
        ·refine CWp.keep [5, 6, 7, 8] [] rfl ?_
         refine CWp.exit ?_
         exact ⟨_, rfl, h⟩
       ·rintro _ ⟨_, _, _, h⟩
        rw [g_ref26_Read_l5] at h; cases h
      ·rintro _ ⟨x7, rfl, h⟩
       unfold g_ref26_Read_k4 at h
       refine CWp.seq (CWp.region ?_)
       refine rn 1 rfl ?_
       obtain ⟨v8, hv8, h⟩ := bI h
       refine pCall Tryz.call45 (g_ref26_Line_w hv8) rfl ?_
       refine rn 6 rfl ?_
       refine COps.done [5, 6, 7, 10, 11] [10] rfl ?_
       refine CWp.seq (CWp.seq (CWp.region ?_))
       refine rn 2 rfl ?_
       refine COps.done [5, 6, 7, 10, 49] [10] rfl ?_
       refine CWp.cond h rfl (fun h => ?_) (fun h => ?_)
       ·refine CWp.seq ?_
        refine CWp.drawn 10 (by kernel_rfl) ?_
        obtain ⟨v9, hv9, h⟩ := bI h
        refine pn 2 rfl ?_
        refine pd (rIx hv9) ?_
        obtain ⟨v10, hv10, h⟩ := bI h
        refine pn 1 rfl ?_
        refine pd (rIx hv10) ?_
        refine pn 5 rfl ?_
        refine COpsE.nil ?_
        refine COps.done [2, 3, 4] [] rfl ?_
        refine CWp.ret ?_
        cases h
        exact ⟨.inl rfl, rfl, rfl⟩
       ·refine CWp.skip ?_
        refine CWp.region ?_
        obtain ⟨v11, hv11, h⟩ := bI h
        refine rh 3 [] [57] rfl trivial ?_
        refine cApp hv11 ?_
        refine rh 1 [] [6] rfl trivial ?_
        refine COps.done [5, 6, 7] [] rfl ?_
        exact ⟨_, rfl, h⟩
     ·rintro _ ⟨x6, rfl, h⟩
      unfold g_ref26_Read_k3 at h
      refine CWp.region ?_
      refine rn 3 rfl (COps.done [5, 6, 7] [] rfl ?_)
      exact ⟨_, _, rfl, h⟩
    ·refine CWp.keep [6] [] rfl ?_
     refine CWp.exit ?_
     exact ⟨_, rfl, h⟩
   ·rintro _ ⟨_, _, _, h⟩
    rw [g_ref26_Read_l2] at h; cases h
  ·rintro _ ⟨x3, rfl, h⟩
   unfold g_ref26_Read_k1 at h
   refine CWp.seq (CWp.region ?_)
   refine rh 4 [] [61, 2] rfl trivial ?_
   refine COps.done [2, 3, 4] [] rfl ?_
   refine CWp.ret ?_
   cases h
   exact ⟨.inl rfl, rfl, rfl⟩
def g_ref26_sameRaw_k2 : Option Bool :=
 some true
def g_ref26_sameRaw_k4 (x1 : Int) (q3 : Int → Option Bool) : Option Bool :=
 q3 (w64 (x1 + 1))
def g_ref26_sameRaw_l3 (a0 : SRaw) (a1 : SRaw) (k390 : Option Bool) : Nat → Int → Option Bool
 | 0, _ => none
 | m3 + 1, x1 =>
  bif decide (x1 < (a0.use.length : Int)) then
   bO (idx a0.use x1) fun v2 =>
   bO (idx a1.use x1) fun v3 =>
   bif !(v2.id == v3.id) then
    some false
   else
    bO (idx a0.use x1) fun v4 =>
    bO (idx a1.use x1) fun v5 =>
    bO (g_ref03_Alike v4.amount.a v5.amount.a) fun v6 =>
    bif !v6 then
     some false
    else
     bO (idx a0.use x1) fun v7 =>
     bO (idx a1.use x1) fun v8 =>
     bO (g_ref03_Alike v7.amount.b v8.amount.b) fun v9 =>
     bif !v9 then
      some false
     else
      bO (idx a0.use x1) fun v10 =>
      bO (idx a1.use x1) fun v11 =>
      bO (g_ref03_Alike v10.amount.c v11.amount.c) fun v12 =>
      bif !v12 then
       some false
      else
       g_ref26_sameRaw_k4 x1 (g_ref26_sameRaw_l3 a0 a1 k390 m3)
  else
   k390
def g_ref26_sameRaw_k1 (a0 : SRaw) (a1 : SRaw) : Option Bool :=
 g_ref26_sameRaw_l3 a0 a1 g_ref26_sameRaw_k2 FUEL 0
def g_ref26_sameRaw (a0 : SRaw) (a1 : SRaw) : Option Bool :=
 bif (a0.time != a1.time) || ((a0.use.length : Int) != (a1.use.length : Int)) then
  some false
 else
  bO (g_ref03_Alike a0.avail.a a1.avail.a) fun v13 =>
  bif !v13 then
   some false
  else
   bO (g_ref03_Alike a0.avail.b a1.avail.b) fun v14 =>
   bif !v14 then
    some false
   else
    bO (g_ref03_Alike a0.avail.c a1.avail.c) fun v15 =>
    bif !v15 then
     some false
    else
     g_ref26_sameRaw_k1 a0 a1
theorem g_ref26_sameRaw_w {a0 : SRaw} {a1 : SRaw} {r : Bool} (h : g_ref26_sameRaw a0 a1 = some r) : PCall Tryz.prog 46 [eSRaw a0, eSRaw a1] (zB r) := by
 refine PCall.body Tryz.func46 rfl rfl rfl rfl fun base => ?_
 unfold g_ref26_sameRaw at h
 refine CWp.seq (CWp.region ?_)
 refine rn 3 rfl ?_
 refine COps.done [2, 3] [2, 3] rfl ?_
 refine CWp.seq (CWp.seq (CWp.region ?_))
 refine rh 14 [a0.use.length, a1.use.length] [] rfl ⟨List.length_map .., List.length_map .., trivial⟩ ?_
 refine COps.done [2, 3, 21] [2, 3] rfl ?_
 refine CWp.cond h rfl (fun h => ?_) (fun h => ?_)
 ·refine CWp.seq (CWp.region ?_)
  refine rn 1 rfl (COps.done [4] [] rfl ?_)
  refine CWp.ret ?_
  cases h
  exact ⟨.inl rfl, rfl, rfl⟩
 ·refine CWp.skip ?_
  refine CWp.mid (fun e => e = ⟨[(2, [], .lptr 2 0), (3, [], .lptr 3 0)], [], [(2, [zI a0.time, zF a0.avail.a, zF a0.avail.b, zF a0.avail.c, .list false 114 (a0.use.map eSUsage)]), (3, [zI a1.time, zF a1.avail.a, zF a1.avail.b, zF a1.avail.c, .list false 114 (a1.use.map eSUsage)])], [], base⟩ ∧ g_ref26_sameRaw_k1 a0 a1 = some r) ?_ ?_
  ·refine CWp.seq (CWp.region ?_)
   refine rn 1 rfl ?_
   refine COps.done [2, 3, 5] [2, 3] rfl ?_
   refine CWp.block ?_
   refine CWp.unroll 4 ?_
   refine crd ?_
   refine CWp.seq (CWp.seq (CWp.region ?_))
   refine rn 2 rfl ?_
   refine COps.done [2, 3, 5, 23] [2, 3] rfl ?_
   refine CWp.condT rfl (by decide) ?_
   refine CWp.skip ?_
   refine CWp.seq (CWp.block ?_)
   refine CWp.seq ?_
   refine CWp.drawn 10 (by kernel_rfl) ?_
   refine pn 8 rfl ?_
   obtain ⟨v13, hv13, h⟩ := bI h
   refine qCall Tryz.call16 (g_ref03_Alike_w hv13) rfl ?_
   refine pn 1 rfl ?_
   refine COpsE.nil ?_
   refine COps.done [2, 3, 5, 35] [2, 3] rfl ?_
   refine CWp.cond h rfl (fun h => ?_) (fun h => ?_)
   ·refine CWp.seq (CWp.region ?_)
    refine rn 1 rfl (COps.done [4] [] rfl ?_)
    refine CWp.ret ?_
    cases h
    exact ⟨.inl rfl, rfl, rfl⟩
   ·refine CWp.skip ?_
    refine CWp.region ?_
    refine rn 3 rfl ?_
    refine COps.done [2, 3, 5] [2, 3] rfl ?_
    refine crd ?_
    refine CWp.seq (CWp.seq (CWp.region ?_))
    refine rn 2 rfl ?_
    refine COps.done [2, 3, 5, 23] [2, 3] rfl ?_
    refine CWp.condT rfl (by decide) ?_
    refine CWp.skip ?_
    refine CWp.seq (CWp.block ?_)
    refine CWp.seq ?_
    refine CWp.drawn 10 (by kernel_rfl) ?_
    refine pn 8 rfl ?_
    obtain ⟨v14, hv14, h⟩ := bI h
    refine qCall Tryz.call16 (g_ref03_Alike_w hv14) rfl ?_
    refine pn 1 rfl ?_
    refine COpsE.nil ?_
    refine COps.done [2, 3, 5, 35] [2, 3] rfl ?_
    refine CWp.cond h rfl (fun h => ?_) (fun h => ?_)
    ·refine CWp.seq (CWp.region ?_)
     refine rn 1 rfl (COps.done [4] [] rfl ?_)
     refine CWp.ret ?_
     cases h
     exact ⟨.inl rfl, rfl, rfl⟩
    ·refine CWp.skip ?_
     refine CWp.region ?_
     refine rn 3 rfl ?_
     refine COps.done [2, 3, 5] [2, 3] rfl ?_
     refine crd ?_
     refine CWp.seq (CWp.seq (CWp.region ?_))
     refine rn 2 rfl ?_
     refine COps.done [2, 3, 5, 23] [2, 3] rfl ?_
     refine CWp.condT rfl (by decide) ?_
     refine CWp.skip ?_
     refine CWp.seq (CWp.block ?_)
     refine CWp.seq ?_
     refine CWp.drawn 10 (by kernel_rfl) ?_
     refine pn 8 rfl ?_
     obtain ⟨v15, hv15, h⟩ := bI h
     refine qCall Tryz.call16 (g_ref03_Alike_w hv15) rfl ?_
     refine pn 1 rfl ?_
     refine COpsE.nil ?_
     refine COps.done [2, 3, 5, 35] [2, 3] rfl ?_
     refine CWp.cond h rfl (fun h => ?_) (fun h => ?_)
     ·refine CWp.seq (CWp.region ?_)
      refine rn 1 rfl (COps.done [4] [] rfl ?_)
      refine CWp.ret ?_
      cases h
      exact ⟨.inl rfl, rfl, rfl⟩
     ·refine CWp.skip ?_
      refine CWp.region ?_
      refine rn 3 rfl ?_
      refine COps.done [2, 3, 5] [2, 3] rfl ?_
      refine crd ?_
      refine CWp.seq (CWp.seq (CWp.region ?_))
      refine rn 2 rfl ?_
      refine COps.done [2, 3, 5, 23] [2, 3] rfl ?_
      refine CWp.condF rfl (by decide) ?_
      refine CWp.keep [2, 3] [2, 3] rfl ?_
      refine CWp.exit ?_
      exact ⟨rfl, h⟩
  ·rintro _ ⟨rfl, h⟩
   unfold g_ref26_sameRaw_k1 at h
   refine CWp.mid (fun e => e = ⟨[], [], [], [], base⟩ ∧ g_ref26_sameRaw_k2 = some r) ?_ ?_
   ·refine CWp.seq (CWp.region ?_)
    refine rn 1 rfl ?_
    refine COps.done [2, 3, 6] [2, 3] rfl ?_
    refine CWp.block ?_
    refine CWp.loop (fun m3 e => ∃ x1, e = ⟨[(2, [], .lptr 2 0), (3, [], .lptr 3 0), (6, [], zI x1)], [], [(2, [zI a0.time, zF a0.avail.a, zF a0.avail.b, zF a0.avail.c, .list false 114 (a0.use.map eSUsage)]), (3, [zI a1.time, zF a1.avail.a, zF a1.avail.b, zF a1.avail.c, .list false 114 (a1.use.map eSUsage)])], [], base⟩ ∧ g_ref26_sameRaw_l3 a0 a1 (g_ref26_sameRaw_k2) m3 x1 = some r) FUEL ⟨_, rfl, h⟩ ?_ ?_
    ·rintro m3 _ ⟨x1, rfl, h⟩
     rw [g_ref26_sameRaw_l3] at h
     refine CWp.seq (CWp.seq (CWp.region ?_))
     refine rh 5 [a0.use.length] [] rfl ⟨List.length_map .., trivial⟩ ?_
     refine COps.done [2, 3, 6, 40] [2, 3] rfl ?_
     refine CWp.cond h rfl (fun h => ?_) (fun h => ?_)
     ·refine CWp.skip ?_
      refine CWp.mid (fun e => e = ⟨[(2, [], .lptr 2 0), (3, [], .lptr 3 0), (6, [], zI x1)], [], [(2, [zI a0.time, zF a0.avail.a, zF a0.avail.b, zF a0.avail.c, .list false 114 (a0.use.map eSUsage)]), (3, [zI a1.time, zF a1.avail.a, zF a1.avail.b, zF a1.avail.c, .list false 114 (a1.use.map eSUsage)])], [], base⟩ ∧ g_ref26_sameRaw_k4 x1 (g_ref26_sameRaw_l3 a0 a1 (g_ref26_sameRaw_k2) m3) = some r) ?_ ?_
      ·refine CWp.block ?_
       refine CWp.seq (CWp.seq ?_)
       refine CWp.drawn 13 (by kernel_rfl) ?_
       obtain ⟨v2, hv2, h⟩ := bI h
       refine pn 3 rfl ?_
       refine pd (rIx hv2) ?_
       obtain ⟨v3, hv3, h⟩ := bI h
       refine pn 5 rfl ?_
       refine pd (rIx hv3) ?_
       refine pn 3 rfl ?_
       refine COpsE.nil ?_
       refine COps.done [2, 3, 6, 55] [2, 3] rfl ?_
       refine CWp.cond h rfl (fun h => ?_) (fun h => ?_)
       ·refine CWp.seq (CWp.region ?_)
        refine rn 1 rfl (COps.done [4] [] rfl ?_)
        refine CWp.ret ?_
        cases h
        exact ⟨.inl rfl, rfl, rfl⟩
       ·refine CWp.skip ?_
        refine CWp.seq (CWp.region ?_)
        refine rn 1 rfl ?_
        refine COps.done [2, 3, 6, 7] [2, 3] rfl ?_
        refine CWp.block ?_
        refine CWp.unroll 4 ?_
        refine crd ?_
        refine CWp.seq (CWp.seq (CWp.region ?_))
        refine rn 2 rfl ?_
        refine COps.done [2, 3, 6, 7, 57] [2, 3] rfl ?_
        refine CWp.condT rfl (by decide) ?_
        refine CWp.skip ?_
        refine CWp.seq (CWp.block ?_)
        refine CWp.seq ?_
        refine CWp.drawn 18 (by kernel_rfl) ?_
        obtain ⟨v4, hv4, h⟩ := bI h
        refine pn 4 rfl ?_
        refine pd (rIx hv4) ?_
        obtain ⟨v5, hv5, h⟩ := bI h
        refine pn 7 rfl ?_
        refine pd (rIx hv5) ?_
        refine pn 3 rfl ?_
        obtain ⟨v6, hv6, h⟩ := bI h
        refine qCall Tryz.call16 (g_ref03_Alike_w hv6) rfl ?_
        refine pn 1 rfl ?_
        refine COpsE.nil ?_
        refine COps.done [2, 3, 6, 7, 77] [2, 3] rfl ?_
        refine CWp.cond h rfl (fun h => ?_) (fun h => ?_)
        ·refine CWp.seq (CWp.region ?_)
         refine rn 1 rfl (COps.done [4] [] rfl ?_)
         refine CWp.ret ?_
         cases h
         exact ⟨.inl rfl, rfl, rfl⟩
        ·refine CWp.skip ?_
         refine CWp.region ?_
         refine rn 3 rfl ?_
         refine COps.done [2, 3, 6, 7] [2, 3] rfl ?_
         refine crd ?_
         refine CWp.seq (CWp.seq (CWp.region ?_))
         refine rn 2 rfl ?_
         refine COps.done [2, 3, 6, 7, 57] [2, 3] rfl ?_
         refine CWp.condT rfl (by decide) ?_
         refine CWp.skip ?_
         refine CWp.seq (CWp.block ?_)
         refine CWp.seq ?_
         refine CWp.drawn 18 (by kernel_rfl) ?_
         obtain ⟨v7, hv7, h⟩ := bI h
         refine pn 4 rfl ?_
         refine pd (rIx hv7) ?_
         obtain ⟨v8, hv8, h⟩ := bI h
         refine pn 7 rfl ?_
         refine pd (rIx hv8) ?_
         refine pn 3 rfl ?_
         obtain ⟨v9, hv9, h⟩ := bI h
         refine qCall Tryz.call16 (g_ref03_Alike_w hv9) rfl ?_
         refine pn 1 rfl ?_
         refine COpsE.nil ?_
         refine COps.done [2, 3, 6, 7, 77] [2, 3] rfl ?_
         refine CWp.cond h rfl (fun h => ?_) (fun h => ?_)
         ·refine CWp.seq (CWp.region ?_)
          refine rn 1 rfl (COps.done [4] [] rfl ?_)
          refine CWp.ret ?_
          cases h
          exact ⟨.inl rfl, rfl, rfl⟩
         ·refine CWp.skip ?_
          refine CWp.region ?_
          refine rn 3 rfl ?_
          refine COps.done [2, 3, 6, 7] [2, 3] rfl ?_
          refine crd ?_
          refine CWp.seq (CWp.seq (CWp.region ?_))
          refine rn 2 rfl ?_
          refine COps.done [2, 3, 6, 7, 57] [2, 3] rfl ?_
          refine CWp.condT rfl (by decide) ?_
          refine CWp.skip ?_
          refine CWp.seq (CWp.block ?_)
          refine CWp.seq ?_
          refine CWp.drawn 18 (by kernel_rfl) ?_
          obtain ⟨v10, hv10, h⟩ := bI h
          refine pn 4 rfl ?_
          refine pd (rIx hv10) ?_
          obtain ⟨v11, hv11, h⟩ := bI h
          refine pn 7 rfl ?_
          refine pd (rIx hv11) ?_
          refine pn 3 rfl ?_
          obtain ⟨v12, hv12, h⟩ := bI h
          refine qCall Tryz.call16 (g_ref03_Alike_w hv12) rfl ?_
          refine pn 1 rfl ?_
          refine COpsE.nil ?_
          refine COps.done [2, 3, 6, 7, 77] [2, 3] rfl ?_
          refine CWp.cond h rfl (fun h => ?_) (fun h => ?_)
          ·refine CWp.seq (CWp.region ?_)
           refine rn 1 rfl (COps.done [4] [] rfl ?_)
           refine CWp.ret ?_
           cases h
           exact ⟨.inl rfl, rfl, rfl⟩
          ·refine CWp.skip ?_
           refine CWp.region ?_
           refine rn 3 rfl ?_
           refine COps.done [2, 3, 6, 7] [2, 3] rfl ?_
           refine crd ?_
           refine CWp.seq (CWp.seq (CWp.region ?_))
           refine rn 2 rfl ?_
           refine COps.done [2, 3, 6, 7, 57] [2, 3] rfl ?_
           refine CWp.condF rfl (by decide) ?_
           refine CWp.keep [2, 3, 6] [2, 3] rfl ?_
           refine CWp.exit ?_
           exact ⟨rfl, h⟩
      ·rintro _ ⟨rfl, h⟩
       unfold g_ref26_sameRaw_k4 at h
       refine CWp.region ?_
       refine rn 3 rfl ?_
       refine COps.done [2, 3, 6] [2, 3] rfl ?_
       exact ⟨_, rfl, h⟩
     ·refine CWp.keep [] [] rfl ?_
      refine CWp.exit ?_
      exact ⟨rfl, h⟩
    ·rintro _ ⟨_, _, h⟩
     rw [g_ref26_sameRaw_l3] at h; cases h
   ·rintro _ ⟨rfl, h⟩
    unfold g_ref26_sameRaw_k2 at h
    refine CWp.seq (CWp.region ?_)
    refine rn 1 rfl (COps.done [4] [] rfl ?_)
    refine CWp.ret ?_
    cases h
    exact ⟨.inl rfl, rfl, rfl⟩
def g_ref26_Same_k1 : Option Bool :=
 some true
def g_ref26_Same_k3 (x1 : Int) (q2 : Int → Option Bool) : Option Bool :=
 q2 (w64 (x1 + 1))
def g_ref26_Same_l5 (a0 : List SAct) (a1 : List SAct) (x1 : Int) (k590 : Option Bool) : Nat → Int → Option Bool
 | 0, _ => none
 | m5 + 1, x5 =>
  bO (idx a0 x1) fun v6 =>
  bif decide (x5 < (v6.keep.length : Int)) then
   bO (idx a0 x1) fun v7 =>
   bO (idx v7.keep x5) fun v8 =>
   bO (idx a1 x1) fun v9 =>
   bO (idx v9.keep x5) fun v10 =>
   bif v8 != v10 then
    some false
   else
    (g_ref26_Same_l5 a0 a1 x1 k590 m5) (w64 (x5 + 1))
  else
   k590
def g_ref26_Same_k4 (a0 : List SAct) (a1 : List SAct) (x1 : Int) (q2 : Int → Option Bool) : Option Bool :=
 g_ref26_Same_l5 a0 a1 x1 (g_ref26_Same_k3 x1 q2) FUEL 0
def g_ref26_Same_l6 (a0 : List SAct) (a1 : List SAct) (x1 : Int) (k690 : Option Bool) : Nat → Int → Option Bool
 | 0, _ => none
 | m6 + 1, x11 =>
  bO (idx a0 x1) fun v12 =>
  bif decide (x11 < (v12.well.length : Int)) then
   bO (idx a0 x1) fun v13 =>
   bO (idx v13.well x11) fun v14 =>
   bO (idx a1 x1) fun v15 =>
   bO (idx v15.well x11) fun v16 =>
   bif !(v14 == v16) then
    some false
   else
    (g_ref26_Same_l6 a0 a1 x1 k690 m6) (w64 (x11 + 1))
  else
   k690
def g_ref26_Same_l2 (a0 : List SAct) (a1 : List SAct) (k290 : Option Bool) : Nat → Int → Option Bool
 | 0, _ => none
 | m2 + 1, x1 =>
  bif decide (x1 < (a0.length : Int)) then
   bO (idx a0 x1) fun v2 =>
   bO (idx a1 x1) fun v3 =>
   bO (bif ((((((v2.do_ != v3.do_) || (!(qSPod v2.pod v3.pod))) || (!(v2.id == v3.id))) || (v2.steps != v3.steps)) || ((v2.well.length : Int) != (v3.well.length : Int))) || ((v2.keep.length : Int) != (v3.keep.length : Int))) then some default else (g_ref26_sameRaw v2.raw v3.raw)) fun v4 =>
   bif ((((((v2.do_ != v3.do_) || (!(qSPod v2.pod v3.pod))) || (!(v2.id == v3.id))) || (v2.steps != v3.steps)) || ((v2.well.length : Int) != (v3.well.length : Int))) || ((v2.keep.length : Int) != (v3.keep.length : Int))) || (!v4) then
    some false
   else
    g_ref26_Same_l6 a0 a1 x1 (g_ref26_Same_k4 a0 a1 x1 (g_ref26_Same_l2 a0 a1 k290 m2)) FUEL 0
  else
   k290
def g_ref26_Same (a0 : List SAct) (a1 : List SAct) : Option Bool :=
 bif (a0.length : Int) != (a1.length : Int) then
  some false
 else
  g_ref26_Same_l2 a0 a1 g_ref26_Same_k1 FUEL 0
theorem g_ref26_Same_w {a0 : List SAct} {a1 : List SAct} {r : Bool} (h : g_ref26_Same a0 a1 = some r) : PCall Tryz.prog 22 [.list false 50 (a0.map eSAct), .list false 50 (a1.map eSAct)] (zB r) := by
 refine PCall.body Tryz.func22 rfl rfl rfl rfl fun base => ?_
 unfold g_ref26_Same at h
 refine CWp.seq (CWp.region ?_)
 refine rn 1 rfl (COps.done [0, 1] [] rfl ?_)
 refine CWp.seq (CWp.seq (CWp.region ?_))
 refine rh 5 [a0.length, a1.length] [] rfl ⟨List.length_map .., List.length_map .., trivial⟩ ?_
 refine COps.done [0, 1, 12] [] rfl ?_
 refine CWp.cond h rfl (fun h => ?_) (fun h => ?_)
 ·refine CWp.seq (CWp.region ?_)
  refine rn 1 rfl (COps.done [4] [] rfl ?_)
  refine CWp.ret ?_
  cases h
  exact ⟨.inl rfl, rfl, rfl⟩
 ·refine CWp.skip ?_
  refine CWp.mid (fun e => e = ⟨[], [], [], [], base⟩ ∧ g_ref26_Same_k1 = some r) ?_ ?_
  ·refine CWp.seq (CWp.region ?_)
   refine rn 1 rfl (COps.done [0, 1, 5] [] rfl ?_)
   refine CWp.block ?_
   refine CWp.loop (fun m2 e => ∃ x1, e = ⟨[(0, [], .list false 50 (a0.map eSAct)), (1, [], .list false 50 (a1.map eSAct)), (5, [], zI x1)], [], [], [], base⟩ ∧ g_ref26_Same_l2 a0 a1 (g_ref26_Same_k1) m2 x1 = some r) FUEL ⟨_, rfl, h⟩ ?_ ?_
   ·rintro m2 _ ⟨x1, rfl, h⟩
    rw [g_ref26_Same_l2] at h
    refine CWp.seq (CWp.seq (CWp.region ?_))
    refine rh 4 [a0.length] [] rfl ⟨List.length_map .., trivial⟩ ?_
    refine COps.done [0, 1, 5, 16] [] rfl ?_
    refine CWp.cond h rfl (fun h => ?_) (fun h => ?_)
    ·refine CWp.skip ?_
     refine CWp.mid (fun e => e = ⟨[(0, [], .list false 50 (a0.map eSAct)), (1, [], .list false 50 (a1.map eSAct)), (5, [], zI x1)], [], [], [], base⟩ ∧ g_ref26_Same_k3 x1 (g_ref26_Same_l2 a0 a1 (g_ref26_Same_k1) m2) = some r) ?_ ?_
     ·refine CWp.block ?_
      refine CWp.seq (CWp.seq ?_)
      refine CWp.drawn 94 (by kernel_rfl) ?_
      obtain ⟨v2, hv2, h⟩ := bI h
      refine pn 2 rfl ?_
      refine pd (rIx hv2) ?_
      obtain ⟨v3, hv3, h⟩ := bI h
      refine pn 4 rfl ?_
      refine pd (rIx hv3) ?_
      refine pn 6 rfl ?_
      refine pdg 30 false [] (fun ht => rIx hv2) ?_
      refine pn 4 rfl ?_
      refine pdg 30 false [] (fun ht => rIx hv3) ?_
      refine pn 2 rfl ?_
      refine pdg 30 false [] (fun _ => rNe (a := v2.pod) (b := v3.pod) EqSPod) ?_
      refine pn 4 rfl ?_
      refine pdg 43 false [] (fun ht => rIx hv2) ?_
      refine pn 4 rfl ?_
      refine pdg 43 false [] (fun ht => rIx hv3) ?_
      refine pn 7 rfl ?_
      refine pdg 56 false [] (fun ht => rIx hv2) ?_
      refine pn 4 rfl ?_
      refine pdg 56 false [] (fun ht => rIx hv3) ?_
      refine pn 7 rfl ?_
      refine pdg 69 false [] (fun ht => rIx hv2) ?_
      refine ph 5 [v2.well.length] rfl ⟨List.length_map .., trivial⟩ ?_
      refine pdg 69 false [] (fun ht => rIx hv3) ?_
      refine ph 8 [v3.well.length] rfl ⟨List.length_map .., trivial⟩ ?_
      refine pdg 84 false [] (fun ht => rIx hv2) ?_
      refine ph 5 [v2.keep.length] rfl ⟨List.length_map .., trivial⟩ ?_
      refine pdg 84 false [] (fun ht => rIx hv3) ?_
      refine ph 8 [v3.keep.length] rfl ⟨List.length_map .., trivial⟩ ?_
      refine pdg 99 false [] (fun ht => rIx hv2) ?_
      refine pn 4 rfl ?_
      refine pdg 99 false [] (fun ht => rIx hv3) ?_
      refine pn 2 rfl ?_
      obtain ⟨v4, hv4, h⟩ := bI h
      refine qCallg 99 false [] Tryz.call46 (fun ht => g_ref26_sameRaw_w (gdf hv4 (ht.1 _ rfl))) rfl ?_
      refine pn 2 rfl ?_
      refine COpsE.nil ?_
      refine COps.done [0, 1, 5, 112] [] rfl ?_
      refine CWp.cond h rfl (fun h => ?_) (fun h => ?_)
      ·refine CWp.seq (CWp.region ?_)
       refine rn 1 rfl (COps.done [4] [] rfl ?_)
       refine CWp.ret ?_
       cases h
       exact ⟨.inl rfl, rfl, rfl⟩
      ·refine CWp.skip ?_
       refine CWp.mid (fun e => e = ⟨[(0, [], .list false 50 (a0.map eSAct)), (1, [], .list false 50 (a1.map eSAct)), (5, [], zI x1)], [], [], [], base⟩ ∧ g_ref26_Same_k4 a0 a1 x1 (g_ref26_Same_l2 a0 a1 (g_ref26_Same_k1) m2) = some r) ?_ ?_
       ·refine CWp.seq (CWp.region ?_)
        refine rn 1 rfl (COps.done [0, 1, 5, 6] [] rfl ?_)
        refine CWp.block ?_
        refine CWp.loop (fun m6 e => ∃ x11, e = ⟨[(0, [], .list false 50 (a0.map eSAct)), (1, [], .list false 50 (a1.map eSAct)), (5, [], zI x1), (6, [], zI x11)], [], [], [], base⟩ ∧ g_ref26_Same_l6 a0 a1 x1 (g_ref26_Same_k4 a0 a1 x1 (g_ref26_Same_l2 a0 a1 (g_ref26_Same_k1) m2)) m6 x11 = some r) FUEL ⟨_, rfl, h⟩ ?_ ?_
        ·rintro m6 _ ⟨x11, rfl, h⟩
         rw [g_ref26_Same_l6] at h
         refine CWp.seq (CWp.seq (CWp.region ?_))
         obtain ⟨v12, hv12, h⟩ := bI h
         refine rn 3 rfl ?_
         refine rd (rIx hv12) ?_
         refine rh 4 [v12.well.length] [] rfl ⟨List.length_map .., trivial⟩ ?_
         refine COps.done [0, 1, 5, 6, 120] [] rfl ?_
         refine CWp.cond h rfl (fun h => ?_) (fun h => ?_)
         ·refine CWp.skip ?_
          refine CWp.seq (CWp.block ?_)
          refine CWp.seq ?_
          refine CWp.drawn 17 (by kernel_rfl) ?_
          obtain ⟨v13, hv13, h⟩ := bI h
          refine pn 2 rfl ?_
          refine pd (rIx hv13) ?_
          obtain ⟨v14, hv14, h⟩ := bI h
          refine pn 3 rfl ?_
          refine pd (rIx hv14) ?_
          obtain ⟨v15, hv15, h⟩ := bI h
          refine pn 3 rfl ?_
          refine pd (rIx hv15) ?_
          obtain ⟨v16, hv16, h⟩ := bI h
          refine pn 3 rfl ?_
          refine pd (rIx hv16) ?_
          refine pn 2 rfl ?_
          refine COpsE.nil ?_
          refine COps.done [0, 1, 5, 6, 139] [] rfl ?_
          refine CWp.cond h rfl (fun h => ?_) (fun h => ?_)
          ·refine CWp.seq (CWp.region ?_)
           refine rn 1 rfl (COps.done [4] [] rfl ?_)
           refine CWp.ret ?_
           cases h
           exact ⟨.inl rfl, rfl, rfl⟩
          ·refine CWp.skip ?_
           refine CWp.region ?_
           refine rn 3 rfl (COps.done [0, 1, 5, 6] [] rfl ?_)
           exact ⟨_, rfl, h⟩
         ·refine CWp.keep [0, 1, 5] [] rfl ?_
          refine CWp.exit ?_
          exact ⟨rfl, h⟩
        ·rintro _ ⟨_, _, h⟩
         rw [g_ref26_Same_l6] at h; cases h
       ·rintro _ ⟨rfl, h⟩
        unfold g_ref26_Same_k4 at h
        refine CWp.seq (CWp.region ?_)
        refine rn 1 rfl (COps.done [0, 1, 5, 7] [] rfl ?_)
        refine CWp.block ?_
        refine CWp.loop (fun m5 e => ∃ x5, e = ⟨[(0, [], .list false 50 (a0.map eSAct)), (1, [], .list false 50 (a1.map eSAct)), (5, [], zI x1), (7, [], zI x5)], [], [], [], base⟩ ∧ g_ref26_Same_l5 a0 a1 x1 (g_ref26_Same_k3 x1 (g_ref26_Same_l2 a0 a1 (g_ref26_Same_k1) m2)) m5 x5 = some r) FUEL ⟨_, rfl, h⟩ ?_ ?_
        ·rintro m5 _ ⟨x5, rfl, h⟩
         rw [g_ref26_Same_l5] at h
         refine CWp.seq (CWp.seq (CWp.region ?_))
         obtain ⟨v6, hv6, h⟩ := bI h
         refine rn 3 rfl ?_
         refine rd (rIx hv6) ?_
         refine rh 4 [v6.keep.length] [] rfl ⟨List.length_map .., trivial⟩ ?_
         refine COps.done [0, 1, 5, 7, 147] [] rfl ?_
         refine CWp.cond h rfl (fun h => ?_) (fun h => ?_)
         ·refine CWp.skip ?_
          refine CWp.seq (CWp.block ?_)
          refine CWp.seq ?_
          refine CWp.drawn 17 (by kernel_rfl) ?_
          obtain ⟨v7, hv7, h⟩ := bI h
          refine pn 2 rfl ?_
          refine pd (rIx hv7) ?_
          obtain ⟨v8, hv8, h⟩ := bI h
          refine pn 3 rfl ?_
          refine pd (rIx hv8) ?_
          obtain ⟨v9, hv9, h⟩ := bI h
          refine pn 3 rfl ?_
          refine pd (rIx hv9) ?_
          obtain ⟨v10, hv10, h⟩ := bI h
          refine pn 3 rfl ?_
          refine pd (rIx hv10) ?_
          refine pn 2 rfl ?_
          refine COpsE.nil ?_
          refine COps.done [0, 1, 5, 7, 166] [] rfl ?_
          refine CWp.cond h rfl (fun h => ?_) (fun h => ?_)
          ·refine CWp.seq (CWp.region ?_)
           refine rn 1 rfl (COps.done [4] [] rfl ?_)
           refine CWp.ret ?_
           cases h
           exact ⟨.inl rfl, rfl, rfl⟩
          ·refine CWp.skip ?_
           refine CWp.region ?_
           refine rn 3 rfl (COps.done [0, 1, 5, 7] [] rfl ?_)
           exact ⟨_, rfl, h⟩
         ·refine CWp.keep [0, 1, 5] [] rfl ?_
          refine CWp.exit ?_
          exact ⟨rfl, h⟩
        ·rintro _ ⟨_, _, h⟩
         rw [g_ref26_Same_l5] at h; cases h
     ·rintro _ ⟨rfl, h⟩
      unfold g_ref26_Same_k3 at h
      refine CWp.region ?_
      refine rn 3 rfl (COps.done [0, 1, 5] [] rfl ?_)
      exact ⟨_, rfl, h⟩
    ·refine CWp.keep [] [] rfl ?_
     refine CWp.exit ?_
     exact ⟨rfl, h⟩
   ·rintro _ ⟨_, _, h⟩
    rw [g_ref26_Same_l2] at h; cases h
  ·rintro _ ⟨rfl, h⟩
   unfold g_ref26_Same_k1 at h
   refine CWp.seq (CWp.region ?_)
   refine rn 1 rfl (COps.done [4] [] rfl ?_)
   refine CWp.ret ?_
   cases h
   exact ⟨.inl rfl, rfl, rfl⟩
end Go.Proofs.YtgphopeclplahaaGreatDoor
