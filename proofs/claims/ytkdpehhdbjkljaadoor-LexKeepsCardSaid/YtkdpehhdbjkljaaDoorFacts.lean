/- Facts on this seat's types, printed by my program av.py. -/
import Derived.Test.YtkdpehhdbjkljaaDoorAvFnv
import Derived.Test.YtkdpehhdbjkljaaDoorProg
import Derived.KernelRfl
namespace Go.Proofs.YtkdpehhdbjkljaaDoor
open Go.RowKit

theorem sizeOf_2 : SizeOf Tryd.prog 2 1 := by unfold SizeOf; kernel_rfl
theorem Tryd.i2 : Tryd.prog.info? 2 = some Tryd.t2 := by kernel_rfl
theorem zero_2 : (Tryd.prog.info? 2).map (·.zero) = some (some (.int .i64 0)) := by kernel_rfl
theorem sizeOf_3 : SizeOf Tryd.prog 3 1 := by unfold SizeOf; kernel_rfl
theorem Tryd.i3 : Tryd.prog.info? 3 = some Tryd.t3 := by kernel_rfl
theorem zero_3 : (Tryd.prog.info? 3).map (·.zero) = some (some (.int .i64 0)) := by kernel_rfl
theorem sizeOf_4 : SizeOf Tryd.prog 4 1 := by unfold SizeOf; kernel_rfl
theorem Tryd.i4 : Tryd.prog.info? 4 = some Tryd.t4 := by kernel_rfl
theorem zero_4 : (Tryd.prog.info? 4).map (·.zero) = some (some (.bool false)) := by kernel_rfl
theorem sizeOf_5 : SizeOf Tryd.prog 5 1 := by unfold SizeOf; kernel_rfl
theorem Tryd.i5 : Tryd.prog.info? 5 = some Tryd.t5 := by kernel_rfl
theorem zero_5 : (Tryd.prog.info? 5).map (·.zero) = some (some (.int .u8 0)) := by kernel_rfl
theorem sizeOf_6 : SizeOf Tryd.prog 6 1 := by unfold SizeOf; kernel_rfl
theorem Tryd.i6 : Tryd.prog.info? 6 = some Tryd.t6 := by kernel_rfl
theorem zero_6 : (Tryd.prog.info? 6).map (·.zero) = some (some (.int .u8 0)) := by kernel_rfl
theorem sizeOf_7 : SizeOf Tryd.prog 7 4 := by unfold SizeOf; kernel_rfl
theorem Tryd.i7 : Tryd.prog.info? 7 = some Tryd.t7 := by kernel_rfl
theorem zero_7 : (Tryd.prog.info? 7).map (·.zero) = some (some (.agg #[.int .i64 0, .int .i64 0, .bool false, .int .u8 0])) := by kernel_rfl
def places_7 : List (Nat × Nat) := [(0, 1), (1, 1), (2, 1), (3, 1)]
theorem places_7_ok : ∀ w : World, ((match Tryd.t7.desc with | .struct fs => fs | _ => (#[] : Array Field)).mapM fun (f : Field) => (do pure (f.offset, ← sizeOf f.type) : Sem (Nat × Nat))).run Tryd.prog w = .ok places_7.toArray w := fun _ => by kernel_rfl
theorem sizeOf_8 : SizeOf Tryd.prog 8 4 := by unfold SizeOf; kernel_rfl
theorem Tryd.i8 : Tryd.prog.info? 8 = some Tryd.t8 := by kernel_rfl
theorem zero_8 : (Tryd.prog.info? 8).map (·.zero) = some (some (.agg #[.int .i64 0, .int .i64 0, .bool false, .int .u8 0])) := by kernel_rfl
def places_8 : List (Nat × Nat) := [(0, 1), (1, 1), (2, 1), (3, 1)]
theorem places_8_ok : ∀ w : World, ((match Tryd.t7.desc with | .struct fs => fs | _ => (#[] : Array Field)).mapM fun (f : Field) => (do pure (f.offset, ← sizeOf f.type) : Sem (Nat × Nat))).run Tryd.prog w = .ok places_8.toArray w := fun _ => by kernel_rfl
theorem sizeOf_9 : SizeOf Tryd.prog 9 1 := by unfold SizeOf; kernel_rfl
theorem Tryd.i9 : Tryd.prog.info? 9 = some Tryd.t9 := by kernel_rfl
theorem zero_9 : (Tryd.prog.info? 9).map (·.zero) = some (some (.string ⟨#[]⟩)) := by kernel_rfl
theorem sizeOf_10 : SizeOf Tryd.prog 10 1 := by unfold SizeOf; kernel_rfl
theorem Tryd.i10 : Tryd.prog.info? 10 = some Tryd.t10 := by kernel_rfl
theorem zero_10 : (Tryd.prog.info? 10).map (·.zero) = some (some (.string ⟨#[]⟩)) := by kernel_rfl
theorem sizeOf_11 : SizeOf Tryd.prog 11 1 := by unfold SizeOf; kernel_rfl
theorem Tryd.i11 : Tryd.prog.info? 11 = some Tryd.t11 := by kernel_rfl
theorem zero_11 : (Tryd.prog.info? 11).map (·.zero) = some (some (.string ⟨#[]⟩)) := by kernel_rfl
theorem sizeOf_12 : SizeOf Tryd.prog 12 1 := by unfold SizeOf; kernel_rfl
theorem Tryd.i12 : Tryd.prog.info? 12 = some Tryd.t12 := by kernel_rfl
theorem zero_12 : (Tryd.prog.info? 12).map (·.zero) = some (some (.int .u64 0)) := by kernel_rfl
theorem sizeOf_13 : SizeOf Tryd.prog 13 2 := by unfold SizeOf; kernel_rfl
theorem Tryd.i13 : Tryd.prog.info? 13 = some Tryd.t13 := by kernel_rfl
theorem zero_13 : (Tryd.prog.info? 13).map (·.zero) = some (some (.agg #[.string ⟨#[]⟩, .int .u64 0])) := by kernel_rfl
def places_13 : List (Nat × Nat) := [(0, 1), (1, 1)]
theorem places_13_ok : ∀ w : World, ((match Tryd.t13.desc with | .struct fs => fs | _ => (#[] : Array Field)).mapM fun (f : Field) => (do pure (f.offset, ← sizeOf f.type) : Sem (Nat × Nat))).run Tryd.prog w = .ok places_13.toArray w := fun _ => by kernel_rfl
theorem sizeOf_14 : SizeOf Tryd.prog 14 2 := by unfold SizeOf; kernel_rfl
theorem Tryd.i14 : Tryd.prog.info? 14 = some Tryd.t14 := by kernel_rfl
theorem zero_14 : (Tryd.prog.info? 14).map (·.zero) = some (some (.agg #[.string ⟨#[]⟩, .int .u64 0])) := by kernel_rfl
def places_14 : List (Nat × Nat) := [(0, 1), (1, 1)]
theorem places_14_ok : ∀ w : World, ((match Tryd.t13.desc with | .struct fs => fs | _ => (#[] : Array Field)).mapM fun (f : Field) => (do pure (f.offset, ← sizeOf f.type) : Sem (Nat × Nat))).run Tryd.prog w = .ok places_14.toArray w := fun _ => by kernel_rfl
theorem sizeOf_15 : SizeOf Tryd.prog 15 1 := by unfold SizeOf; kernel_rfl
theorem Tryd.i15 : Tryd.prog.info? 15 = some Tryd.t15 := by kernel_rfl
theorem zero_15 : (Tryd.prog.info? 15).map (·.zero) = some (some (.pointer none)) := by kernel_rfl
theorem sizeOf_16 : SizeOf Tryd.prog 16 1 := by unfold SizeOf; kernel_rfl
theorem Tryd.i16 : Tryd.prog.info? 16 = some Tryd.t16 := by kernel_rfl
theorem zero_16 : (Tryd.prog.info? 16).map (·.zero) = some (some (.pointer none)) := by kernel_rfl
theorem sizeOf_17 : SizeOf Tryd.prog 17 1 := by unfold SizeOf; kernel_rfl
theorem Tryd.i17 : Tryd.prog.info? 17 = some Tryd.t17 := by kernel_rfl
theorem zero_17 : (Tryd.prog.info? 17).map (·.zero) = some (some (.pointer none)) := by kernel_rfl
theorem sizeOf_18 : SizeOf Tryd.prog 18 1 := by unfold SizeOf; kernel_rfl
theorem Tryd.i18 : Tryd.prog.info? 18 = some Tryd.t18 := by kernel_rfl
theorem zero_18 : (Tryd.prog.info? 18).map (·.zero) = some (some (.agg #[.pointer none])) := by kernel_rfl
def places_18 : List (Nat × Nat) := [(0, 1)]
theorem places_18_ok : ∀ w : World, ((match Tryd.t18.desc with | .struct fs => fs | _ => (#[] : Array Field)).mapM fun (f : Field) => (do pure (f.offset, ← sizeOf f.type) : Sem (Nat × Nat))).run Tryd.prog w = .ok places_18.toArray w := fun _ => by kernel_rfl
theorem sizeOf_19 : SizeOf Tryd.prog 19 1 := by unfold SizeOf; kernel_rfl
theorem Tryd.i19 : Tryd.prog.info? 19 = some Tryd.t19 := by kernel_rfl
theorem zero_19 : (Tryd.prog.info? 19).map (·.zero) = some (some (.agg #[.pointer none])) := by kernel_rfl
def places_19 : List (Nat × Nat) := [(0, 1)]
theorem places_19_ok : ∀ w : World, ((match Tryd.t18.desc with | .struct fs => fs | _ => (#[] : Array Field)).mapM fun (f : Field) => (do pure (f.offset, ← sizeOf f.type) : Sem (Nat × Nat))).run Tryd.prog w = .ok places_19.toArray w := fun _ => by kernel_rfl
theorem sizeOf_20 : SizeOf Tryd.prog 20 1 := by unfold SizeOf; kernel_rfl
theorem Tryd.i20 : Tryd.prog.info? 20 = some Tryd.t20 := by kernel_rfl
theorem zero_20 : (Tryd.prog.info? 20).map (·.zero) = some (some (.nilIface)) := by kernel_rfl
theorem sizeOf_21 : SizeOf Tryd.prog 21 1 := by unfold SizeOf; kernel_rfl
theorem Tryd.i21 : Tryd.prog.info? 21 = some Tryd.t21 := by kernel_rfl
theorem zero_21 : (Tryd.prog.info? 21).map (·.zero) = some (some (.int .i32 0)) := by kernel_rfl
theorem sizeOf_22 : SizeOf Tryd.prog 22 1 := by unfold SizeOf; kernel_rfl
theorem Tryd.i22 : Tryd.prog.info? 22 = some Tryd.t22 := by kernel_rfl
theorem zero_22 : (Tryd.prog.info? 22).map (·.zero) = some (some (.slice none 0 0)) := by kernel_rfl
theorem sizeOf_24 : SizeOf Tryd.prog 24 1 := by unfold SizeOf; kernel_rfl
theorem Tryd.i24 : Tryd.prog.info? 24 = some Tryd.t24 := by kernel_rfl
theorem zero_24 : (Tryd.prog.info? 24).map (·.zero) = some (some (.slice none 0 0)) := by kernel_rfl
theorem sizeOf_25 : SizeOf Tryd.prog 25 1 := by unfold SizeOf; kernel_rfl
theorem Tryd.i25 : Tryd.prog.info? 25 = some Tryd.t25 := by kernel_rfl
theorem zero_25 : (Tryd.prog.info? 25).map (·.zero) = some (some (.int .i64 0)) := by kernel_rfl
theorem sizeOf_31 : SizeOf Tryd.prog 31 1 := by unfold SizeOf; kernel_rfl
theorem Tryd.i31 : Tryd.prog.info? 31 = some Tryd.t31 := by kernel_rfl
theorem zero_31 : (Tryd.prog.info? 31).map (·.zero) = some (some (.slice none 0 0)) := by kernel_rfl
theorem sizeOf_32 : SizeOf Tryd.prog 32 3 := by unfold SizeOf; kernel_rfl
theorem Tryd.i32 : Tryd.prog.info? 32 = some Tryd.t32 := by kernel_rfl
theorem zero_32 : (Tryd.prog.info? 32).map (·.zero) = some (some (.agg #[.string ⟨#[]⟩, .int .i64 0, .int .i64 0])) := by kernel_rfl
def places_32 : List (Nat × Nat) := [(0, 1), (1, 1), (2, 1)]
theorem places_32_ok : ∀ w : World, ((match Tryd.t32.desc with | .struct fs => fs | _ => (#[] : Array Field)).mapM fun (f : Field) => (do pure (f.offset, ← sizeOf f.type) : Sem (Nat × Nat))).run Tryd.prog w = .ok places_32.toArray w := fun _ => by kernel_rfl
theorem sizeOf_33 : SizeOf Tryd.prog 33 3 := by unfold SizeOf; kernel_rfl
theorem Tryd.i33 : Tryd.prog.info? 33 = some Tryd.t33 := by kernel_rfl
theorem zero_33 : (Tryd.prog.info? 33).map (·.zero) = some (some (.agg #[.string ⟨#[]⟩, .int .i64 0, .int .i64 0])) := by kernel_rfl
theorem eqg_33 : Tryd.prog.eqGuardType Tryd.prog.depth 33 = false := by kernel_rfl
theorem eqV_33 : ∀ (a0 b0 : List UInt8) (a1 b1 : Int) (a2 b2 : Int), eqV Tryd.prog 9 33 [.string ⟨a0.toArray⟩, .int .i64 a1, .int .i64 a2] [.string ⟨b0.toArray⟩, .int .i64 b1, .int .i64 b2] = some ((a0 == b0) && ((a1 == b1) && ((a2 == b2) && true))) := fun a0 b0 a1 b1 a2 b2 => by kernel_rfl
def places_33 : List (Nat × Nat) := [(0, 1), (1, 1), (2, 1)]
theorem places_33_ok : ∀ w : World, ((match Tryd.t32.desc with | .struct fs => fs | _ => (#[] : Array Field)).mapM fun (f : Field) => (do pure (f.offset, ← sizeOf f.type) : Sem (Nat × Nat))).run Tryd.prog w = .ok places_33.toArray w := fun _ => by kernel_rfl
theorem sizeOf_44 : SizeOf Tryd.prog 44 1 := by unfold SizeOf; kernel_rfl
theorem Tryd.i44 : Tryd.prog.info? 44 = some Tryd.t44 := by kernel_rfl
theorem zero_44 : (Tryd.prog.info? 44).map (·.zero) = some (some (.int .u32 0)) := by kernel_rfl
theorem sizeOf_45 : SizeOf Tryd.prog 45 1 := by unfold SizeOf; kernel_rfl
theorem Tryd.i45 : Tryd.prog.info? 45 = some Tryd.t45 := by kernel_rfl
theorem zero_45 : (Tryd.prog.info? 45).map (·.zero) = some (some (.slice none 0 0)) := by kernel_rfl
theorem sizeOf_52 : SizeOf Tryd.prog 52 1 := by unfold SizeOf; kernel_rfl
theorem Tryd.i52 : Tryd.prog.info? 52 = some Tryd.t52 := by kernel_rfl
theorem zero_52 : (Tryd.prog.info? 52).map (·.zero) = some (some (.pointer none)) := by kernel_rfl
theorem sizeOf_53 : SizeOf Tryd.prog 53 2 := by unfold SizeOf; kernel_rfl
theorem Tryd.i53 : Tryd.prog.info? 53 = some Tryd.t53 := by kernel_rfl
theorem zero_53 : (Tryd.prog.info? 53).map (·.zero) = some (some (.agg #[.pointer none, .slice none 0 0])) := by kernel_rfl
def places_53 : List (Nat × Nat) := [(0, 1), (1, 1)]
theorem places_53_ok : ∀ w : World, ((match Tryd.t53.desc with | .struct fs => fs | _ => (#[] : Array Field)).mapM fun (f : Field) => (do pure (f.offset, ← sizeOf f.type) : Sem (Nat × Nat))).run Tryd.prog w = .ok places_53.toArray w := fun _ => by kernel_rfl
theorem sizeOf_54 : SizeOf Tryd.prog 54 2 := by unfold SizeOf; kernel_rfl
theorem Tryd.i54 : Tryd.prog.info? 54 = some Tryd.t54 := by kernel_rfl
theorem zero_54 : (Tryd.prog.info? 54).map (·.zero) = some (some (.agg #[.pointer none, .slice none 0 0])) := by kernel_rfl
def places_54 : List (Nat × Nat) := [(0, 1), (1, 1)]
theorem places_54_ok : ∀ w : World, ((match Tryd.t53.desc with | .struct fs => fs | _ => (#[] : Array Field)).mapM fun (f : Field) => (do pure (f.offset, ← sizeOf f.type) : Sem (Nat × Nat))).run Tryd.prog w = .ok places_54.toArray w := fun _ => by kernel_rfl
theorem sizeOf_55 : SizeOf Tryd.prog 55 1 := by unfold SizeOf; kernel_rfl
theorem Tryd.i55 : Tryd.prog.info? 55 = some Tryd.t55 := by kernel_rfl
theorem zero_55 : (Tryd.prog.info? 55).map (·.zero) = some (some (.nilIface)) := by kernel_rfl
theorem sizeOf_56 : SizeOf Tryd.prog 56 1 := by unfold SizeOf; kernel_rfl
theorem Tryd.i56 : Tryd.prog.info? 56 = some Tryd.t56 := by kernel_rfl
theorem zero_56 : (Tryd.prog.info? 56).map (·.zero) = some (some (.nilIface)) := by kernel_rfl
theorem sizeOf_63 : SizeOf Tryd.prog 63 1 := by unfold SizeOf; kernel_rfl
theorem Tryd.i63 : Tryd.prog.info? 63 = some Tryd.t63 := by kernel_rfl
theorem zero_63 : (Tryd.prog.info? 63).map (·.zero) = some (some (.slice none 0 0)) := by kernel_rfl
theorem sizeOf_66 : SizeOf Tryd.prog 66 2 := by unfold SizeOf; kernel_rfl
theorem Tryd.i66 : Tryd.prog.info? 66 = some Tryd.t66 := by kernel_rfl
theorem zero_66 : (Tryd.prog.info? 66).map (·.zero) = some (some (.agg #[.string ⟨#[]⟩, .int .i64 0])) := by kernel_rfl
def places_66 : List (Nat × Nat) := [(0, 1), (1, 1)]
theorem places_66_ok : ∀ w : World, ((match Tryd.t66.desc with | .struct fs => fs | _ => (#[] : Array Field)).mapM fun (f : Field) => (do pure (f.offset, ← sizeOf f.type) : Sem (Nat × Nat))).run Tryd.prog w = .ok places_66.toArray w := fun _ => by kernel_rfl
theorem sizeOf_67 : SizeOf Tryd.prog 67 2 := by unfold SizeOf; kernel_rfl
theorem Tryd.i67 : Tryd.prog.info? 67 = some Tryd.t67 := by kernel_rfl
theorem zero_67 : (Tryd.prog.info? 67).map (·.zero) = some (some (.agg #[.string ⟨#[]⟩, .int .i64 0])) := by kernel_rfl
def places_67 : List (Nat × Nat) := [(0, 1), (1, 1)]
theorem places_67_ok : ∀ w : World, ((match Tryd.t66.desc with | .struct fs => fs | _ => (#[] : Array Field)).mapM fun (f : Field) => (do pure (f.offset, ← sizeOf f.type) : Sem (Nat × Nat))).run Tryd.prog w = .ok places_67.toArray w := fun _ => by kernel_rfl
theorem sizeOf_70 : SizeOf Tryd.prog 70 1 := by unfold SizeOf; kernel_rfl
theorem Tryd.i70 : Tryd.prog.info? 70 = some Tryd.t70 := by kernel_rfl
theorem zero_70 : (Tryd.prog.info? 70).map (·.zero) = some (some (.pointer none)) := by kernel_rfl
theorem sizeOf_72 : SizeOf Tryd.prog 72 256 := by unfold SizeOf; kernel_rfl
theorem Tryd.i72 : Tryd.prog.info? 72 = some Tryd.t72 := by kernel_rfl
theorem sizeOf_73 : SizeOf Tryd.prog 73 256 := by unfold SizeOf; kernel_rfl
theorem Tryd.i73 : Tryd.prog.info? 73 = some Tryd.t73 := by kernel_rfl
theorem sizeOf_77 : SizeOf Tryd.prog 77 1 := by unfold SizeOf; kernel_rfl
theorem Tryd.i77 : Tryd.prog.info? 77 = some Tryd.t77 := by kernel_rfl
theorem zero_77 : (Tryd.prog.info? 77).map (·.zero) = some (some (.pointer none)) := by kernel_rfl
theorem sizeOf_80 : SizeOf Tryd.prog 80 1 := by unfold SizeOf; kernel_rfl
theorem Tryd.i80 : Tryd.prog.info? 80 = some Tryd.t80 := by kernel_rfl
theorem zero_80 : (Tryd.prog.info? 80).map (·.zero) = some (some (.int .u64 0)) := by kernel_rfl
theorem sizeOf_84 : SizeOf Tryd.prog 84 1 := by unfold SizeOf; kernel_rfl
theorem Tryd.i84 : Tryd.prog.info? 84 = some Tryd.t84 := by kernel_rfl
theorem zero_84 : (Tryd.prog.info? 84).map (·.zero) = some (some (.pointer none)) := by kernel_rfl
theorem sizeOf_92 : SizeOf Tryd.prog 92 24 := by unfold SizeOf; kernel_rfl
theorem Tryd.i92 : Tryd.prog.info? 92 = some Tryd.t92 := by kernel_rfl
theorem zero_92 : (Tryd.prog.info? 92).map (·.zero) = some (some (.agg #[.int .u8 0, .int .u8 0, .int .u8 0, .int .u8 0, .int .u8 0, .int .u8 0, .int .u8 0, .int .u8 0, .int .u8 0, .int .u8 0, .int .u8 0, .int .u8 0, .int .u8 0, .int .u8 0, .int .u8 0, .int .u8 0, .int .u8 0, .int .u8 0, .int .u8 0, .int .u8 0, .int .u8 0, .int .u8 0, .int .u8 0, .int .u8 0])) := by kernel_rfl
theorem sizeOf_96 : SizeOf Tryd.prog 96 1 := by unfold SizeOf; kernel_rfl
theorem Tryd.i96 : Tryd.prog.info? 96 = some Tryd.t96 := by kernel_rfl
theorem zero_96 : (Tryd.prog.info? 96).map (·.zero) = some (some (.int .u64 0)) := by kernel_rfl
theorem sizeOf_97 : SizeOf Tryd.prog 97 256 := by unfold SizeOf; kernel_rfl
theorem Tryd.i97 : Tryd.prog.info? 97 = some Tryd.t97 := by kernel_rfl
theorem sizeOf_98 : SizeOf Tryd.prog 98 2 := by unfold SizeOf; kernel_rfl
theorem Tryd.i98 : Tryd.prog.info? 98 = some Tryd.t98 := by kernel_rfl
theorem zero_98 : (Tryd.prog.info? 98).map (·.zero) = some (some (.agg #[.int .u8 0, .int .u8 0])) := by kernel_rfl
def places_98 : List (Nat × Nat) := [(0, 1), (1, 1)]
theorem places_98_ok : ∀ w : World, ((match Tryd.t98.desc with | .struct fs => fs | _ => (#[] : Array Field)).mapM fun (f : Field) => (do pure (f.offset, ← sizeOf f.type) : Sem (Nat × Nat))).run Tryd.prog w = .ok places_98.toArray w := fun _ => by kernel_rfl
theorem sizeOf_99 : SizeOf Tryd.prog 99 2 := by unfold SizeOf; kernel_rfl
theorem Tryd.i99 : Tryd.prog.info? 99 = some Tryd.t99 := by kernel_rfl
theorem zero_99 : (Tryd.prog.info? 99).map (·.zero) = some (some (.agg #[.int .u8 0, .int .u8 0])) := by kernel_rfl
def places_99 : List (Nat × Nat) := [(0, 1), (1, 1)]
theorem places_99_ok : ∀ w : World, ((match Tryd.t98.desc with | .struct fs => fs | _ => (#[] : Array Field)).mapM fun (f : Field) => (do pure (f.offset, ← sizeOf f.type) : Sem (Nat × Nat))).run Tryd.prog w = .ok places_99.toArray w := fun _ => by kernel_rfl
theorem sizeOf_100 : SizeOf Tryd.prog 100 32 := by unfold SizeOf; kernel_rfl
theorem Tryd.i100 : Tryd.prog.info? 100 = some Tryd.t100 := by kernel_rfl
theorem zero_100 : (Tryd.prog.info? 100).map (·.zero) = some (some (.agg #[.int .u8 0, .int .u8 0, .int .u8 0, .int .u8 0, .int .u8 0, .int .u8 0, .int .u8 0, .int .u8 0, .int .u8 0, .int .u8 0, .int .u8 0, .int .u8 0, .int .u8 0, .int .u8 0, .int .u8 0, .int .u8 0, .int .u8 0, .int .u8 0, .int .u8 0, .int .u8 0, .int .u8 0, .int .u8 0, .int .u8 0, .int .u8 0, .int .u8 0, .int .u8 0, .int .u8 0, .int .u8 0, .int .u8 0, .int .u8 0, .int .u8 0, .int .u8 0])) := by kernel_rfl
theorem sizeOf_103 : SizeOf Tryd.prog 103 20 := by unfold SizeOf; kernel_rfl
theorem Tryd.i103 : Tryd.prog.info? 103 = some Tryd.t103 := by kernel_rfl
theorem zero_103 : (Tryd.prog.info? 103).map (·.zero) = some (some (.agg #[.int .u64 0, .int .u64 0, .int .u64 0, .int .u64 0, .int .u64 0, .int .u64 0, .int .u64 0, .int .u64 0, .int .u64 0, .int .u64 0, .int .u64 0, .int .u64 0, .int .u64 0, .int .u64 0, .int .u64 0, .int .u64 0, .int .u64 0, .int .u64 0, .int .u64 0, .int .u64 0])) := by kernel_rfl
theorem sizeOf_104 : SizeOf Tryd.prog 104 65 := by unfold SizeOf; kernel_rfl
theorem Tryd.i104 : Tryd.prog.info? 104 = some Tryd.t104 := by kernel_rfl
theorem zero_104 : (Tryd.prog.info? 104).map (·.zero) = some (some (.agg #[.int .u8 0, .int .u8 0, .int .u8 0, .int .u8 0, .int .u8 0, .int .u8 0, .int .u8 0, .int .u8 0, .int .u8 0, .int .u8 0, .int .u8 0, .int .u8 0, .int .u8 0, .int .u8 0, .int .u8 0, .int .u8 0, .int .u8 0, .int .u8 0, .int .u8 0, .int .u8 0, .int .u8 0, .int .u8 0, .int .u8 0, .int .u8 0, .int .u8 0, .int .u8 0, .int .u8 0, .int .u8 0, .int .u8 0, .int .u8 0, .int .u8 0, .int .u8 0, .int .u8 0, .int .u8 0, .int .u8 0, .int .u8 0, .int .u8 0, .int .u8 0, .int .u8 0, .int .u8 0, .int .u8 0, .int .u8 0, .int .u8 0, .int .u8 0, .int .u8 0, .int .u8 0, .int .u8 0, .int .u8 0, .int .u8 0, .int .u8 0, .int .u8 0, .int .u8 0, .int .u8 0, .int .u8 0, .int .u8 0, .int .u8 0, .int .u8 0, .int .u8 0, .int .u8 0, .int .u8 0, .int .u8 0, .int .u8 0, .int .u8 0, .int .u8 0, .int .u8 0])) := by kernel_rfl
theorem sizeOf_109 : SizeOf Tryd.prog 109 32 := by unfold SizeOf; kernel_rfl
theorem Tryd.i109 : Tryd.prog.info? 109 = some Tryd.t109 := by kernel_rfl
theorem zero_109 : (Tryd.prog.info? 109).map (·.zero) = some (some (.agg #[.int .u8 0, .int .u8 0, .int .u8 0, .int .u8 0, .int .u8 0, .int .u8 0, .int .u8 0, .int .u8 0, .int .u8 0, .int .u8 0, .int .u8 0, .int .u8 0, .int .u8 0, .int .u8 0, .int .u8 0, .int .u8 0, .int .u8 0, .int .u8 0, .int .u8 0, .int .u8 0, .int .u8 0, .int .u8 0, .int .u8 0, .int .u8 0, .int .u8 0, .int .u8 0, .int .u8 0, .int .u8 0, .int .u8 0, .int .u8 0, .int .u8 0, .int .u8 0])) := by kernel_rfl
theorem sizeOf_110 : SizeOf Tryd.prog 110 64 := by unfold SizeOf; kernel_rfl
theorem Tryd.i110 : Tryd.prog.info? 110 = some Tryd.t110 := by kernel_rfl
theorem zero_110 : (Tryd.prog.info? 110).map (·.zero) = some (some (.agg #[.int .u8 0, .int .u8 0, .int .u8 0, .int .u8 0, .int .u8 0, .int .u8 0, .int .u8 0, .int .u8 0, .int .u8 0, .int .u8 0, .int .u8 0, .int .u8 0, .int .u8 0, .int .u8 0, .int .u8 0, .int .u8 0, .int .u8 0, .int .u8 0, .int .u8 0, .int .u8 0, .int .u8 0, .int .u8 0, .int .u8 0, .int .u8 0, .int .u8 0, .int .u8 0, .int .u8 0, .int .u8 0, .int .u8 0, .int .u8 0, .int .u8 0, .int .u8 0, .int .u8 0, .int .u8 0, .int .u8 0, .int .u8 0, .int .u8 0, .int .u8 0, .int .u8 0, .int .u8 0, .int .u8 0, .int .u8 0, .int .u8 0, .int .u8 0, .int .u8 0, .int .u8 0, .int .u8 0, .int .u8 0, .int .u8 0, .int .u8 0, .int .u8 0, .int .u8 0, .int .u8 0, .int .u8 0, .int .u8 0, .int .u8 0, .int .u8 0, .int .u8 0, .int .u8 0, .int .u8 0, .int .u8 0, .int .u8 0, .int .u8 0, .int .u8 0])) := by kernel_rfl
theorem sizeOf_111 : SizeOf Tryd.prog 111 4 := by unfold SizeOf; kernel_rfl
theorem Tryd.i111 : Tryd.prog.info? 111 = some Tryd.t111 := by kernel_rfl
theorem zero_111 : (Tryd.prog.info? 111).map (·.zero) = some (some (.agg #[.pointer none, .pointer none, .pointer none, .string ⟨#[]⟩])) := by kernel_rfl
def places_111 : List (Nat × Nat) := [(0, 1), (1, 1), (2, 1), (3, 1)]
theorem places_111_ok : ∀ w : World, ((match Tryd.t111.desc with | .struct fs => fs | _ => (#[] : Array Field)).mapM fun (f : Field) => (do pure (f.offset, ← sizeOf f.type) : Sem (Nat × Nat))).run Tryd.prog w = .ok places_111.toArray w := fun _ => by kernel_rfl
theorem sizeOf_112 : SizeOf Tryd.prog 112 4 := by unfold SizeOf; kernel_rfl
theorem Tryd.i112 : Tryd.prog.info? 112 = some Tryd.t112 := by kernel_rfl
theorem zero_112 : (Tryd.prog.info? 112).map (·.zero) = some (some (.agg #[.pointer none, .pointer none, .pointer none, .string ⟨#[]⟩])) := by kernel_rfl
def places_112 : List (Nat × Nat) := [(0, 1), (1, 1), (2, 1), (3, 1)]
theorem places_112_ok : ∀ w : World, ((match Tryd.t111.desc with | .struct fs => fs | _ => (#[] : Array Field)).mapM fun (f : Field) => (do pure (f.offset, ← sizeOf f.type) : Sem (Nat × Nat))).run Tryd.prog w = .ok places_112.toArray w := fun _ => by kernel_rfl
theorem sizeOf_113 : SizeOf Tryd.prog 113 0 := by unfold SizeOf; kernel_rfl
theorem Tryd.i113 : Tryd.prog.info? 113 = some Tryd.t113 := by kernel_rfl
theorem zero_113 : (Tryd.prog.info? 113).map (·.zero) = some (some (.agg #[])) := by kernel_rfl
theorem sizeOf_114 : SizeOf Tryd.prog 114 0 := by unfold SizeOf; kernel_rfl
theorem Tryd.i114 : Tryd.prog.info? 114 = some Tryd.t114 := by kernel_rfl
theorem zero_114 : (Tryd.prog.info? 114).map (·.zero) = some (some (.agg #[])) := by kernel_rfl
def places_114 : List (Nat × Nat) := [(0, 0)]
theorem places_114_ok : ∀ w : World, ((match Tryd.t114.desc with | .struct fs => fs | _ => (#[] : Array Field)).mapM fun (f : Field) => (do pure (f.offset, ← sizeOf f.type) : Sem (Nat × Nat))).run Tryd.prog w = .ok places_114.toArray w := fun _ => by kernel_rfl
theorem sizeOf_115 : SizeOf Tryd.prog 115 0 := by unfold SizeOf; kernel_rfl
theorem Tryd.i115 : Tryd.prog.info? 115 = some Tryd.t115 := by kernel_rfl
theorem zero_115 : (Tryd.prog.info? 115).map (·.zero) = some (some (.agg #[])) := by kernel_rfl
def places_115 : List (Nat × Nat) := [(0, 0)]
theorem places_115_ok : ∀ w : World, ((match Tryd.t114.desc with | .struct fs => fs | _ => (#[] : Array Field)).mapM fun (f : Field) => (do pure (f.offset, ← sizeOf f.type) : Sem (Nat × Nat))).run Tryd.prog w = .ok places_115.toArray w := fun _ => by kernel_rfl
theorem sizeOf_117 : SizeOf Tryd.prog 117 1 := by unfold SizeOf; kernel_rfl
theorem Tryd.i117 : Tryd.prog.info? 117 = some Tryd.t117 := by kernel_rfl
theorem zero_117 : (Tryd.prog.info? 117).map (·.zero) = some (some (.int .u8 0)) := by kernel_rfl
theorem sizeOf_118 : SizeOf Tryd.prog 118 1 := by unfold SizeOf; kernel_rfl
theorem Tryd.i118 : Tryd.prog.info? 118 = some Tryd.t118 := by kernel_rfl
theorem zero_118 : (Tryd.prog.info? 118).map (·.zero) = some (some (.int .u8 0)) := by kernel_rfl
theorem sizeOf_120 : SizeOf Tryd.prog 120 1 := by unfold SizeOf; kernel_rfl
theorem Tryd.i120 : Tryd.prog.info? 120 = some Tryd.t120 := by kernel_rfl
theorem zero_120 : (Tryd.prog.info? 120).map (·.zero) = some (some (.int .i32 0)) := by kernel_rfl
theorem sizeOf_121 : SizeOf Tryd.prog 121 1 := by unfold SizeOf; kernel_rfl
theorem Tryd.i121 : Tryd.prog.info? 121 = some Tryd.t121 := by kernel_rfl
theorem zero_121 : (Tryd.prog.info? 121).map (·.zero) = some (some (.int .i32 0)) := by kernel_rfl
theorem sizeOf_122 : SizeOf Tryd.prog 122 11 := by unfold SizeOf; kernel_rfl
theorem Tryd.i122 : Tryd.prog.info? 122 = some Tryd.t122 := by kernel_rfl
theorem zero_122 : (Tryd.prog.info? 122).map (·.zero) = some (some (.agg #[.int .u64 0, .int .u64 0, .int .u32 0, .int .u8 0, .int .u8 0, .int .u8 0, .int .u8 0, .nilFunc, .pointer none, .int .i32 0, .int .i32 0])) := by kernel_rfl
def places_122 : List (Nat × Nat) := [(0, 1), (1, 1), (2, 1), (3, 1), (4, 1), (5, 1), (6, 1), (7, 1), (8, 1), (9, 1), (10, 1)]
theorem places_122_ok : ∀ w : World, ((match Tryd.t122.desc with | .struct fs => fs | _ => (#[] : Array Field)).mapM fun (f : Field) => (do pure (f.offset, ← sizeOf f.type) : Sem (Nat × Nat))).run Tryd.prog w = .ok places_122.toArray w := fun _ => by kernel_rfl
theorem sizeOf_123 : SizeOf Tryd.prog 123 11 := by unfold SizeOf; kernel_rfl
theorem Tryd.i123 : Tryd.prog.info? 123 = some Tryd.t123 := by kernel_rfl
theorem zero_123 : (Tryd.prog.info? 123).map (·.zero) = some (some (.agg #[.int .u64 0, .int .u64 0, .int .u32 0, .int .u8 0, .int .u8 0, .int .u8 0, .int .u8 0, .nilFunc, .pointer none, .int .i32 0, .int .i32 0])) := by kernel_rfl
def places_123 : List (Nat × Nat) := [(0, 1), (1, 1), (2, 1), (3, 1), (4, 1), (5, 1), (6, 1), (7, 1), (8, 1), (9, 1), (10, 1)]
theorem places_123_ok : ∀ w : World, ((match Tryd.t122.desc with | .struct fs => fs | _ => (#[] : Array Field)).mapM fun (f : Field) => (do pure (f.offset, ← sizeOf f.type) : Sem (Nat × Nat))).run Tryd.prog w = .ok places_123.toArray w := fun _ => by kernel_rfl
end Go.Proofs.YtkdpehhdbjkljaaDoor
