/- Facts on this seat's types, printed by my program av.py. -/
import Derived.Test.YtfnbfkgknfagmaaAvFnv
import Derived.Test.YtfnbfkgknfagmaaProg
import Derived.KernelRfl
namespace Go.Proofs.Ytfnbfkgknfagmaa
open Go.RowKit

theorem sizeOf_2 : SizeOf Try.prog 2 1 := by unfold SizeOf; kernel_rfl
theorem Try.i2 : Try.prog.info? 2 = some Try.t2 := by kernel_rfl
theorem zero_2 : (Try.prog.info? 2).map (·.zero) = some (some (.int .i64 0)) := by kernel_rfl
theorem sizeOf_3 : SizeOf Try.prog 3 1 := by unfold SizeOf; kernel_rfl
theorem Try.i3 : Try.prog.info? 3 = some Try.t3 := by kernel_rfl
theorem zero_3 : (Try.prog.info? 3).map (·.zero) = some (some (.int .i64 0)) := by kernel_rfl
theorem sizeOf_4 : SizeOf Try.prog 4 1 := by unfold SizeOf; kernel_rfl
theorem Try.i4 : Try.prog.info? 4 = some Try.t4 := by kernel_rfl
theorem zero_4 : (Try.prog.info? 4).map (·.zero) = some (some (.bool false)) := by kernel_rfl
theorem sizeOf_5 : SizeOf Try.prog 5 1 := by unfold SizeOf; kernel_rfl
theorem Try.i5 : Try.prog.info? 5 = some Try.t5 := by kernel_rfl
theorem zero_5 : (Try.prog.info? 5).map (·.zero) = some (some (.int .u8 0)) := by kernel_rfl
theorem sizeOf_6 : SizeOf Try.prog 6 1 := by unfold SizeOf; kernel_rfl
theorem Try.i6 : Try.prog.info? 6 = some Try.t6 := by kernel_rfl
theorem zero_6 : (Try.prog.info? 6).map (·.zero) = some (some (.int .u8 0)) := by kernel_rfl
theorem sizeOf_7 : SizeOf Try.prog 7 4 := by unfold SizeOf; kernel_rfl
theorem Try.i7 : Try.prog.info? 7 = some Try.t7 := by kernel_rfl
theorem zero_7 : (Try.prog.info? 7).map (·.zero) = some (some (.agg #[.int .i64 0, .int .i64 0, .bool false, .int .u8 0])) := by kernel_rfl
def places_7 : List (Nat × Nat) := [(0, 1), (1, 1), (2, 1), (3, 1)]
theorem places_7_ok : ∀ w : World, ((match Try.t7.desc with | .struct fs => fs | _ => (#[] : Array Field)).mapM fun (f : Field) => (do pure (f.offset, ← sizeOf f.type) : Sem (Nat × Nat))).run Try.prog w = .ok places_7.toArray w := fun _ => by kernel_rfl
theorem sizeOf_8 : SizeOf Try.prog 8 4 := by unfold SizeOf; kernel_rfl
theorem Try.i8 : Try.prog.info? 8 = some Try.t8 := by kernel_rfl
theorem zero_8 : (Try.prog.info? 8).map (·.zero) = some (some (.agg #[.int .i64 0, .int .i64 0, .bool false, .int .u8 0])) := by kernel_rfl
def places_8 : List (Nat × Nat) := [(0, 1), (1, 1), (2, 1), (3, 1)]
theorem places_8_ok : ∀ w : World, ((match Try.t7.desc with | .struct fs => fs | _ => (#[] : Array Field)).mapM fun (f : Field) => (do pure (f.offset, ← sizeOf f.type) : Sem (Nat × Nat))).run Try.prog w = .ok places_8.toArray w := fun _ => by kernel_rfl
theorem sizeOf_9 : SizeOf Try.prog 9 1 := by unfold SizeOf; kernel_rfl
theorem Try.i9 : Try.prog.info? 9 = some Try.t9 := by kernel_rfl
theorem zero_9 : (Try.prog.info? 9).map (·.zero) = some (some (.string ⟨#[]⟩)) := by kernel_rfl
theorem sizeOf_10 : SizeOf Try.prog 10 1 := by unfold SizeOf; kernel_rfl
theorem Try.i10 : Try.prog.info? 10 = some Try.t10 := by kernel_rfl
theorem zero_10 : (Try.prog.info? 10).map (·.zero) = some (some (.string ⟨#[]⟩)) := by kernel_rfl
theorem sizeOf_11 : SizeOf Try.prog 11 1 := by unfold SizeOf; kernel_rfl
theorem Try.i11 : Try.prog.info? 11 = some Try.t11 := by kernel_rfl
theorem zero_11 : (Try.prog.info? 11).map (·.zero) = some (some (.string ⟨#[]⟩)) := by kernel_rfl
theorem sizeOf_12 : SizeOf Try.prog 12 1 := by unfold SizeOf; kernel_rfl
theorem Try.i12 : Try.prog.info? 12 = some Try.t12 := by kernel_rfl
theorem zero_12 : (Try.prog.info? 12).map (·.zero) = some (some (.int .u64 0)) := by kernel_rfl
theorem sizeOf_13 : SizeOf Try.prog 13 2 := by unfold SizeOf; kernel_rfl
theorem Try.i13 : Try.prog.info? 13 = some Try.t13 := by kernel_rfl
theorem zero_13 : (Try.prog.info? 13).map (·.zero) = some (some (.agg #[.string ⟨#[]⟩, .int .u64 0])) := by kernel_rfl
def places_13 : List (Nat × Nat) := [(0, 1), (1, 1)]
theorem places_13_ok : ∀ w : World, ((match Try.t13.desc with | .struct fs => fs | _ => (#[] : Array Field)).mapM fun (f : Field) => (do pure (f.offset, ← sizeOf f.type) : Sem (Nat × Nat))).run Try.prog w = .ok places_13.toArray w := fun _ => by kernel_rfl
theorem sizeOf_14 : SizeOf Try.prog 14 2 := by unfold SizeOf; kernel_rfl
theorem Try.i14 : Try.prog.info? 14 = some Try.t14 := by kernel_rfl
theorem zero_14 : (Try.prog.info? 14).map (·.zero) = some (some (.agg #[.string ⟨#[]⟩, .int .u64 0])) := by kernel_rfl
def places_14 : List (Nat × Nat) := [(0, 1), (1, 1)]
theorem places_14_ok : ∀ w : World, ((match Try.t13.desc with | .struct fs => fs | _ => (#[] : Array Field)).mapM fun (f : Field) => (do pure (f.offset, ← sizeOf f.type) : Sem (Nat × Nat))).run Try.prog w = .ok places_14.toArray w := fun _ => by kernel_rfl
theorem sizeOf_15 : SizeOf Try.prog 15 1 := by unfold SizeOf; kernel_rfl
theorem Try.i15 : Try.prog.info? 15 = some Try.t15 := by kernel_rfl
theorem zero_15 : (Try.prog.info? 15).map (·.zero) = some (some (.pointer none)) := by kernel_rfl
theorem sizeOf_16 : SizeOf Try.prog 16 1 := by unfold SizeOf; kernel_rfl
theorem Try.i16 : Try.prog.info? 16 = some Try.t16 := by kernel_rfl
theorem zero_16 : (Try.prog.info? 16).map (·.zero) = some (some (.pointer none)) := by kernel_rfl
theorem sizeOf_17 : SizeOf Try.prog 17 1 := by unfold SizeOf; kernel_rfl
theorem Try.i17 : Try.prog.info? 17 = some Try.t17 := by kernel_rfl
theorem zero_17 : (Try.prog.info? 17).map (·.zero) = some (some (.pointer none)) := by kernel_rfl
theorem sizeOf_18 : SizeOf Try.prog 18 1 := by unfold SizeOf; kernel_rfl
theorem Try.i18 : Try.prog.info? 18 = some Try.t18 := by kernel_rfl
theorem zero_18 : (Try.prog.info? 18).map (·.zero) = some (some (.agg #[.pointer none])) := by kernel_rfl
def places_18 : List (Nat × Nat) := [(0, 1)]
theorem places_18_ok : ∀ w : World, ((match Try.t18.desc with | .struct fs => fs | _ => (#[] : Array Field)).mapM fun (f : Field) => (do pure (f.offset, ← sizeOf f.type) : Sem (Nat × Nat))).run Try.prog w = .ok places_18.toArray w := fun _ => by kernel_rfl
theorem sizeOf_19 : SizeOf Try.prog 19 1 := by unfold SizeOf; kernel_rfl
theorem Try.i19 : Try.prog.info? 19 = some Try.t19 := by kernel_rfl
theorem zero_19 : (Try.prog.info? 19).map (·.zero) = some (some (.agg #[.pointer none])) := by kernel_rfl
def places_19 : List (Nat × Nat) := [(0, 1)]
theorem places_19_ok : ∀ w : World, ((match Try.t18.desc with | .struct fs => fs | _ => (#[] : Array Field)).mapM fun (f : Field) => (do pure (f.offset, ← sizeOf f.type) : Sem (Nat × Nat))).run Try.prog w = .ok places_19.toArray w := fun _ => by kernel_rfl
theorem sizeOf_20 : SizeOf Try.prog 20 1 := by unfold SizeOf; kernel_rfl
theorem Try.i20 : Try.prog.info? 20 = some Try.t20 := by kernel_rfl
theorem zero_20 : (Try.prog.info? 20).map (·.zero) = some (some (.nilIface)) := by kernel_rfl
theorem sizeOf_21 : SizeOf Try.prog 21 1 := by unfold SizeOf; kernel_rfl
theorem Try.i21 : Try.prog.info? 21 = some Try.t21 := by kernel_rfl
theorem zero_21 : (Try.prog.info? 21).map (·.zero) = some (some (.int .i32 0)) := by kernel_rfl
theorem sizeOf_22 : SizeOf Try.prog 22 2 := by unfold SizeOf; kernel_rfl
theorem Try.i22 : Try.prog.info? 22 = some Try.t22 := by kernel_rfl
theorem zero_22 : (Try.prog.info? 22).map (·.zero) = some (some (.agg #[.bool false, .int .i64 0])) := by kernel_rfl
def places_22 : List (Nat × Nat) := [(0, 1), (1, 1)]
theorem places_22_ok : ∀ w : World, ((match Try.t22.desc with | .struct fs => fs | _ => (#[] : Array Field)).mapM fun (f : Field) => (do pure (f.offset, ← sizeOf f.type) : Sem (Nat × Nat))).run Try.prog w = .ok places_22.toArray w := fun _ => by kernel_rfl
theorem sizeOf_23 : SizeOf Try.prog 23 2 := by unfold SizeOf; kernel_rfl
theorem Try.i23 : Try.prog.info? 23 = some Try.t23 := by kernel_rfl
theorem zero_23 : (Try.prog.info? 23).map (·.zero) = some (some (.agg #[.bool false, .int .i64 0])) := by kernel_rfl
theorem eqg_23 : Try.prog.eqGuardType Try.prog.depth 23 = false := by kernel_rfl
theorem eqV_23 : ∀ (a0 b0 : Bool) (a1 b1 : Int), eqV Try.prog 9 23 [.bool a0, .int .i64 a1] [.bool b0, .int .i64 b1] = some ((a0 == b0) && ((a1 == b1) && true)) := fun a0 b0 a1 b1 => by kernel_rfl
def places_23 : List (Nat × Nat) := [(0, 1), (1, 1)]
theorem places_23_ok : ∀ w : World, ((match Try.t22.desc with | .struct fs => fs | _ => (#[] : Array Field)).mapM fun (f : Field) => (do pure (f.offset, ← sizeOf f.type) : Sem (Nat × Nat))).run Try.prog w = .ok places_23.toArray w := fun _ => by kernel_rfl
theorem sizeOf_24 : SizeOf Try.prog 24 6 := by unfold SizeOf; kernel_rfl
theorem Try.i24 : Try.prog.info? 24 = some Try.t24 := by kernel_rfl
theorem zero_24 : (Try.prog.info? 24).map (·.zero) = some (some (.agg #[.bool false, .int .i64 0, .bool false, .int .i64 0, .bool false, .int .i64 0])) := by kernel_rfl
theorem sizeOf_25 : SizeOf Try.prog 25 3 := by unfold SizeOf; kernel_rfl
theorem Try.i25 : Try.prog.info? 25 = some Try.t25 := by kernel_rfl
theorem zero_25 : (Try.prog.info? 25).map (·.zero) = some (some (.agg #[.bool false, .bool false, .bool false])) := by kernel_rfl
theorem sizeOf_29 : SizeOf Try.prog 29 1 := by unfold SizeOf; kernel_rfl
theorem Try.i29 : Try.prog.info? 29 = some Try.t29 := by kernel_rfl
theorem zero_29 : (Try.prog.info? 29).map (·.zero) = some (some (.slice none 0 0)) := by kernel_rfl
theorem sizeOf_32 : SizeOf Try.prog 32 4 := by unfold SizeOf; kernel_rfl
theorem Try.i32 : Try.prog.info? 32 = some Try.t32 := by kernel_rfl
theorem zero_32 : (Try.prog.info? 32).map (·.zero) = some (some (.agg #[.int .i64 0, .string ⟨#[]⟩, .int .i64 0, .int .i64 0])) := by kernel_rfl
def places_32 : List (Nat × Nat) := [(0, 1), (1, 1), (2, 1), (3, 1)]
theorem places_32_ok : ∀ w : World, ((match Try.t32.desc with | .struct fs => fs | _ => (#[] : Array Field)).mapM fun (f : Field) => (do pure (f.offset, ← sizeOf f.type) : Sem (Nat × Nat))).run Try.prog w = .ok places_32.toArray w := fun _ => by kernel_rfl
theorem sizeOf_33 : SizeOf Try.prog 33 4 := by unfold SizeOf; kernel_rfl
theorem Try.i33 : Try.prog.info? 33 = some Try.t33 := by kernel_rfl
theorem zero_33 : (Try.prog.info? 33).map (·.zero) = some (some (.agg #[.int .i64 0, .string ⟨#[]⟩, .int .i64 0, .int .i64 0])) := by kernel_rfl
theorem eqg_33 : Try.prog.eqGuardType Try.prog.depth 33 = false := by kernel_rfl
theorem eqV_33 : ∀ (a0 b0 : Int) (a1 b1 : List UInt8) (a2 b2 : Int) (a3 b3 : Int), eqV Try.prog 9 33 [.int .i64 a0, .string ⟨a1.toArray⟩, .int .i64 a2, .int .i64 a3] [.int .i64 b0, .string ⟨b1.toArray⟩, .int .i64 b2, .int .i64 b3] = some ((a0 == b0) && ((a1 == b1) && ((a2 == b2) && ((a3 == b3) && true)))) := fun a0 b0 a1 b1 a2 b2 a3 b3 => by kernel_rfl
def places_33 : List (Nat × Nat) := [(0, 1), (1, 1), (2, 1), (3, 1)]
theorem places_33_ok : ∀ w : World, ((match Try.t32.desc with | .struct fs => fs | _ => (#[] : Array Field)).mapM fun (f : Field) => (do pure (f.offset, ← sizeOf f.type) : Sem (Nat × Nat))).run Try.prog w = .ok places_33.toArray w := fun _ => by kernel_rfl
theorem sizeOf_37 : SizeOf Try.prog 37 4 := by unfold SizeOf; kernel_rfl
theorem Try.i37 : Try.prog.info? 37 = some Try.t37 := by kernel_rfl
theorem zero_37 : (Try.prog.info? 37).map (·.zero) = some (some (.agg #[.pointer none, .pointer none, .pointer none, .string ⟨#[]⟩])) := by kernel_rfl
def places_37 : List (Nat × Nat) := [(0, 1), (1, 1), (2, 1), (3, 1)]
theorem places_37_ok : ∀ w : World, ((match Try.t37.desc with | .struct fs => fs | _ => (#[] : Array Field)).mapM fun (f : Field) => (do pure (f.offset, ← sizeOf f.type) : Sem (Nat × Nat))).run Try.prog w = .ok places_37.toArray w := fun _ => by kernel_rfl
theorem sizeOf_38 : SizeOf Try.prog 38 4 := by unfold SizeOf; kernel_rfl
theorem Try.i38 : Try.prog.info? 38 = some Try.t38 := by kernel_rfl
theorem zero_38 : (Try.prog.info? 38).map (·.zero) = some (some (.agg #[.pointer none, .pointer none, .pointer none, .string ⟨#[]⟩])) := by kernel_rfl
def places_38 : List (Nat × Nat) := [(0, 1), (1, 1), (2, 1), (3, 1)]
theorem places_38_ok : ∀ w : World, ((match Try.t37.desc with | .struct fs => fs | _ => (#[] : Array Field)).mapM fun (f : Field) => (do pure (f.offset, ← sizeOf f.type) : Sem (Nat × Nat))).run Try.prog w = .ok places_38.toArray w := fun _ => by kernel_rfl
theorem sizeOf_39 : SizeOf Try.prog 39 0 := by unfold SizeOf; kernel_rfl
theorem Try.i39 : Try.prog.info? 39 = some Try.t39 := by kernel_rfl
theorem zero_39 : (Try.prog.info? 39).map (·.zero) = some (some (.agg #[])) := by kernel_rfl
theorem sizeOf_40 : SizeOf Try.prog 40 0 := by unfold SizeOf; kernel_rfl
theorem Try.i40 : Try.prog.info? 40 = some Try.t40 := by kernel_rfl
theorem zero_40 : (Try.prog.info? 40).map (·.zero) = some (some (.agg #[])) := by kernel_rfl
def places_40 : List (Nat × Nat) := [(0, 0)]
theorem places_40_ok : ∀ w : World, ((match Try.t40.desc with | .struct fs => fs | _ => (#[] : Array Field)).mapM fun (f : Field) => (do pure (f.offset, ← sizeOf f.type) : Sem (Nat × Nat))).run Try.prog w = .ok places_40.toArray w := fun _ => by kernel_rfl
theorem sizeOf_41 : SizeOf Try.prog 41 0 := by unfold SizeOf; kernel_rfl
theorem Try.i41 : Try.prog.info? 41 = some Try.t41 := by kernel_rfl
theorem zero_41 : (Try.prog.info? 41).map (·.zero) = some (some (.agg #[])) := by kernel_rfl
def places_41 : List (Nat × Nat) := [(0, 0)]
theorem places_41_ok : ∀ w : World, ((match Try.t40.desc with | .struct fs => fs | _ => (#[] : Array Field)).mapM fun (f : Field) => (do pure (f.offset, ← sizeOf f.type) : Sem (Nat × Nat))).run Try.prog w = .ok places_41.toArray w := fun _ => by kernel_rfl
theorem sizeOf_43 : SizeOf Try.prog 43 1 := by unfold SizeOf; kernel_rfl
theorem Try.i43 : Try.prog.info? 43 = some Try.t43 := by kernel_rfl
theorem zero_43 : (Try.prog.info? 43).map (·.zero) = some (some (.int .u32 0)) := by kernel_rfl
theorem sizeOf_44 : SizeOf Try.prog 44 1 := by unfold SizeOf; kernel_rfl
theorem Try.i44 : Try.prog.info? 44 = some Try.t44 := by kernel_rfl
theorem zero_44 : (Try.prog.info? 44).map (·.zero) = some (some (.int .u8 0)) := by kernel_rfl
theorem sizeOf_45 : SizeOf Try.prog 45 1 := by unfold SizeOf; kernel_rfl
theorem Try.i45 : Try.prog.info? 45 = some Try.t45 := by kernel_rfl
theorem zero_45 : (Try.prog.info? 45).map (·.zero) = some (some (.int .u8 0)) := by kernel_rfl
theorem sizeOf_47 : SizeOf Try.prog 47 1 := by unfold SizeOf; kernel_rfl
theorem Try.i47 : Try.prog.info? 47 = some Try.t47 := by kernel_rfl
theorem zero_47 : (Try.prog.info? 47).map (·.zero) = some (some (.pointer none)) := by kernel_rfl
theorem sizeOf_48 : SizeOf Try.prog 48 1 := by unfold SizeOf; kernel_rfl
theorem Try.i48 : Try.prog.info? 48 = some Try.t48 := by kernel_rfl
theorem zero_48 : (Try.prog.info? 48).map (·.zero) = some (some (.int .i32 0)) := by kernel_rfl
theorem sizeOf_49 : SizeOf Try.prog 49 1 := by unfold SizeOf; kernel_rfl
theorem Try.i49 : Try.prog.info? 49 = some Try.t49 := by kernel_rfl
theorem zero_49 : (Try.prog.info? 49).map (·.zero) = some (some (.int .i32 0)) := by kernel_rfl
theorem sizeOf_50 : SizeOf Try.prog 50 11 := by unfold SizeOf; kernel_rfl
theorem Try.i50 : Try.prog.info? 50 = some Try.t50 := by kernel_rfl
theorem zero_50 : (Try.prog.info? 50).map (·.zero) = some (some (.agg #[.int .u64 0, .int .u64 0, .int .u32 0, .int .u8 0, .int .u8 0, .int .u8 0, .int .u8 0, .nilFunc, .pointer none, .int .i32 0, .int .i32 0])) := by kernel_rfl
def places_50 : List (Nat × Nat) := [(0, 1), (1, 1), (2, 1), (3, 1), (4, 1), (5, 1), (6, 1), (7, 1), (8, 1), (9, 1), (10, 1)]
theorem places_50_ok : ∀ w : World, ((match Try.t50.desc with | .struct fs => fs | _ => (#[] : Array Field)).mapM fun (f : Field) => (do pure (f.offset, ← sizeOf f.type) : Sem (Nat × Nat))).run Try.prog w = .ok places_50.toArray w := fun _ => by kernel_rfl
theorem sizeOf_51 : SizeOf Try.prog 51 11 := by unfold SizeOf; kernel_rfl
theorem Try.i51 : Try.prog.info? 51 = some Try.t51 := by kernel_rfl
theorem zero_51 : (Try.prog.info? 51).map (·.zero) = some (some (.agg #[.int .u64 0, .int .u64 0, .int .u32 0, .int .u8 0, .int .u8 0, .int .u8 0, .int .u8 0, .nilFunc, .pointer none, .int .i32 0, .int .i32 0])) := by kernel_rfl
def places_51 : List (Nat × Nat) := [(0, 1), (1, 1), (2, 1), (3, 1), (4, 1), (5, 1), (6, 1), (7, 1), (8, 1), (9, 1), (10, 1)]
theorem places_51_ok : ∀ w : World, ((match Try.t50.desc with | .struct fs => fs | _ => (#[] : Array Field)).mapM fun (f : Field) => (do pure (f.offset, ← sizeOf f.type) : Sem (Nat × Nat))).run Try.prog w = .ok places_51.toArray w := fun _ => by kernel_rfl
theorem sizeOf_52 : SizeOf Try.prog 52 1 := by unfold SizeOf; kernel_rfl
theorem Try.i52 : Try.prog.info? 52 = some Try.t52 := by kernel_rfl
theorem zero_52 : (Try.prog.info? 52).map (·.zero) = some (some (.pointer none)) := by kernel_rfl
end Go.Proofs.Ytfnbfkgknfagmaa
