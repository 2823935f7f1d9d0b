/- Facts on this seat's types, printed by my program av.py. -/
import Derived.Test.YtlpihekflkjkfaaDoorAvFnv
import Derived.Test.YtlpihekflkjkfaaDoorProg
import Derived.KernelRfl
namespace Go.Proofs.YtlpihekflkjkfaaDoor
open Go.RowKit

theorem sizeOf_2 : SizeOf Tryd.prog 2 1 := by unfold SizeOf; kernel_rfl
theorem Tryd.i2 : Tryd.prog.info? 2 = some Tryd.t2 := by kernel_rfl
theorem zero_2 : (Tryd.prog.info? 2).map (·.zero) = some (some (.int .i64 0)) := by kernel_rfl
theorem sizeOf_3 : SizeOf Tryd.prog 3 1 := by unfold SizeOf; kernel_rfl
theorem Tryd.i3 : Tryd.prog.info? 3 = some Tryd.t3 := by kernel_rfl
theorem zero_3 : (Tryd.prog.info? 3).map (·.zero) = some (some (.int .i64 0)) := by kernel_rfl
theorem sizeOf_4 : SizeOf Tryd.prog 4 1 := by unfold SizeOf; kernel_rfl
theorem Tryd.i4 : Tryd.prog.info? 4 = some Tryd.t4 := by kernel_rfl
theorem zero_4 : (Tryd.prog.info? 4).map (·.zero) = some (some (.bool false)) := by kernel_rfl
theorem sizeOf_5 : SizeOf Tryd.prog 5 1 := by unfold SizeOf; kernel_rfl
theorem Tryd.i5 : Tryd.prog.info? 5 = some Tryd.t5 := by kernel_rfl
theorem zero_5 : (Tryd.prog.info? 5).map (·.zero) = some (some (.int .u8 0)) := by kernel_rfl
theorem sizeOf_6 : SizeOf Tryd.prog 6 1 := by unfold SizeOf; kernel_rfl
theorem Tryd.i6 : Tryd.prog.info? 6 = some Tryd.t6 := by kernel_rfl
theorem zero_6 : (Tryd.prog.info? 6).map (·.zero) = some (some (.int .u8 0)) := by kernel_rfl
theorem sizeOf_7 : SizeOf Tryd.prog 7 4 := by unfold SizeOf; kernel_rfl
theorem Tryd.i7 : Tryd.prog.info? 7 = some Tryd.t7 := by kernel_rfl
theorem zero_7 : (Tryd.prog.info? 7).map (·.zero) = some (some (.agg #[.int .i64 0, .int .i64 0, .bool false, .int .u8 0])) := by kernel_rfl
def places_7 : List (Nat × Nat) := [(0, 1), (1, 1), (2, 1), (3, 1)]
theorem places_7_ok : ∀ w : World, ((match Tryd.t7.desc with | .struct fs => fs | _ => (#[] : Array Field)).mapM fun (f : Field) => (do pure (f.offset, ← sizeOf f.type) : Sem (Nat × Nat))).run Tryd.prog w = .ok places_7.toArray w := fun _ => by kernel_rfl
theorem sizeOf_8 : SizeOf Tryd.prog 8 4 := by unfold SizeOf; kernel_rfl
theorem Tryd.i8 : Tryd.prog.info? 8 = some Tryd.t8 := by kernel_rfl
theorem zero_8 : (Tryd.prog.info? 8).map (·.zero) = some (some (.agg #[.int .i64 0, .int .i64 0, .bool false, .int .u8 0])) := by kernel_rfl
def places_8 : List (Nat × Nat) := [(0, 1), (1, 1), (2, 1), (3, 1)]
theorem places_8_ok : ∀ w : World, ((match Tryd.t7.desc with | .struct fs => fs | _ => (#[] : Array Field)).mapM fun (f : Field) => (do pure (f.offset, ← sizeOf f.type) : Sem (Nat × Nat))).run Tryd.prog w = .ok places_8.toArray w := fun _ => by kernel_rfl
theorem sizeOf_9 : SizeOf Tryd.prog 9 1 := by unfold SizeOf; kernel_rfl
theorem Tryd.i9 : Tryd.prog.info? 9 = some Tryd.t9 := by kernel_rfl
theorem zero_9 : (Tryd.prog.info? 9).map (·.zero) = some (some (.string ⟨#[]⟩)) := by kernel_rfl
theorem sizeOf_10 : SizeOf Tryd.prog 10 1 := by unfold SizeOf; kernel_rfl
theorem Tryd.i10 : Tryd.prog.info? 10 = some Tryd.t10 := by kernel_rfl
theorem zero_10 : (Tryd.prog.info? 10).map (·.zero) = some (some (.string ⟨#[]⟩)) := by kernel_rfl
theorem sizeOf_11 : SizeOf Tryd.prog 11 1 := by unfold SizeOf; kernel_rfl
theorem Tryd.i11 : Tryd.prog.info? 11 = some Tryd.t11 := by kernel_rfl
theorem zero_11 : (Tryd.prog.info? 11).map (·.zero) = some (some (.string ⟨#[]⟩)) := by kernel_rfl
theorem sizeOf_12 : SizeOf Tryd.prog 12 1 := by unfold SizeOf; kernel_rfl
theorem Tryd.i12 : Tryd.prog.info? 12 = some Tryd.t12 := by kernel_rfl
theorem zero_12 : (Tryd.prog.info? 12).map (·.zero) = some (some (.int .u64 0)) := by kernel_rfl
theorem sizeOf_13 : SizeOf Tryd.prog 13 2 := by unfold SizeOf; kernel_rfl
theorem Tryd.i13 : Tryd.prog.info? 13 = some Tryd.t13 := by kernel_rfl
theorem zero_13 : (Tryd.prog.info? 13).map (·.zero) = some (some (.agg #[.string ⟨#[]⟩, .int .u64 0])) := by kernel_rfl
def places_13 : List (Nat × Nat) := [(0, 1), (1, 1)]
theorem places_13_ok : ∀ w : World, ((match Tryd.t13.desc with | .struct fs => fs | _ => (#[] : Array Field)).mapM fun (f : Field) => (do pure (f.offset, ← sizeOf f.type) : Sem (Nat × Nat))).run Tryd.prog w = .ok places_13.toArray w := fun _ => by kernel_rfl
theorem sizeOf_14 : SizeOf Tryd.prog 14 2 := by unfold SizeOf; kernel_rfl
theorem Tryd.i14 : Tryd.prog.info? 14 = some Tryd.t14 := by kernel_rfl
theorem zero_14 : (Tryd.prog.info? 14).map (·.zero) = some (some (.agg #[.string ⟨#[]⟩, .int .u64 0])) := by kernel_rfl
def places_14 : List (Nat × Nat) := [(0, 1), (1, 1)]
theorem places_14_ok : ∀ w : World, ((match Tryd.t13.desc with | .struct fs => fs | _ => (#[] : Array Field)).mapM fun (f : Field) => (do pure (f.offset, ← sizeOf f.type) : Sem (Nat × Nat))).run Tryd.prog w = .ok places_14.toArray w := fun _ => by kernel_rfl
theorem sizeOf_15 : SizeOf Tryd.prog 15 1 := by unfold SizeOf; kernel_rfl
theorem Tryd.i15 : Tryd.prog.info? 15 = some Tryd.t15 := by kernel_rfl
theorem zero_15 : (Tryd.prog.info? 15).map (·.zero) = some (some (.pointer none)) := by kernel_rfl
theorem sizeOf_16 : SizeOf Tryd.prog 16 1 := by unfold SizeOf; kernel_rfl
theorem Tryd.i16 : Tryd.prog.info? 16 = some Tryd.t16 := by kernel_rfl
theorem zero_16 : (Tryd.prog.info? 16).map (·.zero) = some (some (.pointer none)) := by kernel_rfl
theorem sizeOf_17 : SizeOf Tryd.prog 17 1 := by unfold SizeOf; kernel_rfl
theorem Tryd.i17 : Tryd.prog.info? 17 = some Tryd.t17 := by kernel_rfl
theorem zero_17 : (Tryd.prog.info? 17).map (·.zero) = some (some (.pointer none)) := by kernel_rfl
theorem sizeOf_18 : SizeOf Tryd.prog 18 1 := by unfold SizeOf; kernel_rfl
theorem Tryd.i18 : Tryd.prog.info? 18 = some Tryd.t18 := by kernel_rfl
theorem zero_18 : (Tryd.prog.info? 18).map (·.zero) = some (some (.agg #[.pointer none])) := by kernel_rfl
def places_18 : List (Nat × Nat) := [(0, 1)]
theorem places_18_ok : ∀ w : World, ((match Tryd.t18.desc with | .struct fs => fs | _ => (#[] : Array Field)).mapM fun (f : Field) => (do pure (f.offset, ← sizeOf f.type) : Sem (Nat × Nat))).run Tryd.prog w = .ok places_18.toArray w := fun _ => by kernel_rfl
theorem sizeOf_19 : SizeOf Tryd.prog 19 1 := by unfold SizeOf; kernel_rfl
theorem Tryd.i19 : Tryd.prog.info? 19 = some Tryd.t19 := by kernel_rfl
theorem zero_19 : (Tryd.prog.info? 19).map (·.zero) = some (some (.agg #[.pointer none])) := by kernel_rfl
def places_19 : List (Nat × Nat) := [(0, 1)]
theorem places_19_ok : ∀ w : World, ((match Tryd.t18.desc with | .struct fs => fs | _ => (#[] : Array Field)).mapM fun (f : Field) => (do pure (f.offset, ← sizeOf f.type) : Sem (Nat × Nat))).run Tryd.prog w = .ok places_19.toArray w := fun _ => by kernel_rfl
theorem sizeOf_20 : SizeOf Tryd.prog 20 1 := by unfold SizeOf; kernel_rfl
theorem Tryd.i20 : Tryd.prog.info? 20 = some Tryd.t20 := by kernel_rfl
theorem zero_20 : (Tryd.prog.info? 20).map (·.zero) = some (some (.nilIface)) := by kernel_rfl
theorem sizeOf_21 : SizeOf Tryd.prog 21 1 := by unfold SizeOf; kernel_rfl
theorem Tryd.i21 : Tryd.prog.info? 21 = some Tryd.t21 := by kernel_rfl
theorem zero_21 : (Tryd.prog.info? 21).map (·.zero) = some (some (.int .i32 0)) := by kernel_rfl
theorem sizeOf_23 : SizeOf Tryd.prog 23 1 := by unfold SizeOf; kernel_rfl
theorem Tryd.i23 : Tryd.prog.info? 23 = some Tryd.t23 := by kernel_rfl
theorem zero_23 : (Tryd.prog.info? 23).map (·.zero) = some (some (.slice none 0 0)) := by kernel_rfl
theorem sizeOf_27 : SizeOf Tryd.prog 27 1 := by unfold SizeOf; kernel_rfl
theorem Tryd.i27 : Tryd.prog.info? 27 = some Tryd.t27 := by kernel_rfl
theorem zero_27 : (Tryd.prog.info? 27).map (·.zero) = some (some (.int .u32 0)) := by kernel_rfl
theorem sizeOf_28 : SizeOf Tryd.prog 28 1 := by unfold SizeOf; kernel_rfl
theorem Tryd.i28 : Tryd.prog.info? 28 = some Tryd.t28 := by kernel_rfl
theorem zero_28 : (Tryd.prog.info? 28).map (·.zero) = some (some (.int .i64 0)) := by kernel_rfl
theorem sizeOf_31 : SizeOf Tryd.prog 31 1 := by unfold SizeOf; kernel_rfl
theorem Tryd.i31 : Tryd.prog.info? 31 = some Tryd.t31 := by kernel_rfl
theorem zero_31 : (Tryd.prog.info? 31).map (·.zero) = some (some (.slice none 0 0)) := by kernel_rfl
theorem sizeOf_33 : SizeOf Tryd.prog 33 4 := by unfold SizeOf; kernel_rfl
theorem Tryd.i33 : Tryd.prog.info? 33 = some Tryd.t33 := by kernel_rfl
theorem zero_33 : (Tryd.prog.info? 33).map (·.zero) = some (some (.agg #[.int .i64 0, .string ⟨#[]⟩, .int .i64 0, .int .i64 0])) := by kernel_rfl
def places_33 : List (Nat × Nat) := [(0, 1), (1, 1), (2, 1), (3, 1)]
theorem places_33_ok : ∀ w : World, ((match Tryd.t33.desc with | .struct fs => fs | _ => (#[] : Array Field)).mapM fun (f : Field) => (do pure (f.offset, ← sizeOf f.type) : Sem (Nat × Nat))).run Tryd.prog w = .ok places_33.toArray w := fun _ => by kernel_rfl
theorem sizeOf_34 : SizeOf Tryd.prog 34 4 := by unfold SizeOf; kernel_rfl
theorem Tryd.i34 : Tryd.prog.info? 34 = some Tryd.t34 := by kernel_rfl
theorem zero_34 : (Tryd.prog.info? 34).map (·.zero) = some (some (.agg #[.int .i64 0, .string ⟨#[]⟩, .int .i64 0, .int .i64 0])) := by kernel_rfl
theorem eqg_34 : Tryd.prog.eqGuardType Tryd.prog.depth 34 = false := by kernel_rfl
theorem eqV_34 : ∀ (a0 b0 : Int) (a1 b1 : List UInt8) (a2 b2 : Int) (a3 b3 : Int), eqV Tryd.prog 9 34 [.int .i64 a0, .string ⟨a1.toArray⟩, .int .i64 a2, .int .i64 a3] [.int .i64 b0, .string ⟨b1.toArray⟩, .int .i64 b2, .int .i64 b3] = some ((a0 == b0) && ((a1 == b1) && ((a2 == b2) && ((a3 == b3) && true)))) := fun a0 b0 a1 b1 a2 b2 a3 b3 => by kernel_rfl
def places_34 : List (Nat × Nat) := [(0, 1), (1, 1), (2, 1), (3, 1)]
theorem places_34_ok : ∀ w : World, ((match Tryd.t33.desc with | .struct fs => fs | _ => (#[] : Array Field)).mapM fun (f : Field) => (do pure (f.offset, ← sizeOf f.type) : Sem (Nat × Nat))).run Tryd.prog w = .ok places_34.toArray w := fun _ => by kernel_rfl
theorem sizeOf_48 : SizeOf Tryd.prog 48 1 := by unfold SizeOf; kernel_rfl
theorem Tryd.i48 : Tryd.prog.info? 48 = some Tryd.t48 := by kernel_rfl
theorem zero_48 : (Tryd.prog.info? 48).map (·.zero) = some (some (.slice none 0 0)) := by kernel_rfl
theorem sizeOf_50 : SizeOf Tryd.prog 50 17 := by unfold SizeOf; kernel_rfl
theorem Tryd.i50 : Tryd.prog.info? 50 = some Tryd.t50 := by kernel_rfl
theorem zero_50 : (Tryd.prog.info? 50).map (·.zero) = some (some (.agg #[.int .i64 0, .int .i64 0, .int .i64 0, .int .i64 0, .int .i64 0, .int .i64 0, .int .i64 0, .int .i64 0, .int .i64 0, .int .i64 0, .int .i64 0, .int .i64 0, .int .i64 0, .int .i64 0, .int .i64 0, .int .i64 0, .int .i64 0])) := by kernel_rfl
theorem eqg_50 : Tryd.prog.eqGuardType Tryd.prog.depth 50 = false := by kernel_rfl
theorem eqV_50 : ∀ (a0 b0 : Int) (a1 b1 : Int) (a2 b2 : Int) (a3 b3 : Int) (a4 b4 : Int) (a5 b5 : Int) (a6 b6 : Int) (a7 b7 : Int) (a8 b8 : Int) (a9 b9 : Int) (a10 b10 : Int) (a11 b11 : Int) (a12 b12 : Int) (a13 b13 : Int) (a14 b14 : Int) (a15 b15 : Int) (a16 b16 : Int), eqV Tryd.prog 9 50 [.int .i64 a0, .int .i64 a1, .int .i64 a2, .int .i64 a3, .int .i64 a4, .int .i64 a5, .int .i64 a6, .int .i64 a7, .int .i64 a8, .int .i64 a9, .int .i64 a10, .int .i64 a11, .int .i64 a12, .int .i64 a13, .int .i64 a14, .int .i64 a15, .int .i64 a16] [.int .i64 b0, .int .i64 b1, .int .i64 b2, .int .i64 b3, .int .i64 b4, .int .i64 b5, .int .i64 b6, .int .i64 b7, .int .i64 b8, .int .i64 b9, .int .i64 b10, .int .i64 b11, .int .i64 b12, .int .i64 b13, .int .i64 b14, .int .i64 b15, .int .i64 b16] = some ((a0 == b0) && ((a1 == b1) && ((a2 == b2) && ((a3 == b3) && ((a4 == b4) && ((a5 == b5) && ((a6 == b6) && ((a7 == b7) && ((a8 == b8) && ((a9 == b9) && ((a10 == b10) && ((a11 == b11) && ((a12 == b12) && ((a13 == b13) && ((a14 == b14) && ((a15 == b15) && ((a16 == b16) && true))))))))))))))))) := fun a0 b0 a1 b1 a2 b2 a3 b3 a4 b4 a5 b5 a6 b6 a7 b7 a8 b8 a9 b9 a10 b10 a11 b11 a12 b12 a13 b13 a14 b14 a15 b15 a16 b16 => by kernel_rfl
theorem sizeOf_51 : SizeOf Tryd.prog 51 1 := by unfold SizeOf; kernel_rfl
theorem Tryd.i51 : Tryd.prog.info? 51 = some Tryd.t51 := by kernel_rfl
theorem zero_51 : (Tryd.prog.info? 51).map (·.zero) = some (some (.slice none 0 0)) := by kernel_rfl
theorem sizeOf_52 : SizeOf Tryd.prog 52 1 := by unfold SizeOf; kernel_rfl
theorem Tryd.i52 : Tryd.prog.info? 52 = some Tryd.t52 := by kernel_rfl
theorem zero_52 : (Tryd.prog.info? 52).map (·.zero) = some (some (.slice none 0 0)) := by kernel_rfl
theorem sizeOf_53 : SizeOf Tryd.prog 53 3 := by unfold SizeOf; kernel_rfl
theorem Tryd.i53 : Tryd.prog.info? 53 = some Tryd.t53 := by kernel_rfl
theorem zero_53 : (Tryd.prog.info? 53).map (·.zero) = some (some (.agg #[.bool false, .bool false, .bool false])) := by kernel_rfl
theorem sizeOf_54 : SizeOf Tryd.prog 54 5 := by unfold SizeOf; kernel_rfl
theorem Tryd.i54 : Tryd.prog.info? 54 = some Tryd.t54 := by kernel_rfl
theorem zero_54 : (Tryd.prog.info? 54).map (·.zero) = some (some (.agg #[.int .i64 0, .slice none 0 0, .bool false, .bool false, .bool false])) := by kernel_rfl
def places_54 : List (Nat × Nat) := [(0, 1), (1, 1), (2, 3)]
theorem places_54_ok : ∀ w : World, ((match Tryd.t54.desc with | .struct fs => fs | _ => (#[] : Array Field)).mapM fun (f : Field) => (do pure (f.offset, ← sizeOf f.type) : Sem (Nat × Nat))).run Tryd.prog w = .ok places_54.toArray w := fun _ => by kernel_rfl
theorem sizeOf_55 : SizeOf Tryd.prog 55 5 := by unfold SizeOf; kernel_rfl
theorem Tryd.i55 : Tryd.prog.info? 55 = some Tryd.t55 := by kernel_rfl
theorem zero_55 : (Tryd.prog.info? 55).map (·.zero) = some (some (.agg #[.int .i64 0, .slice none 0 0, .bool false, .bool false, .bool false])) := by kernel_rfl
def places_55 : List (Nat × Nat) := [(0, 1), (1, 1), (2, 3)]
theorem places_55_ok : ∀ w : World, ((match Tryd.t54.desc with | .struct fs => fs | _ => (#[] : Array Field)).mapM fun (f : Field) => (do pure (f.offset, ← sizeOf f.type) : Sem (Nat × Nat))).run Tryd.prog w = .ok places_55.toArray w := fun _ => by kernel_rfl
theorem sizeOf_56 : SizeOf Tryd.prog 56 7 := by unfold SizeOf; kernel_rfl
theorem Tryd.i56 : Tryd.prog.info? 56 = some Tryd.t56 := by kernel_rfl
theorem zero_56 : (Tryd.prog.info? 56).map (·.zero) = some (some (.agg #[.int .i64 0, .slice none 0 0, .int .i64 0, .slice none 0 0, .bool false, .bool false, .bool false])) := by kernel_rfl
def places_56 : List (Nat × Nat) := [(0, 1), (1, 1), (2, 5)]
theorem places_56_ok : ∀ w : World, ((match Tryd.t56.desc with | .struct fs => fs | _ => (#[] : Array Field)).mapM fun (f : Field) => (do pure (f.offset, ← sizeOf f.type) : Sem (Nat × Nat))).run Tryd.prog w = .ok places_56.toArray w := fun _ => by kernel_rfl
theorem sizeOf_57 : SizeOf Tryd.prog 57 7 := by unfold SizeOf; kernel_rfl
theorem Tryd.i57 : Tryd.prog.info? 57 = some Tryd.t57 := by kernel_rfl
theorem zero_57 : (Tryd.prog.info? 57).map (·.zero) = some (some (.agg #[.int .i64 0, .slice none 0 0, .int .i64 0, .slice none 0 0, .bool false, .bool false, .bool false])) := by kernel_rfl
def places_57 : List (Nat × Nat) := [(0, 1), (1, 1), (2, 5)]
theorem places_57_ok : ∀ w : World, ((match Tryd.t56.desc with | .struct fs => fs | _ => (#[] : Array Field)).mapM fun (f : Field) => (do pure (f.offset, ← sizeOf f.type) : Sem (Nat × Nat))).run Tryd.prog w = .ok places_57.toArray w := fun _ => by kernel_rfl
theorem sizeOf_64 : SizeOf Tryd.prog 64 5 := by unfold SizeOf; kernel_rfl
theorem Tryd.i64 : Tryd.prog.info? 64 = some Tryd.t64 := by kernel_rfl
theorem zero_64 : (Tryd.prog.info? 64).map (·.zero) = some (some (.agg #[.int .i64 0, .int .i64 0, .int .i64 0, .bool false, .int .i64 0])) := by kernel_rfl
def places_64 : List (Nat × Nat) := [(0, 1), (1, 1), (2, 1), (3, 1), (4, 1)]
theorem places_64_ok : ∀ w : World, ((match Tryd.t64.desc with | .struct fs => fs | _ => (#[] : Array Field)).mapM fun (f : Field) => (do pure (f.offset, ← sizeOf f.type) : Sem (Nat × Nat))).run Tryd.prog w = .ok places_64.toArray w := fun _ => by kernel_rfl
theorem sizeOf_65 : SizeOf Tryd.prog 65 5 := by unfold SizeOf; kernel_rfl
theorem Tryd.i65 : Tryd.prog.info? 65 = some Tryd.t65 := by kernel_rfl
theorem zero_65 : (Tryd.prog.info? 65).map (·.zero) = some (some (.agg #[.int .i64 0, .int .i64 0, .int .i64 0, .bool false, .int .i64 0])) := by kernel_rfl
theorem eqg_65 : Tryd.prog.eqGuardType Tryd.prog.depth 65 = false := by kernel_rfl
theorem eqV_65 : ∀ (a0 b0 : Int) (a1 b1 : Int) (a2 b2 : Int) (a3 b3 : Bool) (a4 b4 : Int), eqV Tryd.prog 9 65 [.int .i64 a0, .int .i64 a1, .int .i64 a2, .bool a3, .int .i64 a4] [.int .i64 b0, .int .i64 b1, .int .i64 b2, .bool b3, .int .i64 b4] = some ((a0 == b0) && ((a1 == b1) && ((a2 == b2) && ((a3 == b3) && ((a4 == b4) && true))))) := fun a0 b0 a1 b1 a2 b2 a3 b3 a4 b4 => by kernel_rfl
def places_65 : List (Nat × Nat) := [(0, 1), (1, 1), (2, 1), (3, 1), (4, 1)]
theorem places_65_ok : ∀ w : World, ((match Tryd.t64.desc with | .struct fs => fs | _ => (#[] : Array Field)).mapM fun (f : Field) => (do pure (f.offset, ← sizeOf f.type) : Sem (Nat × Nat))).run Tryd.prog w = .ok places_65.toArray w := fun _ => by kernel_rfl
theorem sizeOf_77 : SizeOf Tryd.prog 77 1 := by unfold SizeOf; kernel_rfl
theorem Tryd.i77 : Tryd.prog.info? 77 = some Tryd.t77 := by kernel_rfl
theorem zero_77 : (Tryd.prog.info? 77).map (·.zero) = some (some (.int .u16 0)) := by kernel_rfl
theorem sizeOf_80 : SizeOf Tryd.prog 80 1 := by unfold SizeOf; kernel_rfl
theorem Tryd.i80 : Tryd.prog.info? 80 = some Tryd.t80 := by kernel_rfl
theorem zero_80 : (Tryd.prog.info? 80).map (·.zero) = some (some (.slice none 0 0)) := by kernel_rfl
theorem sizeOf_82 : SizeOf Tryd.prog 82 2 := by unfold SizeOf; kernel_rfl
theorem Tryd.i82 : Tryd.prog.info? 82 = some Tryd.t82 := by kernel_rfl
theorem zero_82 : (Tryd.prog.info? 82).map (·.zero) = some (some (.agg #[.string ⟨#[]⟩, .int .i64 0])) := by kernel_rfl
def places_82 : List (Nat × Nat) := [(0, 1), (1, 1)]
theorem places_82_ok : ∀ w : World, ((match Tryd.t82.desc with | .struct fs => fs | _ => (#[] : Array Field)).mapM fun (f : Field) => (do pure (f.offset, ← sizeOf f.type) : Sem (Nat × Nat))).run Tryd.prog w = .ok places_82.toArray w := fun _ => by kernel_rfl
theorem sizeOf_83 : SizeOf Tryd.prog 83 2 := by unfold SizeOf; kernel_rfl
theorem Tryd.i83 : Tryd.prog.info? 83 = some Tryd.t83 := by kernel_rfl
theorem zero_83 : (Tryd.prog.info? 83).map (·.zero) = some (some (.agg #[.string ⟨#[]⟩, .int .i64 0])) := by kernel_rfl
def places_83 : List (Nat × Nat) := [(0, 1), (1, 1)]
theorem places_83_ok : ∀ w : World, ((match Tryd.t82.desc with | .struct fs => fs | _ => (#[] : Array Field)).mapM fun (f : Field) => (do pure (f.offset, ← sizeOf f.type) : Sem (Nat × Nat))).run Tryd.prog w = .ok places_83.toArray w := fun _ => by kernel_rfl
theorem sizeOf_102 : SizeOf Tryd.prog 102 256 := by unfold SizeOf; kernel_rfl
theorem Tryd.i102 : Tryd.prog.info? 102 = some Tryd.t102 := by kernel_rfl
theorem sizeOf_103 : SizeOf Tryd.prog 103 256 := by unfold SizeOf; kernel_rfl
theorem Tryd.i103 : Tryd.prog.info? 103 = some Tryd.t103 := by kernel_rfl
theorem sizeOf_107 : SizeOf Tryd.prog 107 1 := by unfold SizeOf; kernel_rfl
theorem Tryd.i107 : Tryd.prog.info? 107 = some Tryd.t107 := by kernel_rfl
theorem zero_107 : (Tryd.prog.info? 107).map (·.zero) = some (some (.pointer none)) := by kernel_rfl
theorem sizeOf_111 : SizeOf Tryd.prog 111 1 := by unfold SizeOf; kernel_rfl
theorem Tryd.i111 : Tryd.prog.info? 111 = some Tryd.t111 := by kernel_rfl
theorem zero_111 : (Tryd.prog.info? 111).map (·.zero) = some (some (.pointer none)) := by kernel_rfl
theorem sizeOf_112 : SizeOf Tryd.prog 112 2 := by unfold SizeOf; kernel_rfl
theorem Tryd.i112 : Tryd.prog.info? 112 = some Tryd.t112 := by kernel_rfl
theorem zero_112 : (Tryd.prog.info? 112).map (·.zero) = some (some (.agg #[.pointer none, .slice none 0 0])) := by kernel_rfl
def places_112 : List (Nat × Nat) := [(0, 1), (1, 1)]
theorem places_112_ok : ∀ w : World, ((match Tryd.t112.desc with | .struct fs => fs | _ => (#[] : Array Field)).mapM fun (f : Field) => (do pure (f.offset, ← sizeOf f.type) : Sem (Nat × Nat))).run Tryd.prog w = .ok places_112.toArray w := fun _ => by kernel_rfl
theorem sizeOf_113 : SizeOf Tryd.prog 113 2 := by unfold SizeOf; kernel_rfl
theorem Tryd.i113 : Tryd.prog.info? 113 = some Tryd.t113 := by kernel_rfl
theorem zero_113 : (Tryd.prog.info? 113).map (·.zero) = some (some (.agg #[.pointer none, .slice none 0 0])) := by kernel_rfl
def places_113 : List (Nat × Nat) := [(0, 1), (1, 1)]
theorem places_113_ok : ∀ w : World, ((match Tryd.t112.desc with | .struct fs => fs | _ => (#[] : Array Field)).mapM fun (f : Field) => (do pure (f.offset, ← sizeOf f.type) : Sem (Nat × Nat))).run Tryd.prog w = .ok places_113.toArray w := fun _ => by kernel_rfl
theorem sizeOf_115 : SizeOf Tryd.prog 115 1 := by unfold SizeOf; kernel_rfl
theorem Tryd.i115 : Tryd.prog.info? 115 = some Tryd.t115 := by kernel_rfl
theorem zero_115 : (Tryd.prog.info? 115).map (·.zero) = some (some (.nilIface)) := by kernel_rfl
theorem sizeOf_116 : SizeOf Tryd.prog 116 1 := by unfold SizeOf; kernel_rfl
theorem Tryd.i116 : Tryd.prog.info? 116 = some Tryd.t116 := by kernel_rfl
theorem zero_116 : (Tryd.prog.info? 116).map (·.zero) = some (some (.nilIface)) := by kernel_rfl
theorem sizeOf_121 : SizeOf Tryd.prog 121 1 := by unfold SizeOf; kernel_rfl
theorem Tryd.i121 : Tryd.prog.info? 121 = some Tryd.t121 := by kernel_rfl
theorem zero_121 : (Tryd.prog.info? 121).map (·.zero) = some (some (.int .u64 0)) := by kernel_rfl
theorem sizeOf_129 : SizeOf Tryd.prog 129 1 := by unfold SizeOf; kernel_rfl
theorem Tryd.i129 : Tryd.prog.info? 129 = some Tryd.t129 := by kernel_rfl
theorem zero_129 : (Tryd.prog.info? 129).map (·.zero) = some (some (.pointer none)) := by kernel_rfl
theorem sizeOf_141 : SizeOf Tryd.prog 141 24 := by unfold SizeOf; kernel_rfl
theorem Tryd.i141 : Tryd.prog.info? 141 = some Tryd.t141 := by kernel_rfl
theorem zero_141 : (Tryd.prog.info? 141).map (·.zero) = some (some (.agg #[.int .u8 0, .int .u8 0, .int .u8 0, .int .u8 0, .int .u8 0, .int .u8 0, .int .u8 0, .int .u8 0, .int .u8 0, .int .u8 0, .int .u8 0, .int .u8 0, .int .u8 0, .int .u8 0, .int .u8 0, .int .u8 0, .int .u8 0, .int .u8 0, .int .u8 0, .int .u8 0, .int .u8 0, .int .u8 0, .int .u8 0, .int .u8 0])) := by kernel_rfl
theorem sizeOf_146 : SizeOf Tryd.prog 146 1 := by unfold SizeOf; kernel_rfl
theorem Tryd.i146 : Tryd.prog.info? 146 = some Tryd.t146 := by kernel_rfl
theorem zero_146 : (Tryd.prog.info? 146).map (·.zero) = some (some (.pointer none)) := by kernel_rfl
theorem sizeOf_149 : SizeOf Tryd.prog 149 1 := by unfold SizeOf; kernel_rfl
theorem Tryd.i149 : Tryd.prog.info? 149 = some Tryd.t149 := by kernel_rfl
theorem zero_149 : (Tryd.prog.info? 149).map (·.zero) = some (some (.int .i64 0)) := by kernel_rfl
theorem sizeOf_152 : SizeOf Tryd.prog 152 1 := by unfold SizeOf; kernel_rfl
theorem Tryd.i152 : Tryd.prog.info? 152 = some Tryd.t152 := by kernel_rfl
theorem zero_152 : (Tryd.prog.info? 152).map (·.zero) = some (some (.pointer none)) := by kernel_rfl
theorem sizeOf_155 : SizeOf Tryd.prog 155 1 := by unfold SizeOf; kernel_rfl
theorem Tryd.i155 : Tryd.prog.info? 155 = some Tryd.t155 := by kernel_rfl
theorem zero_155 : (Tryd.prog.info? 155).map (·.zero) = some (some (.int .u64 0)) := by kernel_rfl
theorem sizeOf_156 : SizeOf Tryd.prog 156 1 := by unfold SizeOf; kernel_rfl
theorem Tryd.i156 : Tryd.prog.info? 156 = some Tryd.t156 := by kernel_rfl
theorem zero_156 : (Tryd.prog.info? 156).map (·.zero) = some (some (.slice none 0 0)) := by kernel_rfl
theorem sizeOf_159 : SizeOf Tryd.prog 159 20 := by unfold SizeOf; kernel_rfl
theorem Tryd.i159 : Tryd.prog.info? 159 = some Tryd.t159 := by kernel_rfl
theorem zero_159 : (Tryd.prog.info? 159).map (·.zero) = some (some (.agg #[.int .u64 0, .int .u64 0, .int .u64 0, .int .u64 0, .int .u64 0, .int .u64 0, .int .u64 0, .int .u64 0, .int .u64 0, .int .u64 0, .int .u64 0, .int .u64 0, .int .u64 0, .int .u64 0, .int .u64 0, .int .u64 0, .int .u64 0, .int .u64 0, .int .u64 0, .int .u64 0])) := by kernel_rfl
theorem sizeOf_160 : SizeOf Tryd.prog 160 65 := by unfold SizeOf; kernel_rfl
theorem Tryd.i160 : Tryd.prog.info? 160 = some Tryd.t160 := by kernel_rfl
theorem zero_160 : (Tryd.prog.info? 160).map (·.zero) = some (some (.agg #[.int .u8 0, .int .u8 0, .int .u8 0, .int .u8 0, .int .u8 0, .int .u8 0, .int .u8 0, .int .u8 0, .int .u8 0, .int .u8 0, .int .u8 0, .int .u8 0, .int .u8 0, .int .u8 0, .int .u8 0, .int .u8 0, .int .u8 0, .int .u8 0, .int .u8 0, .int .u8 0, .int .u8 0, .int .u8 0, .int .u8 0, .int .u8 0, .int .u8 0, .int .u8 0, .int .u8 0, .int .u8 0, .int .u8 0, .int .u8 0, .int .u8 0, .int .u8 0, .int .u8 0, .int .u8 0, .int .u8 0, .int .u8 0, .int .u8 0, .int .u8 0, .int .u8 0, .int .u8 0, .int .u8 0, .int .u8 0, .int .u8 0, .int .u8 0, .int .u8 0, .int .u8 0, .int .u8 0, .int .u8 0, .int .u8 0, .int .u8 0, .int .u8 0, .int .u8 0, .int .u8 0, .int .u8 0, .int .u8 0, .int .u8 0, .int .u8 0, .int .u8 0, .int .u8 0, .int .u8 0, .int .u8 0, .int .u8 0, .int .u8 0, .int .u8 0, .int .u8 0])) := by kernel_rfl
theorem sizeOf_162 : SizeOf Tryd.prog 162 256 := by unfold SizeOf; kernel_rfl
theorem Tryd.i162 : Tryd.prog.info? 162 = some Tryd.t162 := by kernel_rfl
theorem sizeOf_163 : SizeOf Tryd.prog 163 2 := by unfold SizeOf; kernel_rfl
theorem Tryd.i163 : Tryd.prog.info? 163 = some Tryd.t163 := by kernel_rfl
theorem zero_163 : (Tryd.prog.info? 163).map (·.zero) = some (some (.agg #[.int .u8 0, .int .u8 0])) := by kernel_rfl
def places_163 : List (Nat × Nat) := [(0, 1), (1, 1)]
theorem places_163_ok : ∀ w : World, ((match Tryd.t163.desc with | .struct fs => fs | _ => (#[] : Array Field)).mapM fun (f : Field) => (do pure (f.offset, ← sizeOf f.type) : Sem (Nat × Nat))).run Tryd.prog w = .ok places_163.toArray w := fun _ => by kernel_rfl
theorem sizeOf_164 : SizeOf Tryd.prog 164 2 := by unfold SizeOf; kernel_rfl
theorem Tryd.i164 : Tryd.prog.info? 164 = some Tryd.t164 := by kernel_rfl
theorem zero_164 : (Tryd.prog.info? 164).map (·.zero) = some (some (.agg #[.int .u8 0, .int .u8 0])) := by kernel_rfl
def places_164 : List (Nat × Nat) := [(0, 1), (1, 1)]
theorem places_164_ok : ∀ w : World, ((match Tryd.t163.desc with | .struct fs => fs | _ => (#[] : Array Field)).mapM fun (f : Field) => (do pure (f.offset, ← sizeOf f.type) : Sem (Nat × Nat))).run Tryd.prog w = .ok places_164.toArray w := fun _ => by kernel_rfl
theorem sizeOf_165 : SizeOf Tryd.prog 165 32 := by unfold SizeOf; kernel_rfl
theorem Tryd.i165 : Tryd.prog.info? 165 = some Tryd.t165 := by kernel_rfl
theorem zero_165 : (Tryd.prog.info? 165).map (·.zero) = some (some (.agg #[.int .u8 0, .int .u8 0, .int .u8 0, .int .u8 0, .int .u8 0, .int .u8 0, .int .u8 0, .int .u8 0, .int .u8 0, .int .u8 0, .int .u8 0, .int .u8 0, .int .u8 0, .int .u8 0, .int .u8 0, .int .u8 0, .int .u8 0, .int .u8 0, .int .u8 0, .int .u8 0, .int .u8 0, .int .u8 0, .int .u8 0, .int .u8 0, .int .u8 0, .int .u8 0, .int .u8 0, .int .u8 0, .int .u8 0, .int .u8 0, .int .u8 0, .int .u8 0])) := by kernel_rfl
theorem sizeOf_170 : SizeOf Tryd.prog 170 3 := by unfold SizeOf; kernel_rfl
theorem Tryd.i170 : Tryd.prog.info? 170 = some Tryd.t170 := by kernel_rfl
theorem zero_170 : (Tryd.prog.info? 170).map (·.zero) = some (some (.agg #[.string ⟨#[]⟩, .string ⟨#[]⟩, .nilIface])) := by kernel_rfl
def places_170 : List (Nat × Nat) := [(0, 1), (1, 1), (2, 1)]
theorem places_170_ok : ∀ w : World, ((match Tryd.t170.desc with | .struct fs => fs | _ => (#[] : Array Field)).mapM fun (f : Field) => (do pure (f.offset, ← sizeOf f.type) : Sem (Nat × Nat))).run Tryd.prog w = .ok places_170.toArray w := fun _ => by kernel_rfl
theorem sizeOf_171 : SizeOf Tryd.prog 171 3 := by unfold SizeOf; kernel_rfl
theorem Tryd.i171 : Tryd.prog.info? 171 = some Tryd.t171 := by kernel_rfl
theorem zero_171 : (Tryd.prog.info? 171).map (·.zero) = some (some (.agg #[.string ⟨#[]⟩, .string ⟨#[]⟩, .nilIface])) := by kernel_rfl
def places_171 : List (Nat × Nat) := [(0, 1), (1, 1), (2, 1)]
theorem places_171_ok : ∀ w : World, ((match Tryd.t170.desc with | .struct fs => fs | _ => (#[] : Array Field)).mapM fun (f : Field) => (do pure (f.offset, ← sizeOf f.type) : Sem (Nat × Nat))).run Tryd.prog w = .ok places_171.toArray w := fun _ => by kernel_rfl
theorem sizeOf_177 : SizeOf Tryd.prog 177 1 := by unfold SizeOf; kernel_rfl
theorem Tryd.i177 : Tryd.prog.info? 177 = some Tryd.t177 := by kernel_rfl
theorem zero_177 : (Tryd.prog.info? 177).map (·.zero) = some (some (.pointer none)) := by kernel_rfl
theorem sizeOf_178 : SizeOf Tryd.prog 178 1 := by unfold SizeOf; kernel_rfl
theorem Tryd.i178 : Tryd.prog.info? 178 = some Tryd.t178 := by kernel_rfl
theorem zero_178 : (Tryd.prog.info? 178).map (·.zero) = some (some (.agg #[.string ⟨#[]⟩])) := by kernel_rfl
def places_178 : List (Nat × Nat) := [(0, 1)]
theorem places_178_ok : ∀ w : World, ((match Tryd.t178.desc with | .struct fs => fs | _ => (#[] : Array Field)).mapM fun (f : Field) => (do pure (f.offset, ← sizeOf f.type) : Sem (Nat × Nat))).run Tryd.prog w = .ok places_178.toArray w := fun _ => by kernel_rfl
theorem sizeOf_179 : SizeOf Tryd.prog 179 1 := by unfold SizeOf; kernel_rfl
theorem Tryd.i179 : Tryd.prog.info? 179 = some Tryd.t179 := by kernel_rfl
theorem zero_179 : (Tryd.prog.info? 179).map (·.zero) = some (some (.agg #[.string ⟨#[]⟩])) := by kernel_rfl
def places_179 : List (Nat × Nat) := [(0, 1)]
theorem places_179_ok : ∀ w : World, ((match Tryd.t178.desc with | .struct fs => fs | _ => (#[] : Array Field)).mapM fun (f : Field) => (do pure (f.offset, ← sizeOf f.type) : Sem (Nat × Nat))).run Tryd.prog w = .ok places_179.toArray w := fun _ => by kernel_rfl
theorem sizeOf_180 : SizeOf Tryd.prog 180 32 := by unfold SizeOf; kernel_rfl
theorem Tryd.i180 : Tryd.prog.info? 180 = some Tryd.t180 := by kernel_rfl
theorem zero_180 : (Tryd.prog.info? 180).map (·.zero) = some (some (.agg #[.int .u8 0, .int .u8 0, .int .u8 0, .int .u8 0, .int .u8 0, .int .u8 0, .int .u8 0, .int .u8 0, .int .u8 0, .int .u8 0, .int .u8 0, .int .u8 0, .int .u8 0, .int .u8 0, .int .u8 0, .int .u8 0, .int .u8 0, .int .u8 0, .int .u8 0, .int .u8 0, .int .u8 0, .int .u8 0, .int .u8 0, .int .u8 0, .int .u8 0, .int .u8 0, .int .u8 0, .int .u8 0, .int .u8 0, .int .u8 0, .int .u8 0, .int .u8 0])) := by kernel_rfl
theorem sizeOf_181 : SizeOf Tryd.prog 181 64 := by unfold SizeOf; kernel_rfl
theorem Tryd.i181 : Tryd.prog.info? 181 = some Tryd.t181 := by kernel_rfl
theorem zero_181 : (Tryd.prog.info? 181).map (·.zero) = some (some (.agg #[.int .u8 0, .int .u8 0, .int .u8 0, .int .u8 0, .int .u8 0, .int .u8 0, .int .u8 0, .int .u8 0, .int .u8 0, .int .u8 0, .int .u8 0, .int .u8 0, .int .u8 0, .int .u8 0, .int .u8 0, .int .u8 0, .int .u8 0, .int .u8 0, .int .u8 0, .int .u8 0, .int .u8 0, .int .u8 0, .int .u8 0, .int .u8 0, .int .u8 0, .int .u8 0, .int .u8 0, .int .u8 0, .int .u8 0, .int .u8 0, .int .u8 0, .int .u8 0, .int .u8 0, .int .u8 0, .int .u8 0, .int .u8 0, .int .u8 0, .int .u8 0, .int .u8 0, .int .u8 0, .int .u8 0, .int .u8 0, .int .u8 0, .int .u8 0, .int .u8 0, .int .u8 0, .int .u8 0, .int .u8 0, .int .u8 0, .int .u8 0, .int .u8 0, .int .u8 0, .int .u8 0, .int .u8 0, .int .u8 0, .int .u8 0, .int .u8 0, .int .u8 0, .int .u8 0, .int .u8 0, .int .u8 0, .int .u8 0, .int .u8 0, .int .u8 0])) := by kernel_rfl
theorem sizeOf_182 : SizeOf Tryd.prog 182 4 := by unfold SizeOf; kernel_rfl
theorem Tryd.i182 : Tryd.prog.info? 182 = some Tryd.t182 := by kernel_rfl
theorem zero_182 : (Tryd.prog.info? 182).map (·.zero) = some (some (.agg #[.pointer none, .pointer none, .pointer none, .string ⟨#[]⟩])) := by kernel_rfl
def places_182 : List (Nat × Nat) := [(0, 1), (1, 1), (2, 1), (3, 1)]
theorem places_182_ok : ∀ w : World, ((match Tryd.t182.desc with | .struct fs => fs | _ => (#[] : Array Field)).mapM fun (f : Field) => (do pure (f.offset, ← sizeOf f.type) : Sem (Nat × Nat))).run Tryd.prog w = .ok places_182.toArray w := fun _ => by kernel_rfl
theorem sizeOf_183 : SizeOf Tryd.prog 183 4 := by unfold SizeOf; kernel_rfl
theorem Tryd.i183 : Tryd.prog.info? 183 = some Tryd.t183 := by kernel_rfl
theorem zero_183 : (Tryd.prog.info? 183).map (·.zero) = some (some (.agg #[.pointer none, .pointer none, .pointer none, .string ⟨#[]⟩])) := by kernel_rfl
def places_183 : List (Nat × Nat) := [(0, 1), (1, 1), (2, 1), (3, 1)]
theorem places_183_ok : ∀ w : World, ((match Tryd.t182.desc with | .struct fs => fs | _ => (#[] : Array Field)).mapM fun (f : Field) => (do pure (f.offset, ← sizeOf f.type) : Sem (Nat × Nat))).run Tryd.prog w = .ok places_183.toArray w := fun _ => by kernel_rfl
theorem sizeOf_184 : SizeOf Tryd.prog 184 0 := by unfold SizeOf; kernel_rfl
theorem Tryd.i184 : Tryd.prog.info? 184 = some Tryd.t184 := by kernel_rfl
theorem zero_184 : (Tryd.prog.info? 184).map (·.zero) = some (some (.agg #[])) := by kernel_rfl
theorem sizeOf_185 : SizeOf Tryd.prog 185 0 := by unfold SizeOf; kernel_rfl
theorem Tryd.i185 : Tryd.prog.info? 185 = some Tryd.t185 := by kernel_rfl
theorem zero_185 : (Tryd.prog.info? 185).map (·.zero) = some (some (.agg #[])) := by kernel_rfl
def places_185 : List (Nat × Nat) := [(0, 0)]
theorem places_185_ok : ∀ w : World, ((match Tryd.t185.desc with | .struct fs => fs | _ => (#[] : Array Field)).mapM fun (f : Field) => (do pure (f.offset, ← sizeOf f.type) : Sem (Nat × Nat))).run Tryd.prog w = .ok places_185.toArray w := fun _ => by kernel_rfl
theorem sizeOf_186 : SizeOf Tryd.prog 186 0 := by unfold SizeOf; kernel_rfl
theorem Tryd.i186 : Tryd.prog.info? 186 = some Tryd.t186 := by kernel_rfl
theorem zero_186 : (Tryd.prog.info? 186).map (·.zero) = some (some (.agg #[])) := by kernel_rfl
def places_186 : List (Nat × Nat) := [(0, 0)]
theorem places_186_ok : ∀ w : World, ((match Tryd.t185.desc with | .struct fs => fs | _ => (#[] : Array Field)).mapM fun (f : Field) => (do pure (f.offset, ← sizeOf f.type) : Sem (Nat × Nat))).run Tryd.prog w = .ok places_186.toArray w := fun _ => by kernel_rfl
theorem sizeOf_188 : SizeOf Tryd.prog 188 1 := by unfold SizeOf; kernel_rfl
theorem Tryd.i188 : Tryd.prog.info? 188 = some Tryd.t188 := by kernel_rfl
theorem zero_188 : (Tryd.prog.info? 188).map (·.zero) = some (some (.int .u8 0)) := by kernel_rfl
theorem sizeOf_189 : SizeOf Tryd.prog 189 1 := by unfold SizeOf; kernel_rfl
theorem Tryd.i189 : Tryd.prog.info? 189 = some Tryd.t189 := by kernel_rfl
theorem zero_189 : (Tryd.prog.info? 189).map (·.zero) = some (some (.int .u8 0)) := by kernel_rfl
theorem sizeOf_191 : SizeOf Tryd.prog 191 1 := by unfold SizeOf; kernel_rfl
theorem Tryd.i191 : Tryd.prog.info? 191 = some Tryd.t191 := by kernel_rfl
theorem zero_191 : (Tryd.prog.info? 191).map (·.zero) = some (some (.int .i32 0)) := by kernel_rfl
theorem sizeOf_192 : SizeOf Tryd.prog 192 1 := by unfold SizeOf; kernel_rfl
theorem Tryd.i192 : Tryd.prog.info? 192 = some Tryd.t192 := by kernel_rfl
theorem zero_192 : (Tryd.prog.info? 192).map (·.zero) = some (some (.int .i32 0)) := by kernel_rfl
theorem sizeOf_193 : SizeOf Tryd.prog 193 11 := by unfold SizeOf; kernel_rfl
theorem Tryd.i193 : Tryd.prog.info? 193 = some Tryd.t193 := by kernel_rfl
theorem zero_193 : (Tryd.prog.info? 193).map (·.zero) = some (some (.agg #[.int .u64 0, .int .u64 0, .int .u32 0, .int .u8 0, .int .u8 0, .int .u8 0, .int .u8 0, .nilFunc, .pointer none, .int .i32 0, .int .i32 0])) := by kernel_rfl
def places_193 : List (Nat × Nat) := [(0, 1), (1, 1), (2, 1), (3, 1), (4, 1), (5, 1), (6, 1), (7, 1), (8, 1), (9, 1), (10, 1)]
theorem places_193_ok : ∀ w : World, ((match Tryd.t193.desc with | .struct fs => fs | _ => (#[] : Array Field)).mapM fun (f : Field) => (do pure (f.offset, ← sizeOf f.type) : Sem (Nat × Nat))).run Tryd.prog w = .ok places_193.toArray w := fun _ => by kernel_rfl
theorem sizeOf_194 : SizeOf Tryd.prog 194 11 := by unfold SizeOf; kernel_rfl
theorem Tryd.i194 : Tryd.prog.info? 194 = some Tryd.t194 := by kernel_rfl
theorem zero_194 : (Tryd.prog.info? 194).map (·.zero) = some (some (.agg #[.int .u64 0, .int .u64 0, .int .u32 0, .int .u8 0, .int .u8 0, .int .u8 0, .int .u8 0, .nilFunc, .pointer none, .int .i32 0, .int .i32 0])) := by kernel_rfl
def places_194 : List (Nat × Nat) := [(0, 1), (1, 1), (2, 1), (3, 1), (4, 1), (5, 1), (6, 1), (7, 1), (8, 1), (9, 1), (10, 1)]
theorem places_194_ok : ∀ w : World, ((match Tryd.t193.desc with | .struct fs => fs | _ => (#[] : Array Field)).mapM fun (f : Field) => (do pure (f.offset, ← sizeOf f.type) : Sem (Nat × Nat))).run Tryd.prog w = .ok places_194.toArray w := fun _ => by kernel_rfl
theorem sizeOf_195 : SizeOf Tryd.prog 195 3 := by unfold SizeOf; kernel_rfl
theorem Tryd.i195 : Tryd.prog.info? 195 = some Tryd.t195 := by kernel_rfl
theorem zero_195 : (Tryd.prog.info? 195).map (·.zero) = some (some (.agg #[.int .i64 0, .int .i64 0, .int .i64 0])) := by kernel_rfl
theorem sizeOf_196 : SizeOf Tryd.prog 196 11 := by unfold SizeOf; kernel_rfl
theorem Tryd.i196 : Tryd.prog.info? 196 = some Tryd.t196 := by kernel_rfl
theorem zero_196 : (Tryd.prog.info? 196).map (·.zero) = some (some (.agg #[.string ⟨#[]⟩, .int .i64 0, .bool false, .int .i64 0, .int .i64 0, .int .i64 0, .int .i64 0, .int .i64 0, .int .i64 0, .string ⟨#[]⟩, .int .i64 0])) := by kernel_rfl
def places_196 : List (Nat × Nat) := [(0, 1), (1, 1), (2, 1), (3, 3), (6, 3), (9, 1), (10, 1)]
theorem places_196_ok : ∀ w : World, ((match Tryd.t196.desc with | .struct fs => fs | _ => (#[] : Array Field)).mapM fun (f : Field) => (do pure (f.offset, ← sizeOf f.type) : Sem (Nat × Nat))).run Tryd.prog w = .ok places_196.toArray w := fun _ => by kernel_rfl
theorem sizeOf_197 : SizeOf Tryd.prog 197 11 := by unfold SizeOf; kernel_rfl
theorem Tryd.i197 : Tryd.prog.info? 197 = some Tryd.t197 := by kernel_rfl
theorem zero_197 : (Tryd.prog.info? 197).map (·.zero) = some (some (.agg #[.string ⟨#[]⟩, .int .i64 0, .bool false, .int .i64 0, .int .i64 0, .int .i64 0, .int .i64 0, .int .i64 0, .int .i64 0, .string ⟨#[]⟩, .int .i64 0])) := by kernel_rfl
def places_197 : List (Nat × Nat) := [(0, 1), (1, 1), (2, 1), (3, 3), (6, 3), (9, 1), (10, 1)]
theorem places_197_ok : ∀ w : World, ((match Tryd.t196.desc with | .struct fs => fs | _ => (#[] : Array Field)).mapM fun (f : Field) => (do pure (f.offset, ← sizeOf f.type) : Sem (Nat × Nat))).run Tryd.prog w = .ok places_197.toArray w := fun _ => by kernel_rfl
theorem sizeOf_198 : SizeOf Tryd.prog 198 12 := by unfold SizeOf; kernel_rfl
theorem Tryd.i198 : Tryd.prog.info? 198 = some Tryd.t198 := by kernel_rfl
theorem zero_198 : (Tryd.prog.info? 198).map (·.zero) = some (some (.agg #[.string ⟨#[]⟩, .int .i64 0, .bool false, .int .i64 0, .int .i64 0, .int .i64 0, .int .i64 0, .int .i64 0, .int .i64 0, .string ⟨#[]⟩, .int .i64 0, .int .i64 0])) := by kernel_rfl
def places_198 : List (Nat × Nat) := [(0, 11), (11, 1)]
theorem places_198_ok : ∀ w : World, ((match Tryd.t198.desc with | .struct fs => fs | _ => (#[] : Array Field)).mapM fun (f : Field) => (do pure (f.offset, ← sizeOf f.type) : Sem (Nat × Nat))).run Tryd.prog w = .ok places_198.toArray w := fun _ => by kernel_rfl
theorem sizeOf_199 : SizeOf Tryd.prog 199 12 := by unfold SizeOf; kernel_rfl
theorem Tryd.i199 : Tryd.prog.info? 199 = some Tryd.t199 := by kernel_rfl
theorem zero_199 : (Tryd.prog.info? 199).map (·.zero) = some (some (.agg #[.string ⟨#[]⟩, .int .i64 0, .bool false, .int .i64 0, .int .i64 0, .int .i64 0, .int .i64 0, .int .i64 0, .int .i64 0, .string ⟨#[]⟩, .int .i64 0, .int .i64 0])) := by kernel_rfl
def places_199 : List (Nat × Nat) := [(0, 11), (11, 1)]
theorem places_199_ok : ∀ w : World, ((match Tryd.t198.desc with | .struct fs => fs | _ => (#[] : Array Field)).mapM fun (f : Field) => (do pure (f.offset, ← sizeOf f.type) : Sem (Nat × Nat))).run Tryd.prog w = .ok places_199.toArray w := fun _ => by kernel_rfl
end Go.Proofs.YtlpihekflkjkfaaDoor
