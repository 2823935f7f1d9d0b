/- Facts on this seat's types, printed by my program av.py. -/
import Derived.Test.YtpfplkbbdoijnaaDoorAvFnv
import Derived.Test.YtpfplkbbdoijnaaDoorProg
import Derived.KernelRfl
namespace Go.Proofs.YtpfplkbbdoijnaaDoor
open Go.RowKit

theorem sizeOf_2 : SizeOf Tryd.prog 2 1 := by unfold SizeOf; kernel_rfl
theorem Tryd.i2 : Tryd.prog.info? 2 = some Tryd.t2 := by kernel_rfl
theorem zero_2 : (Tryd.prog.info? 2).map (·.zero) = some (some (.int .i64 0)) := by kernel_rfl
theorem sizeOf_3 : SizeOf Tryd.prog 3 1 := by unfold SizeOf; kernel_rfl
theorem Tryd.i3 : Tryd.prog.info? 3 = some Tryd.t3 := by kernel_rfl
theorem zero_3 : (Tryd.prog.info? 3).map (·.zero) = some (some (.int .i64 0)) := by kernel_rfl
theorem sizeOf_4 : SizeOf Tryd.prog 4 1 := by unfold SizeOf; kernel_rfl
theorem Tryd.i4 : Tryd.prog.info? 4 = some Tryd.t4 := by kernel_rfl
theorem zero_4 : (Tryd.prog.info? 4).map (·.zero) = some (some (.bool false)) := by kernel_rfl
theorem sizeOf_5 : SizeOf Tryd.prog 5 1 := by unfold SizeOf; kernel_rfl
theorem Tryd.i5 : Tryd.prog.info? 5 = some Tryd.t5 := by kernel_rfl
theorem zero_5 : (Tryd.prog.info? 5).map (·.zero) = some (some (.int .u8 0)) := by kernel_rfl
theorem sizeOf_6 : SizeOf Tryd.prog 6 1 := by unfold SizeOf; kernel_rfl
theorem Tryd.i6 : Tryd.prog.info? 6 = some Tryd.t6 := by kernel_rfl
theorem zero_6 : (Tryd.prog.info? 6).map (·.zero) = some (some (.int .u8 0)) := by kernel_rfl
theorem sizeOf_7 : SizeOf Tryd.prog 7 4 := by unfold SizeOf; kernel_rfl
theorem Tryd.i7 : Tryd.prog.info? 7 = some Tryd.t7 := by kernel_rfl
theorem zero_7 : (Tryd.prog.info? 7).map (·.zero) = some (some (.agg #[.int .i64 0, .int .i64 0, .bool false, .int .u8 0])) := by kernel_rfl
def places_7 : List (Nat × Nat) := [(0, 1), (1, 1), (2, 1), (3, 1)]
theorem places_7_ok : ∀ w : World, ((match Tryd.t7.desc with | .struct fs => fs | _ => (#[] : Array Field)).mapM fun (f : Field) => (do pure (f.offset, ← sizeOf f.type) : Sem (Nat × Nat))).run Tryd.prog w = .ok places_7.toArray w := fun _ => by kernel_rfl
theorem sizeOf_8 : SizeOf Tryd.prog 8 4 := by unfold SizeOf; kernel_rfl
theorem Tryd.i8 : Tryd.prog.info? 8 = some Tryd.t8 := by kernel_rfl
theorem zero_8 : (Tryd.prog.info? 8).map (·.zero) = some (some (.agg #[.int .i64 0, .int .i64 0, .bool false, .int .u8 0])) := by kernel_rfl
def places_8 : List (Nat × Nat) := [(0, 1), (1, 1), (2, 1), (3, 1)]
theorem places_8_ok : ∀ w : World, ((match Tryd.t7.desc with | .struct fs => fs | _ => (#[] : Array Field)).mapM fun (f : Field) => (do pure (f.offset, ← sizeOf f.type) : Sem (Nat × Nat))).run Tryd.prog w = .ok places_8.toArray w := fun _ => by kernel_rfl
theorem sizeOf_9 : SizeOf Tryd.prog 9 1 := by unfold SizeOf; kernel_rfl
theorem Tryd.i9 : Tryd.prog.info? 9 = some Tryd.t9 := by kernel_rfl
theorem zero_9 : (Tryd.prog.info? 9).map (·.zero) = some (some (.string ⟨#[]⟩)) := by kernel_rfl
theorem sizeOf_10 : SizeOf Tryd.prog 10 1 := by unfold SizeOf; kernel_rfl
theorem Tryd.i10 : Tryd.prog.info? 10 = some Tryd.t10 := by kernel_rfl
theorem zero_10 : (Tryd.prog.info? 10).map (·.zero) = some (some (.string ⟨#[]⟩)) := by kernel_rfl
theorem sizeOf_11 : SizeOf Tryd.prog 11 1 := by unfold SizeOf; kernel_rfl
theorem Tryd.i11 : Tryd.prog.info? 11 = some Tryd.t11 := by kernel_rfl
theorem zero_11 : (Tryd.prog.info? 11).map (·.zero) = some (some (.string ⟨#[]⟩)) := by kernel_rfl
theorem sizeOf_12 : SizeOf Tryd.prog 12 1 := by unfold SizeOf; kernel_rfl
theorem Tryd.i12 : Tryd.prog.info? 12 = some Tryd.t12 := by kernel_rfl
theorem zero_12 : (Tryd.prog.info? 12).map (·.zero) = some (some (.int .u64 0)) := by kernel_rfl
theorem sizeOf_13 : SizeOf Tryd.prog 13 2 := by unfold SizeOf; kernel_rfl
theorem Tryd.i13 : Tryd.prog.info? 13 = some Tryd.t13 := by kernel_rfl
theorem zero_13 : (Tryd.prog.info? 13).map (·.zero) = some (some (.agg #[.string ⟨#[]⟩, .int .u64 0])) := by kernel_rfl
def places_13 : List (Nat × Nat) := [(0, 1), (1, 1)]
theorem places_13_ok : ∀ w : World, ((match Tryd.t13.desc with | .struct fs => fs | _ => (#[] : Array Field)).mapM fun (f : Field) => (do pure (f.offset, ← sizeOf f.type) : Sem (Nat × Nat))).run Tryd.prog w = .ok places_13.toArray w := fun _ => by kernel_rfl
theorem sizeOf_14 : SizeOf Tryd.prog 14 2 := by unfold SizeOf; kernel_rfl
theorem Tryd.i14 : Tryd.prog.info? 14 = some Tryd.t14 := by kernel_rfl
theorem zero_14 : (Tryd.prog.info? 14).map (·.zero) = some (some (.agg #[.string ⟨#[]⟩, .int .u64 0])) := by kernel_rfl
def places_14 : List (Nat × Nat) := [(0, 1), (1, 1)]
theorem places_14_ok : ∀ w : World, ((match Tryd.t13.desc with | .struct fs => fs | _ => (#[] : Array Field)).mapM fun (f : Field) => (do pure (f.offset, ← sizeOf f.type) : Sem (Nat × Nat))).run Tryd.prog w = .ok places_14.toArray w := fun _ => by kernel_rfl
theorem sizeOf_15 : SizeOf Tryd.prog 15 1 := by unfold SizeOf; kernel_rfl
theorem Tryd.i15 : Tryd.prog.info? 15 = some Tryd.t15 := by kernel_rfl
theorem zero_15 : (Tryd.prog.info? 15).map (·.zero) = some (some (.pointer none)) := by kernel_rfl
theorem sizeOf_16 : SizeOf Tryd.prog 16 1 := by unfold SizeOf; kernel_rfl
theorem Tryd.i16 : Tryd.prog.info? 16 = some Tryd.t16 := by kernel_rfl
theorem zero_16 : (Tryd.prog.info? 16).map (·.zero) = some (some (.pointer none)) := by kernel_rfl
theorem sizeOf_17 : SizeOf Tryd.prog 17 1 := by unfold SizeOf; kernel_rfl
theorem Tryd.i17 : Tryd.prog.info? 17 = some Tryd.t17 := by kernel_rfl
theorem zero_17 : (Tryd.prog.info? 17).map (·.zero) = some (some (.pointer none)) := by kernel_rfl
theorem sizeOf_18 : SizeOf Tryd.prog 18 1 := by unfold SizeOf; kernel_rfl
theorem Tryd.i18 : Tryd.prog.info? 18 = some Tryd.t18 := by kernel_rfl
theorem zero_18 : (Tryd.prog.info? 18).map (·.zero) = some (some (.agg #[.pointer none])) := by kernel_rfl
def places_18 : List (Nat × Nat) := [(0, 1)]
theorem places_18_ok : ∀ w : World, ((match Tryd.t18.desc with | .struct fs => fs | _ => (#[] : Array Field)).mapM fun (f : Field) => (do pure (f.offset, ← sizeOf f.type) : Sem (Nat × Nat))).run Tryd.prog w = .ok places_18.toArray w := fun _ => by kernel_rfl
theorem sizeOf_19 : SizeOf Tryd.prog 19 1 := by unfold SizeOf; kernel_rfl
theorem Tryd.i19 : Tryd.prog.info? 19 = some Tryd.t19 := by kernel_rfl
theorem zero_19 : (Tryd.prog.info? 19).map (·.zero) = some (some (.agg #[.pointer none])) := by kernel_rfl
def places_19 : List (Nat × Nat) := [(0, 1)]
theorem places_19_ok : ∀ w : World, ((match Tryd.t18.desc with | .struct fs => fs | _ => (#[] : Array Field)).mapM fun (f : Field) => (do pure (f.offset, ← sizeOf f.type) : Sem (Nat × Nat))).run Tryd.prog w = .ok places_19.toArray w := fun _ => by kernel_rfl
theorem sizeOf_20 : SizeOf Tryd.prog 20 1 := by unfold SizeOf; kernel_rfl
theorem Tryd.i20 : Tryd.prog.info? 20 = some Tryd.t20 := by kernel_rfl
theorem zero_20 : (Tryd.prog.info? 20).map (·.zero) = some (some (.nilIface)) := by kernel_rfl
theorem sizeOf_21 : SizeOf Tryd.prog 21 1 := by unfold SizeOf; kernel_rfl
theorem Tryd.i21 : Tryd.prog.info? 21 = some Tryd.t21 := by kernel_rfl
theorem zero_21 : (Tryd.prog.info? 21).map (·.zero) = some (some (.int .i32 0)) := by kernel_rfl
theorem sizeOf_23 : SizeOf Tryd.prog 23 1 := by unfold SizeOf; kernel_rfl
theorem Tryd.i23 : Tryd.prog.info? 23 = some Tryd.t23 := by kernel_rfl
theorem zero_23 : (Tryd.prog.info? 23).map (·.zero) = some (some (.int .i64 0)) := by kernel_rfl
theorem sizeOf_32 : SizeOf Tryd.prog 32 1 := by unfold SizeOf; kernel_rfl
theorem Tryd.i32 : Tryd.prog.info? 32 = some Tryd.t32 := by kernel_rfl
theorem zero_32 : (Tryd.prog.info? 32).map (·.zero) = some (some (.int .u32 0)) := by kernel_rfl
theorem sizeOf_33 : SizeOf Tryd.prog 33 1 := by unfold SizeOf; kernel_rfl
theorem Tryd.i33 : Tryd.prog.info? 33 = some Tryd.t33 := by kernel_rfl
theorem zero_33 : (Tryd.prog.info? 33).map (·.zero) = some (some (.slice none 0 0)) := by kernel_rfl
theorem sizeOf_37 : SizeOf Tryd.prog 37 1 := by unfold SizeOf; kernel_rfl
theorem Tryd.i37 : Tryd.prog.info? 37 = some Tryd.t37 := by kernel_rfl
theorem zero_37 : (Tryd.prog.info? 37).map (·.zero) = some (some (.slice none 0 0)) := by kernel_rfl
theorem sizeOf_41 : SizeOf Tryd.prog 41 1 := by unfold SizeOf; kernel_rfl
theorem Tryd.i41 : Tryd.prog.info? 41 = some Tryd.t41 := by kernel_rfl
theorem zero_41 : (Tryd.prog.info? 41).map (·.zero) = some (some (.slice none 0 0)) := by kernel_rfl
theorem sizeOf_44 : SizeOf Tryd.prog 44 2 := by unfold SizeOf; kernel_rfl
theorem Tryd.i44 : Tryd.prog.info? 44 = some Tryd.t44 := by kernel_rfl
theorem zero_44 : (Tryd.prog.info? 44).map (·.zero) = some (some (.agg #[.string ⟨#[]⟩, .int .i64 0])) := by kernel_rfl
def places_44 : List (Nat × Nat) := [(0, 1), (1, 1)]
theorem places_44_ok : ∀ w : World, ((match Tryd.t44.desc with | .struct fs => fs | _ => (#[] : Array Field)).mapM fun (f : Field) => (do pure (f.offset, ← sizeOf f.type) : Sem (Nat × Nat))).run Tryd.prog w = .ok places_44.toArray w := fun _ => by kernel_rfl
theorem sizeOf_45 : SizeOf Tryd.prog 45 2 := by unfold SizeOf; kernel_rfl
theorem Tryd.i45 : Tryd.prog.info? 45 = some Tryd.t45 := by kernel_rfl
theorem zero_45 : (Tryd.prog.info? 45).map (·.zero) = some (some (.agg #[.string ⟨#[]⟩, .int .i64 0])) := by kernel_rfl
def places_45 : List (Nat × Nat) := [(0, 1), (1, 1)]
theorem places_45_ok : ∀ w : World, ((match Tryd.t44.desc with | .struct fs => fs | _ => (#[] : Array Field)).mapM fun (f : Field) => (do pure (f.offset, ← sizeOf f.type) : Sem (Nat × Nat))).run Tryd.prog w = .ok places_45.toArray w := fun _ => by kernel_rfl
theorem sizeOf_48 : SizeOf Tryd.prog 48 256 := by unfold SizeOf; kernel_rfl
theorem Tryd.i48 : Tryd.prog.info? 48 = some Tryd.t48 := by kernel_rfl
theorem sizeOf_49 : SizeOf Tryd.prog 49 256 := by unfold SizeOf; kernel_rfl
theorem Tryd.i49 : Tryd.prog.info? 49 = some Tryd.t49 := by kernel_rfl
theorem sizeOf_53 : SizeOf Tryd.prog 53 1 := by unfold SizeOf; kernel_rfl
theorem Tryd.i53 : Tryd.prog.info? 53 = some Tryd.t53 := by kernel_rfl
theorem zero_53 : (Tryd.prog.info? 53).map (·.zero) = some (some (.pointer none)) := by kernel_rfl
theorem sizeOf_56 : SizeOf Tryd.prog 56 1 := by unfold SizeOf; kernel_rfl
theorem Tryd.i56 : Tryd.prog.info? 56 = some Tryd.t56 := by kernel_rfl
theorem zero_56 : (Tryd.prog.info? 56).map (·.zero) = some (some (.int .u64 0)) := by kernel_rfl
theorem sizeOf_64 : SizeOf Tryd.prog 64 24 := by unfold SizeOf; kernel_rfl
theorem Tryd.i64 : Tryd.prog.info? 64 = some Tryd.t64 := by kernel_rfl
theorem zero_64 : (Tryd.prog.info? 64).map (·.zero) = some (some (.agg #[.int .u8 0, .int .u8 0, .int .u8 0, .int .u8 0, .int .u8 0, .int .u8 0, .int .u8 0, .int .u8 0, .int .u8 0, .int .u8 0, .int .u8 0, .int .u8 0, .int .u8 0, .int .u8 0, .int .u8 0, .int .u8 0, .int .u8 0, .int .u8 0, .int .u8 0, .int .u8 0, .int .u8 0, .int .u8 0, .int .u8 0, .int .u8 0])) := by kernel_rfl
theorem sizeOf_68 : SizeOf Tryd.prog 68 256 := by unfold SizeOf; kernel_rfl
theorem Tryd.i68 : Tryd.prog.info? 68 = some Tryd.t68 := by kernel_rfl
theorem sizeOf_69 : SizeOf Tryd.prog 69 1 := by unfold SizeOf; kernel_rfl
theorem Tryd.i69 : Tryd.prog.info? 69 = some Tryd.t69 := by kernel_rfl
theorem zero_69 : (Tryd.prog.info? 69).map (·.zero) = some (some (.int .u64 0)) := by kernel_rfl
theorem sizeOf_70 : SizeOf Tryd.prog 70 2 := by unfold SizeOf; kernel_rfl
theorem Tryd.i70 : Tryd.prog.info? 70 = some Tryd.t70 := by kernel_rfl
theorem zero_70 : (Tryd.prog.info? 70).map (·.zero) = some (some (.agg #[.int .u8 0, .int .u8 0])) := by kernel_rfl
def places_70 : List (Nat × Nat) := [(0, 1), (1, 1)]
theorem places_70_ok : ∀ w : World, ((match Tryd.t70.desc with | .struct fs => fs | _ => (#[] : Array Field)).mapM fun (f : Field) => (do pure (f.offset, ← sizeOf f.type) : Sem (Nat × Nat))).run Tryd.prog w = .ok places_70.toArray w := fun _ => by kernel_rfl
theorem sizeOf_71 : SizeOf Tryd.prog 71 2 := by unfold SizeOf; kernel_rfl
theorem Tryd.i71 : Tryd.prog.info? 71 = some Tryd.t71 := by kernel_rfl
theorem zero_71 : (Tryd.prog.info? 71).map (·.zero) = some (some (.agg #[.int .u8 0, .int .u8 0])) := by kernel_rfl
def places_71 : List (Nat × Nat) := [(0, 1), (1, 1)]
theorem places_71_ok : ∀ w : World, ((match Tryd.t70.desc with | .struct fs => fs | _ => (#[] : Array Field)).mapM fun (f : Field) => (do pure (f.offset, ← sizeOf f.type) : Sem (Nat × Nat))).run Tryd.prog w = .ok places_71.toArray w := fun _ => by kernel_rfl
theorem sizeOf_72 : SizeOf Tryd.prog 72 32 := by unfold SizeOf; kernel_rfl
theorem Tryd.i72 : Tryd.prog.info? 72 = some Tryd.t72 := by kernel_rfl
theorem zero_72 : (Tryd.prog.info? 72).map (·.zero) = some (some (.agg #[.int .u8 0, .int .u8 0, .int .u8 0, .int .u8 0, .int .u8 0, .int .u8 0, .int .u8 0, .int .u8 0, .int .u8 0, .int .u8 0, .int .u8 0, .int .u8 0, .int .u8 0, .int .u8 0, .int .u8 0, .int .u8 0, .int .u8 0, .int .u8 0, .int .u8 0, .int .u8 0, .int .u8 0, .int .u8 0, .int .u8 0, .int .u8 0, .int .u8 0, .int .u8 0, .int .u8 0, .int .u8 0, .int .u8 0, .int .u8 0, .int .u8 0, .int .u8 0])) := by kernel_rfl
theorem sizeOf_77 : SizeOf Tryd.prog 77 20 := by unfold SizeOf; kernel_rfl
theorem Tryd.i77 : Tryd.prog.info? 77 = some Tryd.t77 := by kernel_rfl
theorem zero_77 : (Tryd.prog.info? 77).map (·.zero) = some (some (.agg #[.int .u64 0, .int .u64 0, .int .u64 0, .int .u64 0, .int .u64 0, .int .u64 0, .int .u64 0, .int .u64 0, .int .u64 0, .int .u64 0, .int .u64 0, .int .u64 0, .int .u64 0, .int .u64 0, .int .u64 0, .int .u64 0, .int .u64 0, .int .u64 0, .int .u64 0, .int .u64 0])) := by kernel_rfl
theorem sizeOf_78 : SizeOf Tryd.prog 78 65 := by unfold SizeOf; kernel_rfl
theorem Tryd.i78 : Tryd.prog.info? 78 = some Tryd.t78 := by kernel_rfl
theorem zero_78 : (Tryd.prog.info? 78).map (·.zero) = some (some (.agg #[.int .u8 0, .int .u8 0, .int .u8 0, .int .u8 0, .int .u8 0, .int .u8 0, .int .u8 0, .int .u8 0, .int .u8 0, .int .u8 0, .int .u8 0, .int .u8 0, .int .u8 0, .int .u8 0, .int .u8 0, .int .u8 0, .int .u8 0, .int .u8 0, .int .u8 0, .int .u8 0, .int .u8 0, .int .u8 0, .int .u8 0, .int .u8 0, .int .u8 0, .int .u8 0, .int .u8 0, .int .u8 0, .int .u8 0, .int .u8 0, .int .u8 0, .int .u8 0, .int .u8 0, .int .u8 0, .int .u8 0, .int .u8 0, .int .u8 0, .int .u8 0, .int .u8 0, .int .u8 0, .int .u8 0, .int .u8 0, .int .u8 0, .int .u8 0, .int .u8 0, .int .u8 0, .int .u8 0, .int .u8 0, .int .u8 0, .int .u8 0, .int .u8 0, .int .u8 0, .int .u8 0, .int .u8 0, .int .u8 0, .int .u8 0, .int .u8 0, .int .u8 0, .int .u8 0, .int .u8 0, .int .u8 0, .int .u8 0, .int .u8 0, .int .u8 0, .int .u8 0])) := by kernel_rfl
theorem sizeOf_81 : SizeOf Tryd.prog 81 32 := by unfold SizeOf; kernel_rfl
theorem Tryd.i81 : Tryd.prog.info? 81 = some Tryd.t81 := by kernel_rfl
theorem zero_81 : (Tryd.prog.info? 81).map (·.zero) = some (some (.agg #[.int .u8 0, .int .u8 0, .int .u8 0, .int .u8 0, .int .u8 0, .int .u8 0, .int .u8 0, .int .u8 0, .int .u8 0, .int .u8 0, .int .u8 0, .int .u8 0, .int .u8 0, .int .u8 0, .int .u8 0, .int .u8 0, .int .u8 0, .int .u8 0, .int .u8 0, .int .u8 0, .int .u8 0, .int .u8 0, .int .u8 0, .int .u8 0, .int .u8 0, .int .u8 0, .int .u8 0, .int .u8 0, .int .u8 0, .int .u8 0, .int .u8 0, .int .u8 0])) := by kernel_rfl
theorem sizeOf_82 : SizeOf Tryd.prog 82 64 := by unfold SizeOf; kernel_rfl
theorem Tryd.i82 : Tryd.prog.info? 82 = some Tryd.t82 := by kernel_rfl
theorem zero_82 : (Tryd.prog.info? 82).map (·.zero) = some (some (.agg #[.int .u8 0, .int .u8 0, .int .u8 0, .int .u8 0, .int .u8 0, .int .u8 0, .int .u8 0, .int .u8 0, .int .u8 0, .int .u8 0, .int .u8 0, .int .u8 0, .int .u8 0, .int .u8 0, .int .u8 0, .int .u8 0, .int .u8 0, .int .u8 0, .int .u8 0, .int .u8 0, .int .u8 0, .int .u8 0, .int .u8 0, .int .u8 0, .int .u8 0, .int .u8 0, .int .u8 0, .int .u8 0, .int .u8 0, .int .u8 0, .int .u8 0, .int .u8 0, .int .u8 0, .int .u8 0, .int .u8 0, .int .u8 0, .int .u8 0, .int .u8 0, .int .u8 0, .int .u8 0, .int .u8 0, .int .u8 0, .int .u8 0, .int .u8 0, .int .u8 0, .int .u8 0, .int .u8 0, .int .u8 0, .int .u8 0, .int .u8 0, .int .u8 0, .int .u8 0, .int .u8 0, .int .u8 0, .int .u8 0, .int .u8 0, .int .u8 0, .int .u8 0, .int .u8 0, .int .u8 0, .int .u8 0, .int .u8 0, .int .u8 0, .int .u8 0])) := by kernel_rfl
theorem sizeOf_84 : SizeOf Tryd.prog 84 4 := by unfold SizeOf; kernel_rfl
theorem Tryd.i84 : Tryd.prog.info? 84 = some Tryd.t84 := by kernel_rfl
theorem zero_84 : (Tryd.prog.info? 84).map (·.zero) = some (some (.agg #[.pointer none, .pointer none, .pointer none, .string ⟨#[]⟩])) := by kernel_rfl
def places_84 : List (Nat × Nat) := [(0, 1), (1, 1), (2, 1), (3, 1)]
theorem places_84_ok : ∀ w : World, ((match Tryd.t84.desc with | .struct fs => fs | _ => (#[] : Array Field)).mapM fun (f : Field) => (do pure (f.offset, ← sizeOf f.type) : Sem (Nat × Nat))).run Tryd.prog w = .ok places_84.toArray w := fun _ => by kernel_rfl
theorem sizeOf_85 : SizeOf Tryd.prog 85 4 := by unfold SizeOf; kernel_rfl
theorem Tryd.i85 : Tryd.prog.info? 85 = some Tryd.t85 := by kernel_rfl
theorem zero_85 : (Tryd.prog.info? 85).map (·.zero) = some (some (.agg #[.pointer none, .pointer none, .pointer none, .string ⟨#[]⟩])) := by kernel_rfl
def places_85 : List (Nat × Nat) := [(0, 1), (1, 1), (2, 1), (3, 1)]
theorem places_85_ok : ∀ w : World, ((match Tryd.t84.desc with | .struct fs => fs | _ => (#[] : Array Field)).mapM fun (f : Field) => (do pure (f.offset, ← sizeOf f.type) : Sem (Nat × Nat))).run Tryd.prog w = .ok places_85.toArray w := fun _ => by kernel_rfl
theorem sizeOf_86 : SizeOf Tryd.prog 86 0 := by unfold SizeOf; kernel_rfl
theorem Tryd.i86 : Tryd.prog.info? 86 = some Tryd.t86 := by kernel_rfl
theorem zero_86 : (Tryd.prog.info? 86).map (·.zero) = some (some (.agg #[])) := by kernel_rfl
theorem sizeOf_87 : SizeOf Tryd.prog 87 0 := by unfold SizeOf; kernel_rfl
theorem Tryd.i87 : Tryd.prog.info? 87 = some Tryd.t87 := by kernel_rfl
theorem zero_87 : (Tryd.prog.info? 87).map (·.zero) = some (some (.agg #[])) := by kernel_rfl
def places_87 : List (Nat × Nat) := [(0, 0)]
theorem places_87_ok : ∀ w : World, ((match Tryd.t87.desc with | .struct fs => fs | _ => (#[] : Array Field)).mapM fun (f : Field) => (do pure (f.offset, ← sizeOf f.type) : Sem (Nat × Nat))).run Tryd.prog w = .ok places_87.toArray w := fun _ => by kernel_rfl
theorem sizeOf_88 : SizeOf Tryd.prog 88 0 := by unfold SizeOf; kernel_rfl
theorem Tryd.i88 : Tryd.prog.info? 88 = some Tryd.t88 := by kernel_rfl
theorem zero_88 : (Tryd.prog.info? 88).map (·.zero) = some (some (.agg #[])) := by kernel_rfl
def places_88 : List (Nat × Nat) := [(0, 0)]
theorem places_88_ok : ∀ w : World, ((match Tryd.t87.desc with | .struct fs => fs | _ => (#[] : Array Field)).mapM fun (f : Field) => (do pure (f.offset, ← sizeOf f.type) : Sem (Nat × Nat))).run Tryd.prog w = .ok places_88.toArray w := fun _ => by kernel_rfl
theorem sizeOf_90 : SizeOf Tryd.prog 90 1 := by unfold SizeOf; kernel_rfl
theorem Tryd.i90 : Tryd.prog.info? 90 = some Tryd.t90 := by kernel_rfl
theorem zero_90 : (Tryd.prog.info? 90).map (·.zero) = some (some (.int .u8 0)) := by kernel_rfl
theorem sizeOf_91 : SizeOf Tryd.prog 91 1 := by unfold SizeOf; kernel_rfl
theorem Tryd.i91 : Tryd.prog.info? 91 = some Tryd.t91 := by kernel_rfl
theorem zero_91 : (Tryd.prog.info? 91).map (·.zero) = some (some (.int .u8 0)) := by kernel_rfl
theorem sizeOf_93 : SizeOf Tryd.prog 93 1 := by unfold SizeOf; kernel_rfl
theorem Tryd.i93 : Tryd.prog.info? 93 = some Tryd.t93 := by kernel_rfl
theorem zero_93 : (Tryd.prog.info? 93).map (·.zero) = some (some (.pointer none)) := by kernel_rfl
theorem sizeOf_94 : SizeOf Tryd.prog 94 1 := by unfold SizeOf; kernel_rfl
theorem Tryd.i94 : Tryd.prog.info? 94 = some Tryd.t94 := by kernel_rfl
theorem zero_94 : (Tryd.prog.info? 94).map (·.zero) = some (some (.int .i32 0)) := by kernel_rfl
theorem sizeOf_95 : SizeOf Tryd.prog 95 1 := by unfold SizeOf; kernel_rfl
theorem Tryd.i95 : Tryd.prog.info? 95 = some Tryd.t95 := by kernel_rfl
theorem zero_95 : (Tryd.prog.info? 95).map (·.zero) = some (some (.int .i32 0)) := by kernel_rfl
theorem sizeOf_96 : SizeOf Tryd.prog 96 11 := by unfold SizeOf; kernel_rfl
theorem Tryd.i96 : Tryd.prog.info? 96 = some Tryd.t96 := by kernel_rfl
theorem zero_96 : (Tryd.prog.info? 96).map (·.zero) = some (some (.agg #[.int .u64 0, .int .u64 0, .int .u32 0, .int .u8 0, .int .u8 0, .int .u8 0, .int .u8 0, .nilFunc, .pointer none, .int .i32 0, .int .i32 0])) := by kernel_rfl
def places_96 : List (Nat × Nat) := [(0, 1), (1, 1), (2, 1), (3, 1), (4, 1), (5, 1), (6, 1), (7, 1), (8, 1), (9, 1), (10, 1)]
theorem places_96_ok : ∀ w : World, ((match Tryd.t96.desc with | .struct fs => fs | _ => (#[] : Array Field)).mapM fun (f : Field) => (do pure (f.offset, ← sizeOf f.type) : Sem (Nat × Nat))).run Tryd.prog w = .ok places_96.toArray w := fun _ => by kernel_rfl
theorem sizeOf_97 : SizeOf Tryd.prog 97 11 := by unfold SizeOf; kernel_rfl
theorem Tryd.i97 : Tryd.prog.info? 97 = some Tryd.t97 := by kernel_rfl
theorem zero_97 : (Tryd.prog.info? 97).map (·.zero) = some (some (.agg #[.int .u64 0, .int .u64 0, .int .u32 0, .int .u8 0, .int .u8 0, .int .u8 0, .int .u8 0, .nilFunc, .pointer none, .int .i32 0, .int .i32 0])) := by kernel_rfl
def places_97 : List (Nat × Nat) := [(0, 1), (1, 1), (2, 1), (3, 1), (4, 1), (5, 1), (6, 1), (7, 1), (8, 1), (9, 1), (10, 1)]
theorem places_97_ok : ∀ w : World, ((match Tryd.t96.desc with | .struct fs => fs | _ => (#[] : Array Field)).mapM fun (f : Field) => (do pure (f.offset, ← sizeOf f.type) : Sem (Nat × Nat))).run Tryd.prog w = .ok places_97.toArray w := fun _ => by kernel_rfl
theorem sizeOf_98 : SizeOf Tryd.prog 98 1 := by unfold SizeOf; kernel_rfl
theorem Tryd.i98 : Tryd.prog.info? 98 = some Tryd.t98 := by kernel_rfl
theorem zero_98 : (Tryd.prog.info? 98).map (·.zero) = some (some (.pointer none)) := by kernel_rfl
end Go.Proofs.YtpfplkbbdoijnaaDoor
