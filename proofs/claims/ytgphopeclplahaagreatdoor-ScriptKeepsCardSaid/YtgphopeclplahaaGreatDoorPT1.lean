/- T1. -/
import Derived.Test.YtgphopeclplahaaGreatDoorM6
import Derived.Test.YtgphopeclplahaaGreatDoorProg
set_option maxHeartbeats 8000000
namespace Go.Proofs.YtgphopeclplahaaGreatDoor
open Go.RowKit
structure SField where
 text : List UInt8
 line : Int
 col : Int
 deriving Inhabited
abbrev cSField (x : SField) : List AV := [.str x.text, zI x.line, zI x.col]
abbrev eSField (x : SField) : AV := .agg (cSField x)
structure Sline where
 l : List SField
 bad : Bool
 deriving Inhabited
structure Sunit where
 name : List UInt8
 n : Int
 deriving Inhabited
abbrev cSunit (x : Sunit) : List AV := [.str x.name, zI x.n]
abbrev eSunit (x : Sunit) : AV := .agg (cSunit x)
abbrev c3_Int (x : V3 Int) : List AV := [zI x.a, zI x.b, zI x.c]
abbrev e3_Int (x : V3 Int) : AV := .agg (c3_Int x)
structure SPod where
 id : List UInt8
 prio : Int
 critical : Bool
 req : V3 Int
 lim : V3 Int
 image : List UInt8
 size : Int
 deriving Inhabited
abbrev cSPod (x : SPod) : List AV := [.str x.id, zI x.prio, zB x.critical, zI x.req.a, zI x.req.b, zI x.req.c, zI x.lim.a, zI x.lim.b, zI x.lim.c, .str x.image, zI x.size]
abbrev eSPod (x : SPod) : AV := .agg (cSPod x)
abbrev c3_Nat (x : V3 Nat) : List AV := [zF x.a, zF x.b, zF x.c]
abbrev e3_Nat (x : V3 Nat) : AV := .agg (c3_Nat x)
structure SUsage where
 id : List UInt8
 amount : V3 Nat
 deriving Inhabited
abbrev cSUsage (x : SUsage) : List AV := [.str x.id, zF x.amount.a, zF x.amount.b, zF x.amount.c]
abbrev eSUsage (x : SUsage) : AV := .agg (cSUsage x)
structure SRaw where
 time : Int
 avail : V3 Nat
 use : List SUsage
 deriving Inhabited
abbrev cSRaw (x : SRaw) : List AV := [zI x.time, zF x.avail.a, zF x.avail.b, zF x.avail.c, .list false 114 (x.use.map eSUsage)]
abbrev eSRaw (x : SRaw) : AV := .agg (cSRaw x)
structure SAct where
 do_ : Int
 pod : SPod
 id : List UInt8
 raw : SRaw
 well : List Bool
 steps : Int
 keep : List Int
 deriving Inhabited
abbrev cSAct (x : SAct) : List AV := [zI x.do_, .str x.pod.id, zI x.pod.prio, zB x.pod.critical, zI x.pod.req.a, zI x.pod.req.b, zI x.pod.req.c, zI x.pod.lim.a, zI x.pod.lim.b, zI x.pod.lim.c, .str x.pod.image, zI x.pod.size, .str x.id, zI x.raw.time, zF x.raw.avail.a, zF x.raw.avail.b, zF x.raw.avail.c, .list false 114 (x.raw.use.map eSUsage), .list false 4 (x.well.map zB), zI x.steps, .list false 3 (x.keep.map zI)]
abbrev eSAct (x : SAct) : AV := .agg (cSAct x)
def uSPod (a : SPod) : List Value := [.string ⟨a.id.toArray⟩, .int .i64 a.prio, .bool a.critical, .int .i64 a.req.a, .int .i64 a.req.b, .int .i64 a.req.c, .int .i64 a.lim.a, .int .i64 a.lim.b, .int .i64 a.lim.c, .string ⟨a.image.toArray⟩, .int .i64 a.size]
def qSPod (a b : SPod) : Bool := ((a.id == b.id) && ((a.prio == b.prio) && ((a.critical == b.critical) && (((a.req.a == b.req.a) && ((a.req.b == b.req.b) && ((a.req.c == b.req.c) && true))) && (((a.lim.a == b.lim.a) && ((a.lim.b == b.lim.b) && ((a.lim.c == b.lim.c) && true))) && ((a.image == b.image) && ((a.size == b.size) && true)))))))
structure Sfields where
 l : List SField
 bad : Bool
 deriving Inhabited
def u3_Int (a : (V3 Int)) : List Value := [.int .i64 a.a, .int .i64 a.b, .int .i64 a.c]
def q3_Int (a b : (V3 Int)) : Bool := ((a.a == b.a) && ((a.b == b.b) && ((a.c == b.c) && true)))
def tabT : Tab := [(2, .int .i64, 1), (3, .int .i64, 1), (4, .bool, 1), (5, .int .u8, 1), (9, .str, 1), (22, .int .u64, 1), (24, .float .f64, 1), (33, .slice 5, 1), (34, .slice 50, 1), (35, .int .i64, 1), (40, .arr 3 3, 3), (42, .struct [(0, 9), (1, 3), (2, 4), (3, 40), (6, 40), (9, 9), (10, 3)], 11), (43, .arr 3 24, 3), (44, .slice 114, 1), (46, .struct [(0, 3), (1, 43), (4, 44)], 5), (47, .slice 4, 1), (48, .slice 3, 1), (50, .struct [(0, 3), (1, 42), (12, 9), (13, 46), (18, 47), (19, 3), (20, 48)], 21), (72, .slice 75, 1), (75, .slice 81, 1), (76, .ptr 78, 1), (78, .struct [(0, 75), (1, 4)], 2), (81, .struct [(0, 9), (1, 3), (2, 3)], 3), (83, .slice 9, 1), (102, .slice 105, 1), (105, .struct [(0, 9), (1, 3)], 2), (114, .struct [(0, 9), (1, 43)], 4), (120, .ptr 121, 1), (121, .struct [(0, 75), (1, 4)], 2), (128, .ptr 130, 1), (130, .struct [(0, 128), (1, 33)], 2), (146, .other, 1), (182, .int .u64, 1)]
theorem tabT_ok : TabOK Tryz.prog tabT := ⟨⟨⟨_, Tryz.underlying2, rfl⟩, by unfold SizeOf; kernel_rfl⟩, ⟨⟨_, Tryz.underlying3, rfl⟩, by unfold SizeOf; kernel_rfl⟩, ⟨⟨_, Tryz.underlying4, rfl⟩, by unfold SizeOf; kernel_rfl⟩, ⟨⟨_, Tryz.underlying5, rfl⟩, by unfold SizeOf; kernel_rfl⟩, ⟨⟨_, Tryz.underlying9, rfl⟩, by unfold SizeOf; kernel_rfl⟩, ⟨⟨_, Tryz.underlying22, rfl⟩, by unfold SizeOf; kernel_rfl⟩, ⟨⟨_, Tryz.underlying24, rfl⟩, by unfold SizeOf; kernel_rfl⟩, ⟨⟨_, Tryz.underlying33, rfl⟩, by unfold SizeOf; kernel_rfl⟩, ⟨⟨_, Tryz.underlying34, rfl⟩, by unfold SizeOf; kernel_rfl⟩, ⟨⟨_, Tryz.underlying35, rfl⟩, by unfold SizeOf; kernel_rfl⟩, ⟨⟨_, Tryz.underlying40, rfl⟩, by unfold SizeOf; kernel_rfl⟩, ⟨⟨_, Tryz.underlying42, rfl⟩, by unfold SizeOf; kernel_rfl⟩, ⟨⟨_, Tryz.underlying43, rfl⟩, by unfold SizeOf; kernel_rfl⟩, ⟨⟨_, Tryz.underlying44, rfl⟩, by unfold SizeOf; kernel_rfl⟩, ⟨⟨_, Tryz.underlying46, rfl⟩, by unfold SizeOf; kernel_rfl⟩, ⟨⟨_, Tryz.underlying47, rfl⟩, by unfold SizeOf; kernel_rfl⟩, ⟨⟨_, Tryz.underlying48, rfl⟩, by unfold SizeOf; kernel_rfl⟩, ⟨⟨_, Tryz.underlying50, rfl⟩, by unfold SizeOf; kernel_rfl⟩, ⟨⟨_, Tryz.underlying72, rfl⟩, by unfold SizeOf; kernel_rfl⟩, ⟨⟨_, Tryz.underlying75, rfl⟩, by unfold SizeOf; kernel_rfl⟩, ⟨⟨_, Tryz.underlying76, rfl⟩, by unfold SizeOf; kernel_rfl⟩, ⟨⟨_, Tryz.underlying78, rfl⟩, by unfold SizeOf; kernel_rfl⟩, ⟨⟨_, Tryz.underlying81, rfl⟩, by unfold SizeOf; kernel_rfl⟩, ⟨⟨_, Tryz.underlying83, rfl⟩, by unfold SizeOf; kernel_rfl⟩, ⟨⟨_, Tryz.underlying102, rfl⟩, by unfold SizeOf; kernel_rfl⟩, ⟨⟨_, Tryz.underlying105, rfl⟩, by unfold SizeOf; kernel_rfl⟩, ⟨⟨_, Tryz.underlying114, rfl⟩, by unfold SizeOf; kernel_rfl⟩, ⟨⟨_, Tryz.underlying120, rfl⟩, by unfold SizeOf; kernel_rfl⟩, ⟨⟨_, Tryz.underlying121, rfl⟩, by unfold SizeOf; kernel_rfl⟩, ⟨⟨_, Tryz.underlying128, rfl⟩, by unfold SizeOf; kernel_rfl⟩, ⟨⟨_, Tryz.underlying130, rfl⟩, by unfold SizeOf; kernel_rfl⟩, ⟨⟨_, Tryz.underlying146, rfl⟩, by unfold SizeOf; kernel_rfl⟩, ⟨⟨_, Tryz.underlying182, rfl⟩, by unfold SizeOf; kernel_rfl⟩, trivial⟩
def tabZ : Zt := [(3, [zI 0], [zI 0]), (4, [zB false], [zB false]), (5, [.lit (.int .u8 0)], [.lit (.int .u8 0)]), (9, [.str ([] : List UInt8)], [.str ([] : List UInt8)]), (24, [zF 0], [zF 0]), (33, [.list false 5 []], [.lit (.slice none 0 0)]), (40, [zI 0, zI 0, zI 0], [zI 0, zI 0, zI 0]), (42, [.str ([] : List UInt8), zI 0, zB false, zI 0, zI 0, zI 0, zI 0, zI 0, zI 0, .str ([] : List UInt8), zI 0], [.str ([] : List UInt8), zI 0, zB false, zI 0, zI 0, zI 0, zI 0, zI 0, zI 0, .str ([] : List UInt8), zI 0]), (43, [zF 0, zF 0, zF 0], [zF 0, zF 0, zF 0]), (44, [.list false 114 []], [.lit (.slice none 0 0)]), (46, [zI 0, zF 0, zF 0, zF 0, .list false 114 []], [zI 0, zF 0, zF 0, zF 0, .lit (.slice none 0 0)]), (47, [.list false 4 []], [.lit (.slice none 0 0)]), (48, [.list false 3 []], [.lit (.slice none 0 0)]), (50, [zI 0, .str ([] : List UInt8), zI 0, zB false, zI 0, zI 0, zI 0, zI 0, zI 0, zI 0, .str ([] : List UInt8), zI 0, .str ([] : List UInt8), zI 0, zF 0, zF 0, zF 0, .list false 114 [], .list false 4 [], zI 0, .list false 3 []], [zI 0, .str ([] : List UInt8), zI 0, zB false, zI 0, zI 0, zI 0, zI 0, zI 0, zI 0, .str ([] : List UInt8), zI 0, .str ([] : List UInt8), zI 0, zF 0, zF 0, zF 0, .lit (.slice none 0 0), .lit (.slice none 0 0), zI 0, .lit (.slice none 0 0)]), (75, [.list false 81 []], [.lit (.slice none 0 0)]), (78, [.list false 81 [], zB false], [.lit (.slice none 0 0), zB false]), (81, [.str ([] : List UInt8), zI 0, zI 0], [.str ([] : List UInt8), zI 0, zI 0]), (105, [.str ([] : List UInt8), zI 0], [.str ([] : List UInt8), zI 0]), (114, [.str ([] : List UInt8), zF 0, zF 0, zF 0], [.str ([] : List UInt8), zF 0, zF 0, zF 0]), (121, [.list false 81 [], zB false], [.lit (.slice none 0 0), zB false]), (128, [.lit (.pointer none)], [.lit (.pointer none)]), (130, [.lit (.pointer none), .list false 5 []], [.lit (.pointer none), .lit (.slice none 0 0)])]
theorem tabZ_ok : ZtOK Tryz.prog tabZ := ⟨⟨⟨.int .i64 0, [], by kernel_rfl, rfl, rfl, fun D h1 h2 => by rw [Tryz.underlying3] at h1; cases h1; cases h2⟩, ⟨.int .i64 0, [], by kernel_rfl, rfl, rfl, fun D h1 h2 => by rw [Tryz.underlying3] at h1; cases h1; cases h2⟩⟩, ⟨⟨.bool false, [], by kernel_rfl, rfl, rfl, fun D h1 h2 => by rw [Tryz.underlying4] at h1; cases h1; cases h2⟩, ⟨.bool false, [], by kernel_rfl, rfl, rfl, fun D h1 h2 => by rw [Tryz.underlying4] at h1; cases h1; cases h2⟩⟩, ⟨⟨.int .u8 0, [], by kernel_rfl, rfl, rfl, fun D h1 h2 => by rw [Tryz.underlying5] at h1; cases h1; cases h2⟩, ⟨.int .u8 0, [], by kernel_rfl, rfl, rfl, fun D h1 h2 => by rw [Tryz.underlying5] at h1; cases h1; cases h2⟩⟩, ⟨⟨.string ⟨#[]⟩, [], by kernel_rfl, rfl, rfl, fun D h1 h2 => by rw [Tryz.underlying9] at h1; cases h1; cases h2⟩, ⟨.string ⟨#[]⟩, [], by kernel_rfl, rfl, rfl, fun D h1 h2 => by rw [Tryz.underlying9] at h1; cases h1; cases h2⟩⟩, ⟨⟨.float .f64 0, [], by kernel_rfl, rfl, rfl, fun D h1 h2 => by rw [Tryz.underlying24] at h1; cases h1; cases h2⟩, ⟨.float .f64 0, [], by kernel_rfl, rfl, rfl, fun D h1 h2 => by rw [Tryz.underlying24] at h1; cases h1; cases h2⟩⟩, ⟨⟨.slice none 0 0, [5], by kernel_rfl, rfl, rfl, fun D h1 h2 => by rw [Tryz.underlying33] at h1; cases h1; cases h2⟩, ⟨.slice none 0 0, [0], by kernel_rfl, rfl, rfl, fun D h1 h2 => by rw [Tryz.underlying33] at h1; cases h1; cases h2⟩⟩, ⟨⟨.agg #[.int .i64 0, .int .i64 0, .int .i64 0], [], by kernel_rfl, rfl, rfl, fun _ _ _ => ⟨_, rfl⟩⟩, ⟨.agg #[.int .i64 0, .int .i64 0, .int .i64 0], [], by kernel_rfl, rfl, rfl, fun _ _ _ => ⟨_, rfl⟩⟩⟩, ⟨⟨.agg #[.string ⟨#[]⟩, .int .i64 0, .bool false, .int .i64 0, .int .i64 0, .int .i64 0, .int .i64 0, .int .i64 0, .int .i64 0, .string ⟨#[]⟩, .int .i64 0], [], by kernel_rfl, rfl, rfl, fun _ _ _ => ⟨_, rfl⟩⟩, ⟨.agg #[.string ⟨#[]⟩, .int .i64 0, .bool false, .int .i64 0, .int .i64 0, .int .i64 0, .int .i64 0, .int .i64 0, .int .i64 0, .string ⟨#[]⟩, .int .i64 0], [], by kernel_rfl, rfl, rfl, fun _ _ _ => ⟨_, rfl⟩⟩⟩, ⟨⟨.agg #[.float .f64 0, .float .f64 0, .float .f64 0], [], by kernel_rfl, rfl, rfl, fun _ _ _ => ⟨_, rfl⟩⟩, ⟨.agg #[.float .f64 0, .float .f64 0, .float .f64 0], [], by kernel_rfl, rfl, rfl, fun _ _ _ => ⟨_, rfl⟩⟩⟩, ⟨⟨.slice none 0 0, [114], by kernel_rfl, rfl, rfl, fun D h1 h2 => by rw [Tryz.underlying44] at h1; cases h1; cases h2⟩, ⟨.slice none 0 0, [0], by kernel_rfl, rfl, rfl, fun D h1 h2 => by rw [Tryz.underlying44] at h1; cases h1; cases h2⟩⟩, ⟨⟨.agg #[.int .i64 0, .float .f64 0, .float .f64 0, .float .f64 0, .slice none 0 0], [114], by kernel_rfl, rfl, rfl, fun _ _ _ => ⟨_, rfl⟩⟩, ⟨.agg #[.int .i64 0, .float .f64 0, .float .f64 0, .float .f64 0, .slice none 0 0], [0], by kernel_rfl, rfl, rfl, fun _ _ _ => ⟨_, rfl⟩⟩⟩, ⟨⟨.slice none 0 0, [4], by kernel_rfl, rfl, rfl, fun D h1 h2 => by rw [Tryz.underlying47] at h1; cases h1; cases h2⟩, ⟨.slice none 0 0, [0], by kernel_rfl, rfl, rfl, fun D h1 h2 => by rw [Tryz.underlying47] at h1; cases h1; cases h2⟩⟩, ⟨⟨.slice none 0 0, [3], by kernel_rfl, rfl, rfl, fun D h1 h2 => by rw [Tryz.underlying48] at h1; cases h1; cases h2⟩, ⟨.slice none 0 0, [0], by kernel_rfl, rfl, rfl, fun D h1 h2 => by rw [Tryz.underlying48] at h1; cases h1; cases h2⟩⟩, ⟨⟨.agg #[.int .i64 0, .string ⟨#[]⟩, .int .i64 0, .bool false, .int .i64 0, .int .i64 0, .int .i64 0, .int .i64 0, .int .i64 0, .int .i64 0, .string ⟨#[]⟩, .int .i64 0, .string ⟨#[]⟩, .int .i64 0, .float .f64 0, .float .f64 0, .float .f64 0, .slice none 0 0, .slice none 0 0, .int .i64 0, .slice none 0 0], [114, 4, 3], by kernel_rfl, rfl, rfl, fun _ _ _ => ⟨_, rfl⟩⟩, ⟨.agg #[.int .i64 0, .string ⟨#[]⟩, .int .i64 0, .bool false, .int .i64 0, .int .i64 0, .int .i64 0, .int .i64 0, .int .i64 0, .int .i64 0, .string ⟨#[]⟩, .int .i64 0, .string ⟨#[]⟩, .int .i64 0, .float .f64 0, .float .f64 0, .float .f64 0, .slice none 0 0, .slice none 0 0, .int .i64 0, .slice none 0 0], [0, 0, 0], by kernel_rfl, rfl, rfl, fun _ _ _ => ⟨_, rfl⟩⟩⟩, ⟨⟨.slice none 0 0, [81], by kernel_rfl, rfl, rfl, fun D h1 h2 => by rw [Tryz.underlying75] at h1; cases h1; cases h2⟩, ⟨.slice none 0 0, [0], by kernel_rfl, rfl, rfl, fun D h1 h2 => by rw [Tryz.underlying75] at h1; cases h1; cases h2⟩⟩, ⟨⟨.agg #[.slice none 0 0, .bool false], [81], by kernel_rfl, rfl, rfl, fun _ _ _ => ⟨_, rfl⟩⟩, ⟨.agg #[.slice none 0 0, .bool false], [0], by kernel_rfl, rfl, rfl, fun _ _ _ => ⟨_, rfl⟩⟩⟩, ⟨⟨.agg #[.string ⟨#[]⟩, .int .i64 0, .int .i64 0], [], by kernel_rfl, rfl, rfl, fun _ _ _ => ⟨_, rfl⟩⟩, ⟨.agg #[.string ⟨#[]⟩, .int .i64 0, .int .i64 0], [], by kernel_rfl, rfl, rfl, fun _ _ _ => ⟨_, rfl⟩⟩⟩, ⟨⟨.agg #[.string ⟨#[]⟩, .int .i64 0], [], by kernel_rfl, rfl, rfl, fun _ _ _ => ⟨_, rfl⟩⟩, ⟨.agg #[.string ⟨#[]⟩, .int .i64 0], [], by kernel_rfl, rfl, rfl, fun _ _ _ => ⟨_, rfl⟩⟩⟩, ⟨⟨.agg #[.string ⟨#[]⟩, .float .f64 0, .float .f64 0, .float .f64 0], [], by kernel_rfl, rfl, rfl, fun _ _ _ => ⟨_, rfl⟩⟩, ⟨.agg #[.string ⟨#[]⟩, .float .f64 0, .float .f64 0, .float .f64 0], [], by kernel_rfl, rfl, rfl, fun _ _ _ => ⟨_, rfl⟩⟩⟩, ⟨⟨.agg #[.slice none 0 0, .bool false], [81], by kernel_rfl, rfl, rfl, fun _ _ _ => ⟨_, rfl⟩⟩, ⟨.agg #[.slice none 0 0, .bool false], [0], by kernel_rfl, rfl, rfl, fun _ _ _ => ⟨_, rfl⟩⟩⟩, ⟨⟨.pointer none, [], by kernel_rfl, rfl, rfl, fun D h1 h2 => by rw [Tryz.underlying128] at h1; cases h1; cases h2⟩, ⟨.pointer none, [], by kernel_rfl, rfl, rfl, fun D h1 h2 => by rw [Tryz.underlying128] at h1; cases h1; cases h2⟩⟩, ⟨⟨.agg #[.pointer none, .slice none 0 0], [5], by kernel_rfl, rfl, rfl, fun _ _ _ => ⟨_, rfl⟩⟩, ⟨.agg #[.pointer none, .slice none 0 0], [0], by kernel_rfl, rfl, rfl, fun _ _ _ => ⟨_, rfl⟩⟩⟩, trivial⟩
theorem tabB_ok : BtOK Tryz.prog [3, 4, 5, 9, 50, 75, 81, 114] := ⟨⟨_, _, (by kernel_rfl : Tryz.prog.info? 3 = some Tryz.t3), rfl, rfl, rfl⟩, ⟨_, _, (by kernel_rfl : Tryz.prog.info? 4 = some Tryz.t4), rfl, rfl, rfl⟩, ⟨_, _, (by kernel_rfl : Tryz.prog.info? 5 = some Tryz.t5), rfl, rfl, rfl⟩, ⟨_, _, (by kernel_rfl : Tryz.prog.info? 9 = some Tryz.t9), rfl, rfl, rfl⟩, ⟨_, _, (by kernel_rfl : Tryz.prog.info? 50 = some Tryz.t50), rfl, rfl, rfl⟩, ⟨_, _, (by kernel_rfl : Tryz.prog.info? 75 = some Tryz.t75), rfl, rfl, rfl⟩, ⟨_, _, (by kernel_rfl : Tryz.prog.info? 81 = some Tryz.t81), rfl, rfl, rfl⟩, ⟨_, _, (by kernel_rfl : Tryz.prog.info? 114 = some Tryz.t114), rfl, rfl, rfl⟩, trivial⟩
instance : HasTab Tryz.prog := ⟨tabT, tabZ, [3, 4, 5, 9, 50, 75, 81, 114], tabT_ok, tabZ_ok, tabB_ok⟩
theorem EqSPod : EqT Tryz.prog 42 cSPod uSPod qSPod := ⟨⟨_, Tryz.underlying42, rfl⟩, by kernel_rfl, fun _ => rfl, fun a b => by kernel_rfl⟩
theorem Eq3_Int : EqT Tryz.prog 40 c3_Int u3_Int q3_Int := ⟨⟨_, Tryz.underlying40, rfl⟩, by kernel_rfl, fun _ => rfl, fun a b => by kernel_rfl⟩
def g_lex_blank (a0 : Int) : Option Bool :=
 some (((a0 == 32) || (a0 == 9)) || (a0 == 13))
theorem g_lex_blank_w {a0 : Int} {r : Bool} (h : g_lex_blank a0 = some r) : PCall Tryz.prog 74 [.lit (.int .u8 a0)] (zB r) := by
 refine PCall.body Tryz.func74 rfl rfl rfl rfl fun base => ?_
 unfold g_lex_blank at h
 refine CWp.seq (CWp.region ?_)
 refine rn 1 rfl (COps.done [0] [] rfl ?_)
 refine CWp.seq (CWp.region ?_)
 refine rn 11 rfl (COps.done [2] [] rfl ?_)
 refine CWp.ret ?_
 cases h
 exact ⟨.inl rfl, rfl, rfl⟩
def g_lex_readable_k1 (a0 : List UInt8) : Option Bool :=
 some (decide ((a0.length : Int) ≤ 65536))
def g_lex_readable_l2 (a0 : List UInt8) (k290 : Option Bool) : Nat → Int → Option Bool
 | 0, _ => none
 | m2 + 1, x1 =>
  bif decide (x1 < (a0.length : Int)) then
   bO (idx a0 x1) fun v2 =>
   bO (g_lex_blank (v2.toNat : Int)) fun v3 =>
   bif ((!v3) && ((v2.toNat : Int) != 10)) && ((decide ((v2.toNat : Int) < 32)) || (decide ((v2.toNat : Int) > 126))) then
    some false
   else
    (g_lex_readable_l2 a0 k290 m2) (w64 (x1 + 1))
  else
   k290
def g_lex_readable (a0 : List UInt8) : Option Bool :=
 g_lex_readable_l2 a0 (g_lex_readable_k1 a0) FUEL 0
theorem g_lex_readable_w {a0 : List UInt8} {r : Bool} (h : g_lex_readable a0 = some r) : PCall Tryz.prog 72 [.list false 5 (a0.map zU8)] (zB r) := by
 refine PCall.body Tryz.func72 rfl rfl rfl rfl fun base => ?_
 unfold g_lex_readable at h
 refine CWp.seq (CWp.region ?_)
 refine rn 1 rfl (COps.done [0] [] rfl ?_)
 refine CWp.mid (fun e => e = ⟨[(0, [], .list false 5 (a0.map zU8))], [], [], [], base⟩ ∧ g_lex_readable_k1 a0 = some r) ?_ ?_
 ·refine CWp.seq (CWp.region ?_)
  refine rh 3 [a0.length] [] rfl ⟨List.length_map .., trivial⟩ ?_
  refine COps.done [0, 5, 6, 7] [] rfl ?_
  refine CWp.block ?_
  refine CWp.loop (fun m2 e => ∃ x1, e = ⟨[(0, [], .list false 5 (a0.map zU8)), (5, [], .list false 5 (a0.map zU8)), (6, [], zI (a0.length : Int)), (7, [], zI x1)], [], [], [], base⟩ ∧ g_lex_readable_l2 a0 (g_lex_readable_k1 a0) m2 x1 = some r) FUEL ⟨_, rfl, h⟩ ?_ ?_
  ·rintro m2 _ ⟨x1, rfl, h⟩
   rw [g_lex_readable_l2] at h
   refine CWp.seq (CWp.region ?_)
   refine rn 1 rfl (COps.done [0, 5, 6, 7, 8] [] rfl ?_)
   refine CWp.seq ?_
   refine CWp.cond h rfl (fun h => ?_) (fun h => ?_)
   ·refine CWp.skip ?_
    refine CWp.seq (CWp.block ?_)
    refine CWp.seq (CWp.region ?_)
    obtain ⟨v2, hv2, h⟩ := bI h
    refine rd (rIx hv2) ?_
    refine rn 2 rfl (COps.done [0, 4, 5, 6, 7] [] rfl ?_)
    refine CWp.seq (CWp.region ?_)
    refine rn 1 rfl ?_
    obtain ⟨v3, hv3, h⟩ := bI h
    refine pCall Tryz.call74 (g_lex_blank_w hv3) rfl ?_
    refine rn 13 rfl (COps.done [0, 5, 6, 7, 25] [] rfl ?_)
    refine CWp.cond h rfl (fun h => ?_) (fun h => ?_)
    ·refine CWp.seq (CWp.region ?_)
     refine rn 1 rfl (COps.done [2] [] rfl ?_)
     refine CWp.ret ?_
     cases h
     exact ⟨.inl rfl, rfl, rfl⟩
    ·refine CWp.skip ?_
     refine CWp.region ?_
     refine rn 2 rfl (COps.done [0, 5, 6, 7] [] rfl ?_)
     exact ⟨_, rfl, h⟩
   ·refine CWp.keep [0] [] rfl ?_
    refine CWp.exit ?_
    exact ⟨rfl, h⟩
  ·rintro _ ⟨_, _, h⟩
   rw [g_lex_readable_l2] at h; cases h
 ·rintro _ ⟨rfl, h⟩
  unfold g_lex_readable_k1 at h
  refine CWp.seq (CWp.region ?_)
  refine rh 4 [a0.length] [] rfl ⟨List.length_map .., trivial⟩ ?_
  refine COps.done [2] [] rfl ?_
  refine CWp.ret ?_
  cases h
  exact ⟨.inl rfl, rfl, rfl⟩
def gq1 (x2 : List (List SField)) : Option ((List (List SField)) × Int) :=
 some (x2, 0)
def g_lex_Lines_k3 (x4 : Int) (q2 : Int → (List (List SField)) → Option ((List (List SField)) × Int)) (x6 : List (List SField)) : Option ((List (List SField)) × Int) :=
 q2 (w64 (x4 + 1)) x6
def g_lex_Lines_k4 (x4 : Int) (x5 : List (List SField)) (q2 : Int → (List (List SField)) → Option ((List (List SField)) × Int)) (x8 : List SField) : Option ((List (List SField)) × Int) :=
 bif decide ((x8.length : Int) > 0) then
  bO (appO x5 [x8]) fun v9 =>
  g_lex_Lines_k3 x4 q2 v9
 else
  g_lex_Lines_k3 x4 q2 x5
def g_lex_Lines_k6 (q5 : (List SField) → Int → Option ((List (List SField)) × Int)) (x12 : List SField) (x13 : Int) : Option ((List (List SField)) × Int) :=
 q5 x12 (w64 (x13 + 1))
def g_lex_Lines_k7 (k591 : (List (List SField)) → Option ((List (List SField)) × Int)) (x17 : List (List SField)) : Option ((List (List SField)) × Int) :=
 k591 x17
def g_lex_Lines_k8 (x4 : Int) (v7 : List UInt8) (x10 : List SField) (x11 : Int) (q5 : (List SField) → Int → Option ((List (List SField)) × Int)) (x19 : Int) : Option ((List (List SField)) × Int) :=
 bO (slO v7 x11 x19) fun v20 =>
 bO (appO x10 [(⟨v20, w64 (x4 + 1), w64 (x11 + 1)⟩ : SField)]) fun v21 =>
 g_lex_Lines_k6 q5 v21 x19
def g_lex_Lines_l9 (v7 : List UInt8) (k990 : Int → Option ((List (List SField)) × Int)) : Nat → Int → Option ((List (List SField)) × Int)
 | 0, _ => none
 | m9 + 1, x22 =>
  bO (bif (decide (x22 < (v7.length : Int))) then (idx v7 x22) else some default) fun v23 =>
  bO (bif (decide (x22 < (v7.length : Int))) then (g_lex_blank (v23.toNat : Int)) else some default) fun v24 =>
  bif (decide (x22 < (v7.length : Int))) && (!v24) then
   (g_lex_Lines_l9 v7 k990 m9) (w64 (x22 + 1))
  else
   k990 x22
def g_lex_Lines_l5 (x4 : Int) (x5 : List (List SField)) (v7 : List UInt8) (k590 : (List SField) → Option ((List (List SField)) × Int)) (k591 : (List (List SField)) → Option ((List (List SField)) × Int)) : Nat → (List SField) → Int → Option ((List (List SField)) × Int)
 | 0, _, _ => none
 | m5 + 1, x10, x11 =>
  bif decide (x11 < (v7.length : Int)) then
   bO (idx v7 x11) fun v14 =>
   bO (g_lex_blank (v14.toNat : Int)) fun v15 =>
   bif v15 then
    g_lex_Lines_k6 (g_lex_Lines_l5 x4 x5 v7 k590 k591 m5) x10 x11
   else
    bO (idx v7 x11) fun v16 =>
    bif (v16.toNat : Int) == 35 then
     bif decide ((x10.length : Int) > 0) then
      bO (appO x5 [x10]) fun v18 =>
      g_lex_Lines_k7 k591 v18
     else
      g_lex_Lines_k7 k591 x5
    else
     g_lex_Lines_l9 v7 (g_lex_Lines_k8 x4 v7 x10 x11 (g_lex_Lines_l5 x4 x5 v7 k590 k591 m5)) FUEL x11
  else
   k590 x10
def gq0 (v3 : List (List UInt8)) (k290 : (List (List SField)) → Option ((List (List SField)) × Int)) : Nat → Int → (List (List SField)) → Option ((List (List SField)) × Int)
 | 0, _, _ => none
 | m2 + 1, x4, x5 =>
  bif decide (x4 < (v3.length : Int)) then
   bO (idx v3 x4) fun v7 =>
   g_lex_Lines_l5 x4 x5 v7 (g_lex_Lines_k4 x4 x5 (gq0 v3 k290 m2)) (g_lex_Lines_k3 x4 (gq0 v3 k290 m2)) FUEL ([] : List SField) 0
  else
   k290 x5
def g_lex_Lines (a0 : List UInt8) : Option ((List (List SField)) × Int) :=
 bO (g_lex_readable a0) fun v1 =>
 bif !v1 then
  some (([] : List (List SField)), 2)
 else
  bO (splitO a0 [10]) fun v3 =>
  gq0 v3 gq1 FUEL 0 ([] : List (List SField))
theorem g_lex_Lines_w {a0 : List UInt8} {r : (List (List SField)) × Int} (h : g_lex_Lines a0 = some r) : PCall Tryz.prog 42 [.list false 5 (a0.map zU8)] (.tuple [.list true 75 (r.1.map (fun x => .list false 81 (x.map eSField))), zI r.2]) := by
 refine PCall.body Tryz.func42 rfl rfl rfl rfl fun base => ?_
 unfold g_lex_Lines at h
 refine CWp.seq (CWp.region ?_)
 refine rn 2 rfl (COps.done [0] [] rfl ?_)
 refine CWp.scope ?_
 refine CWp.seq (CWp.seq (CWp.region ?_))
 refine rn 1 rfl ?_
 obtain ⟨v1, hv1, h⟩ := bI h
 refine pCall Tryz.call72 (g_lex_readable_w hv1) rfl ?_
 refine rn 1 rfl (COps.done [0, 12] [] rfl ?_)
 refine CWp.cond h rfl (fun h => ?_) (fun h => ?_)
 ·refine CWp.seq (CWp.region ?_)
  refine rn 2 rfl (COps.done [2, 3] [] rfl ?_)
  refine CWp.ret ?_
  cases h
  exact ⟨.inl rfl, rfl, rfl⟩
 ·refine CWp.skip ?_
  refine CWp.seq (CWp.region ?_)
  refine rn 1 rfl (COps.done [0, 4] [] rfl ?_)
  refine CWp.seq ?_
  refine CWp.label ?_
  refine CWp.mid (fun e => ∃ x2, e = ⟨[(4, [], .list true 75 (x2.map (fun x => .list false 81 (x.map eSField))))], [], [], [], base⟩ ∧ gq1 x2 = some r) ?_ ?_
  ·refine CWp.seq (CWp.region ?_)
   refine rn 1 rfl ?_
   refine rd (rStr (l := a0)) ?_
   obtain ⟨v3, hv3, h⟩ := bI h
   refine pCall Tryz.call73 (splitO_w hv3) rfl ?_
   refine rh 2 [v3.length] [] rfl ⟨List.length_map .., trivial⟩ ?_
   refine COps.done [4, 15, 16, 17] [] rfl ?_
   refine CWp.block ?_
   refine CWp.loop (fun m2 e => ∃ x4 x5, e = ⟨[(4, [], .list true 75 (x5.map (fun x => .list false 81 (x.map eSField)))), (15, [], .list true 9 (v3.map AV.str)), (16, [], zI (v3.length : Int)), (17, [], zI x4)], [], [], [], base⟩ ∧ gq0 v3 (gq1) m2 x4 x5 = some r) FUEL ⟨_, _, rfl, h⟩ ?_ ?_
   ·rintro m2 _ ⟨x4, x5, rfl, h⟩
    rw [gq0] at h
    refine CWp.seq (CWp.region ?_)
    refine rn 1 rfl (COps.done [4, 15, 16, 17, 18] [] rfl ?_)
    refine CWp.seq ?_
    refine CWp.cond h rfl (fun h => ?_) (fun h => ?_)
    ·refine CWp.skip ?_
     refine CWp.mid (fun e => ∃ x6, e = ⟨[(4, [], .list true 75 (x6.map (fun x => .list false 81 (x.map eSField)))), (15, [], .list true 9 (v3.map AV.str)), (16, [], zI (v3.length : Int)), (17, [], zI x4)], [], [], [], base⟩ ∧ g_lex_Lines_k3 x4 (gq0 v3 (gq1) m2) x6 = some r) ?_ ?_
     ·refine CWp.block ?_
      refine CWp.seq (CWp.region ?_)
      obtain ⟨v7, hv7, h⟩ := bI h
      refine rn 1 rfl ?_
      refine rd (rIx hv7) ?_
      refine rn 3 rfl (COps.done [4, 5, 6, 15, 16, 17] [] rfl ?_)
      refine CWp.seq (CWp.region ?_)
      refine rn 1 rfl (COps.done [4, 5, 6, 7, 15, 16, 17] [] rfl ?_)
      refine CWp.mid (fun e => ∃ x8, e = ⟨[(4, [], .list true 75 (x5.map (fun x => .list false 81 (x.map eSField)))), (7, [], .list true 81 (x8.map eSField)), (15, [], .list true 9 (v3.map AV.str)), (16, [], zI (v3.length : Int)), (17, [], zI x4)], [], [], [], base⟩ ∧ g_lex_Lines_k4 x4 x5 (gq0 v3 (gq1) m2) x8 = some r) ?_ ?_
      ·refine CWp.seq (CWp.region ?_)
       refine rn 1 rfl (COps.done [4, 5, 6, 7, 8, 15, 16, 17] [] rfl ?_)
       refine CWp.block ?_
       refine CWp.loop (fun m5 e => ∃ x10 x11, e = ⟨[(4, [], .list true 75 (x5.map (fun x => .list false 81 (x.map eSField)))), (5, [], zI x4), (6, [], .str v7), (7, [], .list true 81 (x10.map eSField)), (8, [], zI x11), (15, [], .list true 9 (v3.map AV.str)), (16, [], zI (v3.length : Int)), (17, [], zI x4)], [], [], [], base⟩ ∧ g_lex_Lines_l5 x4 x5 v7 (g_lex_Lines_k4 x4 x5 (gq0 v3 (gq1) m2)) (g_lex_Lines_k3 x4 (gq0 v3 (gq1) m2)) m5 x10 x11 = some r) FUEL ⟨_, _, rfl, h⟩ ?_ ?_
       ·rintro m5 _ ⟨x10, x11, rfl, h⟩
        rw [g_lex_Lines_l5] at h
        refine CWp.seq (CWp.seq (CWp.region ?_))
        refine rn 4 rfl (COps.done [4, 5, 6, 7, 8, 15, 16, 17, 25] [] rfl ?_)
        refine CWp.cond h rfl (fun h => ?_) (fun h => ?_)
        ·refine CWp.skip ?_
         refine CWp.mid (fun e => ∃ x12 x13, e = ⟨[(4, [], .list true 75 (x5.map (fun x => .list false 81 (x.map eSField)))), (5, [], zI x4), (6, [], .str v7), (7, [], .list true 81 (x12.map eSField)), (8, [], zI x13), (15, [], .list true 9 (v3.map AV.str)), (16, [], zI (v3.length : Int)), (17, [], zI x4)], [], [], [], base⟩ ∧ g_lex_Lines_k6 (g_lex_Lines_l5 x4 x5 v7 (g_lex_Lines_k4 x4 x5 (gq0 v3 (gq1) m2)) (g_lex_Lines_k3 x4 (gq0 v3 (gq1) m2)) m5) x12 x13 = some r) ?_ ?_
         ·refine CWp.block ?_
          refine CWp.seq (CWp.seq (CWp.region ?_))
          obtain ⟨v14, hv14, h⟩ := bI h
          refine rn 2 rfl ?_
          refine rd (rBy hv14) ?_
          obtain ⟨v15, hv15, h⟩ := bI h
          refine pCall Tryz.call74 (g_lex_blank_w hv15) rfl ?_
          refine COps.done [4, 5, 6, 7, 8, 15, 16, 17, 31] [] rfl ?_
          refine CWp.cond h rfl (fun h => ?_) (fun h => ?_)
          ·refine CWp.keep [4, 5, 6, 7, 8, 15, 16, 17] [] rfl ?_
           refine CWp.exit ?_
           exact ⟨_, _, rfl, h⟩
          ·refine CWp.skip ?_
           refine CWp.seq (CWp.seq (CWp.region ?_))
           obtain ⟨v16, hv16, h⟩ := bI h
           refine rn 2 rfl ?_
           refine rd (rBy hv16) ?_
           refine rn 1 rfl (COps.done [4, 5, 6, 7, 8, 15, 16, 17, 35] [] rfl ?_)
           refine CWp.cond h rfl (fun h => ?_) (fun h => ?_)
           ·refine CWp.mid (fun e => ∃ x17, e = ⟨[(4, [], .list true 75 (x17.map (fun x => .list false 81 (x.map eSField)))), (15, [], .list true 9 (v3.map AV.str)), (16, [], zI (v3.length : Int)), (17, [], zI x4)], [], [], [], base⟩ ∧ g_lex_Lines_k7 (g_lex_Lines_k3 x4 (gq0 v3 (gq1) m2)) x17 = some r) ?_ ?_
            ·refine CWp.seq (CWp.region ?_)
             refine rh 3 [x10.length] [] rfl ⟨List.length_map .., trivial⟩ ?_
             refine COps.done [4, 7, 15, 16, 17, 38] [] rfl ?_
             refine CWp.cond h rfl (fun h => ?_) (fun h => ?_)
             ·refine CWp.region ?_
              obtain ⟨v18, hv18, h⟩ := bI h
              refine rh 3 [] [39] rfl trivial ?_
              refine cApp hv18 ?_
              refine rh 1 [] [4] rfl trivial ?_
              refine COps.done [4, 15, 16, 17] [] rfl ?_
              exact ⟨_, rfl, h⟩
             ·refine CWp.keep [4, 15, 16, 17] [] rfl ?_
              refine CWp.skip ?_
              exact ⟨_, rfl, h⟩
            ·rintro _ ⟨x17, rfl, h⟩
             unfold g_lex_Lines_k7 at h
             refine CWp.exit ?_
             exact ⟨_, rfl, h⟩
           ·refine CWp.skip ?_
            refine CWp.seq (CWp.region ?_)
            refine rn 2 rfl (COps.done [4, 5, 6, 7, 8, 9, 15, 16, 17] [] rfl ?_)
            refine CWp.mid (fun e => ∃ x19, e = ⟨[(4, [], .list true 75 (x5.map (fun x => .list false 81 (x.map eSField)))), (5, [], zI x4), (6, [], .str v7), (7, [], .list true 81 (x10.map eSField)), (8, [], zI x19), (9, [], zI x11), (15, [], .list true 9 (v3.map AV.str)), (16, [], zI (v3.length : Int)), (17, [], zI x4)], [], [], [], base⟩ ∧ g_lex_Lines_k8 x4 v7 x10 x11 (g_lex_Lines_l5 x4 x5 v7 (g_lex_Lines_k4 x4 x5 (gq0 v3 (gq1) m2)) (g_lex_Lines_k3 x4 (gq0 v3 (gq1) m2)) m5) x19 = some r) ?_ ?_
            ·refine CWp.block ?_
             refine CWp.loop (fun m9 e => ∃ x22, e = ⟨[(4, [], .list true 75 (x5.map (fun x => .list false 81 (x.map eSField)))), (5, [], zI x4), (6, [], .str v7), (7, [], .list true 81 (x10.map eSField)), (8, [], zI x22), (9, [], zI x11), (15, [], .list true 9 (v3.map AV.str)), (16, [], zI (v3.length : Int)), (17, [], zI x4)], [], [], [], base⟩ ∧ g_lex_Lines_l9 v7 (g_lex_Lines_k8 x4 v7 x10 x11 (g_lex_Lines_l5 x4 x5 v7 (g_lex_Lines_k4 x4 x5 (gq0 v3 (gq1) m2)) (g_lex_Lines_k3 x4 (gq0 v3 (gq1) m2)) m5)) m9 x22 = some r) FUEL ⟨_, rfl, h⟩ ?_ ?_
             ·rintro m9 _ ⟨x22, rfl, h⟩
              rw [g_lex_Lines_l9] at h
              refine CWp.seq (CWp.seq (CWp.region ?_))
              obtain ⟨v23, hv23, h⟩ := bI h
              refine rn 7 rfl ?_
              refine rdg 48 true [] (fun ht => rBy (gd hv23 (ht.1 _ rfl))) ?_
              obtain ⟨v24, hv24, h⟩ := bI h
              refine pCallg 48 true [] Tryz.call74 (fun ht => g_lex_blank_w (gd hv24 (ht.1 _ rfl))) rfl ?_
              refine rn 2 rfl (COps.done [4, 5, 6, 7, 8, 9, 15, 16, 17, 54] [] rfl ?_)
              refine CWp.cond h rfl (fun h => ?_) (fun h => ?_)
              ·refine CWp.skip ?_
               refine CWp.block ?_
               refine CWp.region ?_
               refine rn 3 rfl (COps.done [4, 5, 6, 7, 8, 9, 15, 16, 17] [] rfl ?_)
               exact ⟨_, rfl, h⟩
              ·refine CWp.keep [4, 5, 6, 7, 8, 9, 15, 16, 17] [] rfl ?_
               refine CWp.exit ?_
               exact ⟨_, rfl, h⟩
             ·rintro _ ⟨_, _, h⟩
              rw [g_lex_Lines_l9] at h; cases h
            ·rintro _ ⟨x19, rfl, h⟩
             unfold g_lex_Lines_k8 at h
             refine CWp.region ?_
             obtain ⟨v20, hv20, h⟩ := bI h
             refine rh 4 [] [57] rfl trivial ?_
             refine rd (rSub hv20) ?_
             obtain ⟨v21, hv21, h⟩ := bI h
             refine rn 6 rfl ?_
             refine cApp hv21 ?_
             refine rh 1 [] [7] rfl trivial ?_
             refine COps.done [4, 5, 6, 7, 8, 15, 16, 17] [] rfl ?_
             exact ⟨_, _, rfl, h⟩
         ·rintro _ ⟨x12, x13, rfl, h⟩
          unfold g_lex_Lines_k6 at h
          refine CWp.region ?_
          refine rn 3 rfl (COps.done [4, 5, 6, 7, 8, 15, 16, 17] [] rfl ?_)
          exact ⟨_, _, rfl, h⟩
        ·refine CWp.keep [4, 7, 15, 16, 17] [] rfl ?_
         refine CWp.exit ?_
         exact ⟨_, rfl, h⟩
       ·rintro _ ⟨_, _, _, h⟩
        rw [g_lex_Lines_l5] at h; cases h
      ·rintro _ ⟨x8, rfl, h⟩
       unfold g_lex_Lines_k4 at h
       refine CWp.seq (CWp.region ?_)
       refine rh 3 [x8.length] [] rfl ⟨List.length_map .., trivial⟩ ?_
       refine COps.done [4, 7, 15, 16, 17, 71] [] rfl ?_
       refine CWp.cond h rfl (fun h => ?_) (fun h => ?_)
       ·refine CWp.region ?_
        obtain ⟨v9, hv9, h⟩ := bI h
        refine rh 3 [] [72] rfl trivial ?_
        refine cApp hv9 ?_
        refine rh 1 [] [4] rfl trivial ?_
        refine COps.done [4, 15, 16, 17] [] rfl ?_
        exact ⟨_, rfl, h⟩
       ·refine CWp.keep [4, 15, 16, 17] [] rfl ?_
        refine CWp.skip ?_
        exact ⟨_, rfl, h⟩
     ·rintro _ ⟨x6, rfl, h⟩
      unfold g_lex_Lines_k3 at h
      refine CWp.region ?_
      refine rn 2 rfl (COps.done [4, 15, 16, 17] [] rfl ?_)
      exact ⟨_, _, rfl, h⟩
    ·refine CWp.keep [4] [] rfl ?_
     refine CWp.exit ?_
     exact ⟨_, rfl, h⟩
   ·rintro _ ⟨_, _, _, h⟩
    rw [gq0] at h; cases h
  ·rintro _ ⟨x2, rfl, h⟩
   unfold gq1 at h
   refine CWp.seq (CWp.region ?_)
   refine rh 3 [] [77, 2] rfl trivial ?_
   refine COps.done [2, 3] [] rfl ?_
   refine CWp.ret ?_
   cases h
   exact ⟨.inl rfl, rfl, rfl⟩
def gq2 (a0 : Sline) : Option ((List UInt8) × Sline) :=
 bif (a0.l.length : Int) == 0 then
  some (([] : List UInt8), (⟨a0.l, true⟩ : Sline))
 else
  bO (idx a0.l 0) fun v1 =>
  bO (slO a0.l 1 (a0.l.length : Int)) fun v2 =>
  some (v1.text, (⟨v2, a0.bad⟩ : Sline))
theorem g_script_line_text_w {a0 : Sline} {i0 : Nat} {r : (List UInt8) × Sline} (h : gq2 a0 = some r) : FCall Tryz.prog 75 [.gptr i0 0] [(i0, [.list false 81 (a0.l.map eSField), zB a0.bad])] (fun v outs => v = .str r.1 ∧ outs = [(i0, [.list false 81 (r.2.l.map eSField), zB r.2.bad])]) := by
 refine FCall.of Tryz.func75 rfl rfl rfl rfl fun base => ?_
 unfold gq2 at h
 refine CWp.seq (CWp.region ?_)
 refine rn 1 rfl (COps.done [0] [] rfl ?_)
 refine CWp.seq (CWp.seq (CWp.region ?_))
 refine rh 6 [0, a0.l.length] [] rfl ⟨List.length_map .., rfl, trivial⟩ ?_
 refine COps.done [0, 9] [] rfl ?_
 refine CWp.cond h rfl (fun h => ?_) (fun h => ?_)
 ·refine CWp.seq (CWp.region ?_)
  refine rh 4 [0] [] rfl ⟨rfl, trivial⟩ ?_
  refine COps.done [] [] rfl ?_
  refine CWp.seq (CWp.region ?_)
  refine rn 1 rfl (COps.done [2] [] rfl ?_)
  refine CWp.ret ?_
  cases h
  exact ⟨.inl rfl, _, [0], _, _, rfl, rfl, rfl, rfl, rfl⟩
 ·refine CWp.skip ?_
  refine CWp.seq (CWp.region ?_)
  obtain ⟨v1, hv1, h⟩ := bI h
  refine rh 4 [0] [] rfl ⟨rfl, trivial⟩ ?_
  refine rd (rIx hv1) ?_
  refine rn 3 rfl (COps.done [0, 3] [] rfl ?_)
  refine CWp.seq (CWp.region ?_)
  obtain ⟨v2, hv2, h⟩ := bI h
  refine rh 5 [0] [] rfl ⟨rfl, trivial⟩ ?_
  refine rd (rPc hv2) ?_
  refine rh 3 [0] [] rfl ⟨rfl, trivial⟩ ?_
  refine COps.done [3] [] rfl ?_
  refine CWp.seq (CWp.region ?_)
  refine rn 2 rfl (COps.done [2] [] rfl ?_)
  refine CWp.ret ?_
  cases h
  exact ⟨.inl rfl, _, [0], _, _, rfl, rfl, rfl, rfl, rfl⟩
def g_script_Word_k1 (a0 : List UInt8) : Option Bool :=
 bO (bif ((decide ((a0.length : Int) ≥ 1)) && (decide ((a0.length : Int) ≤ 60))) then (idx a0 0) else some default) fun v1 =>
 some (((decide ((a0.length : Int) ≥ 1)) && (decide ((a0.length : Int) ≤ 60))) && ((v1.toNat : Int) != 35))
def g_script_Word_l2 (a0 : List UInt8) (k290 : Option Bool) : Nat → Int → Option Bool
 | 0, _ => none
 | m2 + 1, x3 =>
  bif decide (x3 < (a0.length : Int)) then
   bO (idx a0 x3) fun v4 =>
   bif (decide ((v4.toNat : Int) ≤ 32)) || (decide ((v4.toNat : Int) > 126)) then
    some false
   else
    (g_script_Word_l2 a0 k290 m2) (w64 (x3 + 1))
  else
   k290
def g_script_Word (a0 : List UInt8) : Option Bool :=
 bO (bytesO a0) fun _v2 =>
 g_script_Word_l2 a0 (g_script_Word_k1 a0) FUEL 0
theorem g_script_Word_w {a0 : List UInt8} {r : Bool} (h : g_script_Word a0 = some r) : PCall Tryz.prog 14 [.str a0] (zB r) := by
 refine PCall.body Tryz.func14 rfl rfl rfl rfl fun base => ?_
 unfold g_script_Word at h
 refine CWp.seq (CWp.region ?_)
 refine rn 1 rfl (COps.done [0] [] rfl ?_)
 refine CWp.mid (fun e => e = ⟨[(0, [], .str a0)], [], [], [], base⟩ ∧ g_script_Word_k1 a0 = some r) ?_ ?_
 ·refine CWp.seq (CWp.region ?_)
  obtain ⟨v2, hv2, h⟩ := bI h
  refine rn 1 rfl ?_
  refine cBytes (bytesO_ok hv2).1 ?_
  refine rh 2 [a0.length] [] rfl ⟨List.length_map .., trivial⟩ ?_
  refine COps.done [0, 6, 7, 8] [] rfl ?_
  refine CWp.block ?_
  refine CWp.loop (fun m2 e => ∃ x3, e = ⟨[(0, [], .str a0), (6, [], .list false 5 (a0.map zU8)), (7, [], zI (a0.length : Int)), (8, [], zI x3)], [], [], [], base⟩ ∧ g_script_Word_l2 a0 (g_script_Word_k1 a0) m2 x3 = some r) FUEL ⟨_, rfl, h⟩ ?_ ?_
  ·rintro m2 _ ⟨x3, rfl, h⟩
   rw [g_script_Word_l2] at h
   refine CWp.seq (CWp.region ?_)
   refine rn 1 rfl (COps.done [0, 6, 7, 8, 9] [] rfl ?_)
   refine CWp.seq ?_
   refine CWp.cond h rfl (fun h => ?_) (fun h => ?_)
   ·refine CWp.skip ?_
    refine CWp.seq (CWp.block ?_)
    refine CWp.seq (CWp.region ?_)
    obtain ⟨v4, hv4, h⟩ := bI h
    refine rd (rIx hv4) ?_
    refine rn 2 rfl (COps.done [0, 4, 6, 7, 8] [] rfl ?_)
    refine CWp.seq (CWp.region ?_)
    refine rn 6 rfl (COps.done [0, 6, 7, 8, 17] [] rfl ?_)
    refine CWp.cond h rfl (fun h => ?_) (fun h => ?_)
    ·refine CWp.seq (CWp.region ?_)
     refine rn 1 rfl (COps.done [2] [] rfl ?_)
     refine CWp.ret ?_
     cases h
     exact ⟨.inl rfl, rfl, rfl⟩
    ·refine CWp.skip ?_
     refine CWp.region ?_
     refine rn 2 rfl (COps.done [0, 6, 7, 8] [] rfl ?_)
     exact ⟨_, rfl, h⟩
   ·refine CWp.keep [0] [] rfl ?_
    refine CWp.exit ?_
    exact ⟨rfl, h⟩
  ·rintro _ ⟨_, _, h⟩
   rw [g_script_Word_l2] at h; cases h
 ·rintro _ ⟨rfl, h⟩
  unfold g_script_Word_k1 at h
  refine CWp.seq (CWp.region ?_)
  obtain ⟨v1, hv1, h⟩ := bI h
  refine rn 10 rfl ?_
  refine rdg 27 true [] (fun ht => rBy (gd hv1 (ht.1 _ rfl))) ?_
  refine rn 3 rfl (COps.done [2] [] rfl ?_)
  refine CWp.ret ?_
  cases h
  exact ⟨.inl rfl, rfl, rfl⟩
def g_script_line_word (a0 : Sline) : Option ((List UInt8) × Sline) :=
 bO (gq2 a0) fun v1 =>
 bO (bif v1.2.bad then some default else (g_script_Word v1.1)) fun v2 =>
 some (v1.1, (⟨v1.2.l, v1.2.bad || (!v2)⟩ : Sline))
theorem g_script_line_word_w {a0 : Sline} {i0 : Nat} {r : (List UInt8) × Sline} (h : g_script_line_word a0 = some r) : FCall Tryz.prog 77 [.gptr i0 0] [(i0, [.list false 81 (a0.l.map eSField), zB a0.bad])] (fun v outs => v = .str r.1 ∧ outs = [(i0, [.list false 81 (r.2.l.map eSField), zB r.2.bad])]) := by
 refine FCall.of Tryz.func77 rfl rfl rfl rfl fun base => ?_
 unfold g_script_line_word at h
 refine CWp.seq (CWp.region ?_)
 refine rn 1 rfl (COps.done [0] [] rfl ?_)
 refine CWp.seq (CWp.region ?_)
 refine rn 1 rfl ?_
 obtain ⟨v1, hv1, h⟩ := bI h
 refine cCall [0] Tryz.call75 (g_script_line_text_w hv1) rfl rfl ?_
 rintro _ _ ⟨rfl, rfl⟩
 refine rn 1 rfl (COps.done [0, 3] [] rfl ?_)
 refine CWp.seq (CWp.region ?_)
 refine rh 7 [0] [] rfl ⟨rfl, trivial⟩ ?_
 obtain ⟨v2, hv2, h⟩ := bI h
 refine pCallg 11 false [] Tryz.call14 (fun ht => g_script_Word_w (gdf hv2 (ht.1 _ rfl))) rfl ?_
 refine rn 4 rfl ?_
 refine COps.keep [3, 15, 17] [] rfl ?_
 refine rh 1 [0] [] rfl ⟨rfl, trivial⟩ ?_
 refine COps.done [3] [] rfl ?_
 refine CWp.seq (CWp.region ?_)
 refine rn 2 rfl (COps.done [2] [] rfl ?_)
 refine CWp.ret ?_
 cases h
 exact ⟨.inl rfl, _, [0], _, _, rfl, rfl, rfl, rfl, rfl⟩
def g_quant_units : Option (List Sunit) :=
 some [(⟨[84, 105], 1099511627776⟩ : Sunit), (⟨[84], 1000000000000⟩ : Sunit), (⟨[71, 105], 1073741824⟩ : Sunit), (⟨[71], 1000000000⟩ : Sunit), (⟨[77, 105], 1048576⟩ : Sunit), (⟨[77], 1000000⟩ : Sunit), (⟨[75, 105], 1024⟩ : Sunit), (⟨[107], 1000⟩ : Sunit)]
theorem g_quant_units_w {r : List Sunit} (h : g_quant_units = some r) : PCall Tryz.prog 69 [] (.list true 105 (r.map eSunit)) := by
 refine PCall.body Tryz.func69 rfl rfl rfl rfl fun base => ?_
 unfold g_quant_units at h
 refine CWp.seq (CWp.region ?_)
 refine rn 1 rfl (COps.done [] [] rfl ?_)
 refine CWp.seq (CWp.region ?_)
 refine rh 10 [] [0] rfl trivial ?_
 refine COps.done [0] [] rfl ?_
 refine CWp.ret ?_
 cases h
 exact ⟨.inl rfl, rfl, rfl⟩
def g_quant_Unit_1 (a0 : Sunit) (a1 : List UInt8) : Option Bool :=
 some (a0.name == a1)
theorem g_quant_Unit_1_w {a0 : Sunit} {a1 : List UInt8} {i1 : Nat} {r : Bool} (h : g_quant_Unit_1 a0 a1 = some r) : FCall Tryz.prog 102 [eSunit a0, .gptr i1 0] [(i1, [.str a1])] (fun v outs => v = zB r ∧ outs = [(i1, [.str a1])]) := by
 refine FCall.of Tryz.func102 rfl rfl rfl rfl fun base => ?_
 unfold g_quant_Unit_1 at h
 refine CWp.seq (CWp.region ?_)
 refine rn 2 rfl ?_
 refine COps.done [1, 2] [2] rfl ?_
 refine CWp.seq (CWp.region ?_)
 refine rh 5 [0] [] rfl ⟨rfl, trivial⟩ ?_
 refine COps.done [3] [] rfl ?_
 refine CWp.ret ?_
 cases h
 exact ⟨.inl rfl, _, [0], _, _, rfl, rfl, rfl, rfl, rfl⟩
def g_slices_IndexFunc_k1 : Option Int :=
 some (-1)
def g_slices_IndexFunc_l2 (a0 : List Sunit) (a1 : Sunit → Option Bool) (k290 : Option Int) : Nat → Int → Option Int
 | 0, _ => none
 | m2 + 1, x1 =>
  bif decide (x1 < (a0.length : Int)) then
   bO (idx a0 x1) fun v2 =>
   bO (a1 v2) fun v3 =>
   bif v3 then
    some x1
   else
    (g_slices_IndexFunc_l2 a0 a1 k290 m2) (w64 (x1 + 1))
  else
   k290
def g_slices_IndexFunc (a0 : List Sunit) (a1 : Sunit → Option Bool) : Option Int :=
 g_slices_IndexFunc_l2 a0 a1 g_slices_IndexFunc_k1 FUEL 0
theorem g_slices_IndexFunc_w {a0 : List Sunit} {a1 : Sunit → Option Bool} {r : Int} {ins : Ob} {f1 : Nat} {c1 : List AV} (hp1 : Fn1 Tryz.prog f1 c1 ins eSunit zB a1) (h : g_slices_IndexFunc a0 a1 = some r) : FCall Tryz.prog 101 [.list false 105 (a0.map eSunit), .fn f1 c1] ins (fun v outs => v = zI r ∧ outs = ins) := by
 refine FCall.ofAll Tryz.func101 rfl rfl rfl rfl fun base => ?_
 unfold g_slices_IndexFunc at h
 refine CWp.seq (CWp.region ?_)
 refine rn 1 rfl (COps.done [0, 1] [] rfl ?_)
 refine CWp.mid (fun e => e = ⟨[], [], [], ins, base⟩ ∧ g_slices_IndexFunc_k1 = some r) ?_ ?_
 ·refine CWp.seq (CWp.region ?_)
  refine rh 3 [a0.length] [] rfl ⟨List.length_map .., trivial⟩ ?_
  refine COps.done [0, 1, 7, 8] [] rfl ?_
  refine CWp.block ?_
  refine CWp.loop (fun m2 e => ∃ x1, e = ⟨[(0, [], .list false 105 (a0.map eSunit)), (1, [], .fn f1 c1), (7, [], zI (a0.length : Int)), (8, [], zI x1)], [], [], ins, base⟩ ∧ g_slices_IndexFunc_l2 a0 a1 (g_slices_IndexFunc_k1) m2 x1 = some r) FUEL ⟨_, rfl, h⟩ ?_ ?_
  ·rintro m2 _ ⟨x1, rfl, h⟩
   rw [g_slices_IndexFunc_l2] at h
   refine CWp.seq (CWp.region ?_)
   refine rn 1 rfl (COps.done [0, 1, 7, 8, 9] [] rfl ?_)
   refine CWp.seq ?_
   refine CWp.cond h rfl (fun h => ?_) (fun h => ?_)
   ·refine CWp.skip ?_
    refine CWp.seq (CWp.block ?_)
    refine CWp.seq (CWp.region ?_)
    refine rn 2 rfl (COps.done [0, 1, 5, 7, 8] [] rfl ?_)
    refine CWp.seq (CWp.region ?_)
    obtain ⟨v2, hv2, h⟩ := bI h
    refine rn 3 rfl ?_
    refine rd (rIx hv2) ?_
    refine rn 1 rfl ?_
    obtain ⟨v3, hv3, h⟩ := bI h
    refine cCallV hp1.1 (hp1.2 _ _ hv3) ?_
    rintro _ _ ⟨rfl, rfl⟩
    refine COps.done [0, 1, 5, 7, 8, 16] [] rfl ?_
    refine CWp.cond h rfl (fun h => ?_) (fun h => ?_)
    ·refine CWp.seq (CWp.region ?_)
     refine rn 2 rfl (COps.done [4] [] rfl ?_)
     refine CWp.ret ?_
     cases h
     exact ⟨.inl rfl, _, rfl, rfl, rfl, rfl⟩
    ·refine CWp.skip ?_
     refine CWp.region ?_
     refine rn 2 rfl (COps.done [0, 1, 7, 8] [] rfl ?_)
     exact ⟨_, rfl, h⟩
   ·refine CWp.keep [] [] rfl ?_
    refine CWp.exit ?_
    exact ⟨rfl, h⟩
  ·rintro _ ⟨_, _, h⟩
   rw [g_slices_IndexFunc_l2] at h; cases h
 ·rintro _ ⟨rfl, h⟩
  unfold g_slices_IndexFunc_k1 at h
  refine CWp.seq (CWp.region ?_)
  refine rn 1 rfl (COps.done [4] [] rfl ?_)
  refine CWp.ret ?_
  cases h
  exact ⟨.inl rfl, _, rfl, rfl, rfl, rfl⟩
def g_quant_Unit (a0 : List UInt8) : Option Int :=
 bif a0 == ([] : List UInt8) then
  some 1
 else
  bO (g_quant_units) fun v2 =>
  bO (g_slices_IndexFunc v2 (fun u0 => g_quant_Unit_1 u0 a0)) fun v3 =>
  bif decide (v3 < 0) then
   some 0
  else
   bO (idx v2 v3) fun v4 =>
   some v4.n
theorem g_quant_Unit_w {a0 : List UInt8} {r : Int} (h : g_quant_Unit a0 = some r) : PCall Tryz.prog 58 [.str a0] (zI r) := by
 refine PCall.body Tryz.func58 rfl rfl rfl rfl fun base => ?_
 unfold g_quant_Unit at h
 refine CWp.seq (CWp.region ?_)
 refine cBox ?_
 rintro o1 -
 refine rn 1 rfl (COps.done [1] [] rfl ?_)
 refine CWp.seq (CWp.seq (CWp.region ?_))
 refine rh 2 [0] [] rfl ⟨rfl, trivial⟩ ?_
 refine COps.done [1, 6] [] rfl ?_
 refine CWp.cond h rfl (fun h => ?_) (fun h => ?_)
 ·refine CWp.seq (CWp.region ?_)
  refine rn 1 rfl ?_
  refine COps.objs [] rfl ?_
  refine COps.done [2] [] rfl ?_
  refine CWp.ret ?_
  cases h
  exact ⟨.inl rfl, rfl, rfl⟩
 ·refine CWp.skip ?_
  refine CWp.seq (CWp.region ?_)
  obtain ⟨v2, hv2, h⟩ := bI h
  refine pCall Tryz.call69 (g_quant_units_w hv2) rfl ?_
  refine rh 1 [] [3] rfl trivial ?_
  refine COps.done [1, 3] [] rfl ?_
  refine CWp.seq (CWp.region ?_)
  refine rn 1 rfl ?_
  refine rd (rMk) ?_
  obtain ⟨v3, hv3, h⟩ := bI h
  refine cCall [0] Tryz.call101 (g_slices_IndexFunc_w ⟨Tryz.call102, fun _ _ hb => g_quant_Unit_1_w hb⟩ hv3) rfl rfl ?_
  rintro _ _ ⟨rfl, rfl⟩
  refine rn 1 rfl ?_
  refine COps.objs [] rfl ?_
  refine COps.done [3, 4] [] rfl ?_
  refine CWp.seq (CWp.seq (CWp.region ?_))
  refine rn 2 rfl (COps.done [3, 4, 12] [] rfl ?_)
  refine CWp.cond h rfl (fun h => ?_) (fun h => ?_)
  ·refine CWp.seq (CWp.region ?_)
   refine rn 1 rfl (COps.done [2] [] rfl ?_)
   refine CWp.ret ?_
   cases h
   exact ⟨.inl rfl, rfl, rfl⟩
  ·refine CWp.skip ?_
   refine CWp.seq (CWp.region ?_)
   obtain ⟨v4, hv4, h⟩ := bI h
   refine rn 2 rfl ?_
   refine rd (rIx hv4) ?_
   refine rn 3 rfl (COps.done [2] [] rfl ?_)
   refine CWp.ret ?_
   cases h
   exact ⟨.inl rfl, rfl, rfl⟩
def g_sat_number (a0 : Int) : Option Int :=
 some (max a0 0)
theorem g_sat_number_w {a0 : Int} {r : Int} (h : g_sat_number a0 = some r) : PCall Tryz.prog 103 [zI a0] (zI r) := by
 refine PCall.body Tryz.func103 rfl rfl rfl rfl fun base => ?_
 unfold g_sat_number at h
 refine CWp.seq (CWp.region ?_)
 refine rn 1 rfl (COps.done [0] [] rfl ?_)
 refine CWp.seq (CWp.region ?_)
 refine rn 3 rfl (COps.done [2] [] rfl ?_)
 refine CWp.ret ?_
 cases h
 exact ⟨.inl rfl, rfl, rfl⟩
def g_sat_Mul (a0 : Int) (a1 : Int) : Option Int :=
 bO (g_sat_number a0) fun v1 =>
 bO (g_sat_number a1) fun v2 =>
 bO (bif (decide (v2 > 0)) then (quoO .i64 9223372036854775807 v2) else some default) fun v3 =>
 bif (decide (v2 > 0)) && (decide (v1 > v3)) then
  some 9223372036854775807
 else
  some (w64 (v1 * v2))
theorem g_sat_Mul_w {a0 : Int} {a1 : Int} {r : Int} (h : g_sat_Mul a0 a1 = some r) : PCall Tryz.prog 60 [zI a0, zI a1] (zI r) := by
 refine PCall.body Tryz.func60 rfl rfl rfl rfl fun base => ?_
 unfold g_sat_Mul at h
 refine CWp.seq (CWp.region ?_)
 refine rn 1 rfl (COps.done [0, 1] [] rfl ?_)
 refine CWp.seq (CWp.region ?_)
 refine rn 1 rfl ?_
 obtain ⟨v1, hv1, h⟩ := bI h
 refine pCall Tryz.call103 (g_sat_number_w hv1) rfl ?_
 refine rn 1 rfl ?_
 obtain ⟨v2, hv2, h⟩ := bI h
 refine pCall Tryz.call103 (g_sat_number_w hv2) rfl ?_
 refine rn 2 rfl (COps.done [0, 1] [] rfl ?_)
 refine CWp.seq (CWp.seq (CWp.region ?_))
 obtain ⟨v3, hv3, h⟩ := bI h
 refine rn 5 rfl ?_
 refine rdg 11 true [] (fun ht => rQuo (gd hv3 (ht.1 _ rfl))) ?_
 refine rn 2 rfl (COps.done [0, 1, 16] [] rfl ?_)
 refine CWp.cond h rfl (fun h => ?_) (fun h => ?_)
 ·refine CWp.seq (CWp.region ?_)
  refine rn 1 rfl (COps.done [4] [] rfl ?_)
  refine CWp.ret ?_
  cases h
  exact ⟨.inl rfl, rfl, rfl⟩
 ·refine CWp.skip ?_
  refine CWp.seq (CWp.region ?_)
  refine rn 4 rfl (COps.done [4] [] rfl ?_)
  refine CWp.ret ?_
  cases h
  exact ⟨.inl rfl, rfl, rfl⟩
def g_sat_Add (a0 : Int) (a1 : Int) : Option Int :=
 bO (g_sat_number a0) fun v1 =>
 bO (g_sat_number a1) fun v2 =>
 some (w64 (v1 + (min v2 (w64 (9223372036854775807 - v1)))))
theorem g_sat_Add_w {a0 : Int} {a1 : Int} {r : Int} (h : g_sat_Add a0 a1 = some r) : PCall Tryz.prog 59 [zI a0, zI a1] (zI r) := by
 refine PCall.body Tryz.func59 rfl rfl rfl rfl fun base => ?_
 unfold g_sat_Add at h
 refine CWp.seq (CWp.region ?_)
 refine rn 1 rfl (COps.done [0, 1] [] rfl ?_)
 refine CWp.seq (CWp.region ?_)
 refine rn 1 rfl ?_
 obtain ⟨v1, hv1, h⟩ := bI h
 refine pCall Tryz.call103 (g_sat_number_w hv1) rfl ?_
 refine rn 1 rfl ?_
 obtain ⟨v2, hv2, h⟩ := bI h
 refine pCall Tryz.call103 (g_sat_number_w hv2) rfl ?_
 refine rn 2 rfl (COps.done [0, 1] [] rfl ?_)
 refine CWp.seq (CWp.region ?_)
 refine rn 7 rfl (COps.done [4] [] rfl ?_)
 refine CWp.ret ?_
 cases h
 exact ⟨.inl rfl, rfl, rfl⟩
def g_quant_Read_k1 (v3 : Int) (x4 : Int) : Option (Int × Int) :=
 bO (g_sat_Mul x4 v3) fun v5 =>
 some (v5, 0)
def g_quant_Read_l2 (v2 : List UInt8) (k290 : Int → Option (Int × Int)) : Nat → Int → Int → Option (Int × Int)
 | 0, _, _ => none
 | m2 + 1, x7, x8 =>
  bif decide (x7 < (v2.length : Int)) then
   bO (idx v2 x7) fun v9 =>
   bO (g_sat_Mul x8 10) fun v10 =>
   bO (g_sat_Add v10 (w64 (IntKind.u8.wrap ((v9.toNat : Int) - 48)))) fun v11 =>
   (g_quant_Read_l2 v2 k290 m2) (w64 (x7 + 1)) v11
  else
   k290 x8
def g_quant_Read (a0 : List UInt8) : Option (Int × Int) :=
 bO (trimO a0 [48, 49, 50, 51, 52, 53, 54, 55, 56, 57]) fun v1 =>
 bO (slO a0 0 (w64 ((a0.length : Int) - (v1.length : Int)))) fun v2 =>
 bO (g_quant_Unit v1) fun v3 =>
 bif (v2 == ([] : List UInt8)) || (v3 == 0) then
  some (0, 2)
 else
  bO (bytesO v2) fun _v6 =>
  g_quant_Read_l2 v2 (g_quant_Read_k1 v3) FUEL 0 0
theorem g_quant_Read_w {a0 : List UInt8} {r : Int × Int} (h : g_quant_Read a0 = some r) : PCall Tryz.prog 34 [.str a0] (.tuple [zI r.1, zI r.2]) := by
 refine PCall.body Tryz.func34 rfl rfl rfl rfl fun base => ?_
 unfold g_quant_Read at h
 refine CWp.seq (CWp.region ?_)
 refine rn 2 rfl (COps.done [0] [] rfl ?_)
 refine CWp.seq (CWp.region ?_)
 refine rn 1 rfl ?_
 obtain ⟨v1, hv1, h⟩ := bI h
 refine pCall Tryz.call57 (trimO_w hv1) rfl ?_
 refine rn 1 rfl (COps.done [0, 4] [] rfl ?_)
 refine CWp.seq (CWp.region ?_)
 obtain ⟨v2, hv2, h⟩ := bI h
 refine rn 6 rfl ?_
 refine rd (rSub hv2) ?_
 refine rn 1 rfl (COps.done [4, 5] [] rfl ?_)
 refine CWp.seq (CWp.region ?_)
 refine rn 1 rfl ?_
 obtain ⟨v3, hv3, h⟩ := bI h
 refine pCall Tryz.call58 (g_quant_Unit_w hv3) rfl ?_
 refine rn 1 rfl (COps.done [5, 6] [] rfl ?_)
 refine CWp.seq (CWp.seq (CWp.region ?_))
 refine rn 6 rfl (COps.done [5, 6, 26] [] rfl ?_)
 refine CWp.cond h rfl (fun h => ?_) (fun h => ?_)
 ·refine CWp.seq (CWp.region ?_)
  refine rn 2 rfl (COps.done [2, 3] [] rfl ?_)
  refine CWp.ret ?_
  cases h
  exact ⟨.inl rfl, rfl, rfl⟩
 ·refine CWp.skip ?_
  refine CWp.seq (CWp.region ?_)
  refine rn 1 rfl (COps.done [5, 6, 7] [] rfl ?_)
  refine CWp.mid (fun e => ∃ x4, e = ⟨[(6, [], zI v3), (7, [], zI x4)], [], [], [], base⟩ ∧ g_quant_Read_k1 v3 x4 = some r) ?_ ?_
  ·refine CWp.seq (CWp.region ?_)
   obtain ⟨v6, hv6, h⟩ := bI h
   refine rn 1 rfl ?_
   refine cBytes (bytesO_ok hv6).1 ?_
   refine rh 2 [v2.length] [] rfl ⟨List.length_map .., trivial⟩ ?_
   refine COps.done [6, 7, 28, 29, 30] [] rfl ?_
   refine CWp.block ?_
   refine CWp.loop (fun m2 e => ∃ x7 x8, e = ⟨[(6, [], zI v3), (7, [], zI x8), (28, [], .list false 5 (v2.map zU8)), (29, [], zI (v2.length : Int)), (30, [], zI x7)], [], [], [], base⟩ ∧ g_quant_Read_l2 v2 (g_quant_Read_k1 v3) m2 x7 x8 = some r) FUEL ⟨_, _, rfl, h⟩ ?_ ?_
   ·rintro m2 _ ⟨x7, x8, rfl, h⟩
    rw [g_quant_Read_l2] at h
    refine CWp.seq (CWp.region ?_)
    refine rn 1 rfl (COps.done [6, 7, 28, 29, 30, 31] [] rfl ?_)
    refine CWp.seq ?_
    refine CWp.cond h rfl (fun h => ?_) (fun h => ?_)
    ·refine CWp.skip ?_
     refine CWp.seq (CWp.block ?_)
     refine CWp.seq (CWp.region ?_)
     obtain ⟨v9, hv9, h⟩ := bI h
     refine rd (rIx hv9) ?_
     refine rn 2 rfl (COps.done [6, 7, 9, 28, 29, 30] [] rfl ?_)
     refine CWp.region ?_
     refine rn 1 rfl ?_
     obtain ⟨v10, hv10, h⟩ := bI h
     refine pCall Tryz.call60 (g_sat_Mul_w hv10) rfl ?_
     refine rn 3 rfl ?_
     obtain ⟨v11, hv11, h⟩ := bI h
     refine pCall Tryz.call59 (g_sat_Add_w hv11) rfl ?_
     refine rn 1 rfl (COps.done [6, 7, 28, 29, 30] [] rfl ?_)
     refine CWp.region ?_
     refine rn 2 rfl (COps.done [6, 7, 28, 29, 30] [] rfl ?_)
     exact ⟨_, _, rfl, h⟩
    ·refine CWp.keep [6, 7] [] rfl ?_
     refine CWp.exit ?_
     exact ⟨_, rfl, h⟩
   ·rintro _ ⟨_, _, _, h⟩
    rw [g_quant_Read_l2] at h; cases h
  ·rintro _ ⟨x4, rfl, h⟩
   unfold g_quant_Read_k1 at h
   refine CWp.seq (CWp.region ?_)
   refine rn 2 rfl ?_
   obtain ⟨v5, hv5, h⟩ := bI h
   refine pCall Tryz.call60 (g_sat_Mul_w hv5) rfl ?_
   refine rn 2 rfl (COps.done [2, 3] [] rfl ?_)
   refine CWp.ret ?_
   cases h
   exact ⟨.inl rfl, rfl, rfl⟩
def g_script_line_quantity (a0 : Sline) : Option (Int × Sline) :=
 bO (gq2 a0) fun v1 =>
 bO (g_quant_Read v1.1) fun v2 =>
 some (v2.1, (⟨v1.2.l, v1.2.bad || (v2.2 != 0)⟩ : Sline))
theorem g_script_line_quantity_w {a0 : Sline} {i0 : Nat} {r : Int × Sline} (h : g_script_line_quantity a0 = some r) : FCall Tryz.prog 111 [.gptr i0 0] [(i0, [.list false 81 (a0.l.map eSField), zB a0.bad])] (fun v outs => v = zI r.1 ∧ outs = [(i0, [.list false 81 (r.2.l.map eSField), zB r.2.bad])]) := by
 refine FCall.of Tryz.func111 rfl rfl rfl rfl fun base => ?_
 unfold g_script_line_quantity at h
 refine CWp.seq (CWp.region ?_)
 refine rn 1 rfl (COps.done [0] [] rfl ?_)
 refine CWp.seq (CWp.region ?_)
 refine rn 1 rfl ?_
 obtain ⟨v1, hv1, h⟩ := bI h
 refine cCall [0] Tryz.call75 (g_script_line_text_w hv1) rfl rfl ?_
 rintro _ _ ⟨rfl, rfl⟩
 obtain ⟨v2, hv2, h⟩ := bI h
 refine pCall Tryz.call34 (g_quant_Read_w hv2) rfl ?_
 refine rn 5 rfl (COps.done [0, 3, 4] [] rfl ?_)
 refine CWp.seq (CWp.region ?_)
 refine rh 11 [0] [] rfl ⟨rfl, trivial⟩ ?_
 refine COps.keep [3, 19, 21] [] rfl ?_
 refine rh 1 [0] [] rfl ⟨rfl, trivial⟩ ?_
 refine COps.done [3] [] rfl ?_
 refine CWp.seq (CWp.region ?_)
 refine rn 2 rfl (COps.done [2] [] rfl ?_)
 refine CWp.ret ?_
 cases h
 exact ⟨.inl rfl, _, [0], _, _, rfl, rfl, rfl, rfl, rfl⟩
def g_script_in (a0 : Int) : Option Bool :=
 some ((decide (a0 ≥ (-1099511627776))) && (decide (a0 ≤ 1099511627776)))
theorem g_script_in_w {a0 : Int} {r : Bool} (h : g_script_in a0 = some r) : PCall Tryz.prog 114 [zI a0] (zB r) := by
 refine PCall.body Tryz.func114 rfl rfl rfl rfl fun base => ?_
 unfold g_script_in at h
 refine CWp.seq (CWp.region ?_)
 refine rn 1 rfl (COps.done [0] [] rfl ?_)
 refine CWp.seq (CWp.region ?_)
 refine rn 7 rfl (COps.done [2] [] rfl ?_)
 refine CWp.ret ?_
 cases h
 exact ⟨.inl rfl, rfl, rfl⟩
def g_script_line_whole (a0 : Sline) : Option (Int × Sline) :=
 bO (gq2 a0) fun v1 =>
 bO (atoiO v1.1) fun v2 =>
 bO (bif (v1.2.bad || (!v2.2)) then some default else (itoaO v2.1)) fun v3 =>
 bO (bif ((v1.2.bad || (!v2.2)) || (!(v3 == v1.1))) then some default else (g_script_in v2.1)) fun v4 =>
 some (v2.1, (⟨v1.2.l, ((v1.2.bad || (!v2.2)) || (!(v3 == v1.1))) || (!v4)⟩ : Sline))
theorem g_script_line_whole_w {a0 : Sline} {i0 : Nat} {r : Int × Sline} (h : g_script_line_whole a0 = some r) : FCall Tryz.prog 78 [.gptr i0 0] [(i0, [.list false 81 (a0.l.map eSField), zB a0.bad])] (fun v outs => v = zI r.1 ∧ outs = [(i0, [.list false 81 (r.2.l.map eSField), zB r.2.bad])]) := by
 refine FCall.of Tryz.func78 rfl rfl rfl rfl fun base => ?_
 unfold g_script_line_whole at h
 refine CWp.seq (CWp.region ?_)
 refine rn 1 rfl (COps.done [0] [] rfl ?_)
 refine CWp.seq (CWp.region ?_)
 refine rn 1 rfl ?_
 obtain ⟨v1, hv1, h⟩ := bI h
 refine cCall [0] Tryz.call75 (g_script_line_text_w hv1) rfl rfl ?_
 rintro _ _ ⟨rfl, rfl⟩
 refine rn 1 rfl (COps.done [0, 3] [] rfl ?_)
 refine CWp.seq (CWp.region ?_)
 refine rn 1 rfl ?_
 obtain ⟨v2, hv2, h⟩ := bI h
 refine cCall [] Tryz.call113 (atoiO_w hv2) rfl rfl ?_
 rintro _ _ ⟨tev2, pev2, rfl, rfl⟩
 refine rn 5 rfl (COps.done [0, 3, 4, 5] [] rfl ?_)
 refine CWp.seq (CWp.region ?_)
 refine rh 7 [0] [] rfl ⟨rfl, trivial⟩ ?_
 refine rdg 18 false [] (fun _ => rErr Tryz.underlying132) ?_
 refine rn 3 rfl ?_
 refine COps.keepG [3, 4, 13, 22, 23] rfl ?_
 obtain ⟨v3, hv3, h⟩ := bI h
 refine pCallg 22 false [] Tryz.call70 (fun ht => itoaO_w (gdf hv3 (ht.1 _ rfl))) rfl ?_
 refine rn 5 rfl ?_
 refine COps.keepG [4, 13, 28, 29] rfl ?_
 obtain ⟨v4, hv4, h⟩ := bI h
 refine pCallg 28 false [] Tryz.call114 (fun ht => g_script_in_w (gdf hv4 (ht.1 _ rfl))) rfl ?_
 refine rn 4 rfl ?_
 refine COps.keep [4, 32, 34] [] rfl ?_
 refine rh 1 [0] [] rfl ⟨rfl, trivial⟩ ?_
 refine COps.done [4] [] rfl ?_
 refine CWp.seq (CWp.region ?_)
 refine rn 2 rfl (COps.done [2] [] rfl ?_)
 refine CWp.ret ?_
 cases h
 exact ⟨.inl rfl, _, [0], _, _, rfl, rfl, rfl, rfl, rfl⟩
def g_script_line_one (a0 : Sline) (a1 : List UInt8) (a2 : List UInt8) : Option (Bool × Sline) :=
 bO (gq2 a0) fun v1 =>
 some (v1.1 == a1, (⟨v1.2.l, v1.2.bad || ((!(v1.1 == a1)) && (!(v1.1 == a2)))⟩ : Sline))
theorem g_script_line_one_w {a0 : Sline} {a1 : List UInt8} {a2 : List UInt8} {i0 : Nat} {r : Bool × Sline} (h : g_script_line_one a0 a1 a2 = some r) : FCall Tryz.prog 81 [.gptr i0 0, .str a1, .str a2] [(i0, [.list false 81 (a0.l.map eSField), zB a0.bad])] (fun v outs => v = zB r.1 ∧ outs = [(i0, [.list false 81 (r.2.l.map eSField), zB r.2.bad])]) := by
 refine FCall.of Tryz.func81 rfl rfl rfl rfl fun base => ?_
 unfold g_script_line_one at h
 refine CWp.seq (CWp.region ?_)
 refine rn 1 rfl (COps.done [0, 1, 2] [] rfl ?_)
 refine CWp.seq (CWp.region ?_)
 refine rn 1 rfl ?_
 obtain ⟨v1, hv1, h⟩ := bI h
 refine cCall [0] Tryz.call75 (g_script_line_text_w hv1) rfl rfl ?_
 rintro _ _ ⟨rfl, rfl⟩
 refine rn 1 rfl (COps.done [0, 1, 2, 7] [] rfl ?_)
 refine CWp.seq (CWp.region ?_)
 refine rh 17 [0] [] rfl ⟨rfl, trivial⟩ ?_
 refine COps.keep [1, 7, 24, 26] [] rfl ?_
 refine rh 1 [0] [] rfl ⟨rfl, trivial⟩ ?_
 refine COps.done [1, 7] [] rfl ?_
 refine CWp.seq (CWp.region ?_)
 refine rn 4 rfl (COps.done [6] [] rfl ?_)
 refine CWp.ret ?_
 cases h
 exact ⟨.inl rfl, _, [0], _, _, rfl, rfl, rfl, rfl, rfl⟩
def g_script_line_quantities_k1 (x1 : Int) (x2 : Int) (x3 : Int) (x4 : List SField) (x5 : Bool) : Option ((V3 Int) × Sline) :=
 some ((⟨x1, x2, x3⟩ : V3 Int), (⟨x4, x5⟩ : Sline))
def g_script_line_quantities (a0 : Sline) : Option ((V3 Int) × Sline) :=
 bO (g_script_line_quantity a0) fun v6 =>
 bO (g_script_line_quantity v6.2) fun v7 =>
 bO (g_script_line_quantity v7.2) fun v8 =>
 g_script_line_quantities_k1 v6.1 v7.1 v8.1 v8.2.l v8.2.bad
theorem g_script_line_quantities_w {a0 : Sline} {i0 : Nat} {r : (V3 Int) × Sline} (h : g_script_line_quantities a0 = some r) : FCall Tryz.prog 112 [.gptr i0 0] [(i0, [.list false 81 (a0.l.map eSField), zB a0.bad])] (fun v outs => v = e3_Int r.1 ∧ outs = [(i0, [.list false 81 (r.2.l.map eSField), zB r.2.bad])]) := by
 refine FCall.of Tryz.func112 rfl rfl rfl rfl fun base => ?_
 unfold g_script_line_quantities at h
 refine CWp.seq (CWp.region ?_)
 refine rn 1 rfl ?_
 refine COps.done [0, 2] [2] rfl ?_
 refine CWp.seq (CWp.region ?_)
 refine rn 1 rfl ?_
 refine COps.done [0, 2, 3] [2, 3] rfl ?_
 refine CWp.mid (fun e => ∃ x1 x2 x3 x4 x5, e = ⟨[(2, [], .lptr 2 0), (3, [], .lptr 3 0)], [], [(2, [zI 0, zI 0, zI 0]), (3, [zI x1, zI x2, zI x3])], [(i0, [.list false 81 (x4.map eSField), zB x5])], base⟩ ∧ g_script_line_quantities_k1 x1 x2 x3 x4 x5 = some r) ?_ ?_
 ·refine CWp.seq (CWp.region ?_)
  refine rn 1 rfl ?_
  refine COps.done [0, 2, 3, 5] [2, 3] rfl ?_
  refine CWp.block ?_
  refine CWp.unroll 4 ?_
  refine crd ?_
  refine CWp.seq (CWp.region ?_)
  refine rn 1 rfl ?_
  refine COps.done [0, 2, 3, 5, 6] [2, 3] rfl ?_
  refine CWp.seq ?_
  refine CWp.condT rfl (by decide) ?_
  refine CWp.skip ?_
  refine CWp.seq (CWp.block ?_)
  refine CWp.seq (CWp.region ?_)
  refine rn 2 rfl ?_
  refine COps.done [0, 2, 3, 4, 5] [2, 3] rfl ?_
  refine CWp.region ?_
  refine rn 2 rfl ?_
  obtain ⟨v6, hv6, h⟩ := bI h
  refine cCall [0] Tryz.call111 (g_script_line_quantity_w hv6) rfl rfl ?_
  rintro _ _ ⟨rfl, rfl⟩
  refine rn 2 rfl ?_
  refine COps.done [0, 2, 3, 5] [2, 3] rfl ?_
  refine CWp.region ?_
  refine rn 2 rfl ?_
  refine COps.done [0, 2, 3, 5] [2, 3] rfl ?_
  refine crd ?_
  refine CWp.seq (CWp.region ?_)
  refine rn 1 rfl ?_
  refine COps.done [0, 2, 3, 5, 6] [2, 3] rfl ?_
  refine CWp.seq ?_
  refine CWp.condT rfl (by decide) ?_
  refine CWp.skip ?_
  refine CWp.seq (CWp.block ?_)
  refine CWp.seq (CWp.region ?_)
  refine rn 2 rfl ?_
  refine COps.done [0, 2, 3, 4, 5] [2, 3] rfl ?_
  refine CWp.region ?_
  refine rn 2 rfl ?_
  obtain ⟨v7, hv7, h⟩ := bI h
  refine cCall [0] Tryz.call111 (g_script_line_quantity_w hv7) rfl rfl ?_
  rintro _ _ ⟨rfl, rfl⟩
  refine rn 2 rfl ?_
  refine COps.done [0, 2, 3, 5] [2, 3] rfl ?_
  refine CWp.region ?_
  refine rn 2 rfl ?_
  refine COps.done [0, 2, 3, 5] [2, 3] rfl ?_
  refine crd ?_
  refine CWp.seq (CWp.region ?_)
  refine rn 1 rfl ?_
  refine COps.done [0, 2, 3, 5, 6] [2, 3] rfl ?_
  refine CWp.seq ?_
  refine CWp.condT rfl (by decide) ?_
  refine CWp.skip ?_
  refine CWp.seq (CWp.block ?_)
  refine CWp.seq (CWp.region ?_)
  refine rn 2 rfl ?_
  refine COps.done [0, 2, 3, 4, 5] [2, 3] rfl ?_
  refine CWp.region ?_
  refine rn 2 rfl ?_
  obtain ⟨v8, hv8, h⟩ := bI h
  refine cCall [0] Tryz.call111 (g_script_line_quantity_w hv8) rfl rfl ?_
  rintro _ _ ⟨rfl, rfl⟩
  refine rn 2 rfl ?_
  refine COps.done [0, 2, 3, 5] [2, 3] rfl ?_
  refine CWp.region ?_
  refine rn 2 rfl ?_
  refine COps.done [0, 2, 3, 5] [2, 3] rfl ?_
  refine crd ?_
  refine CWp.seq (CWp.region ?_)
  refine rn 1 rfl ?_
  refine COps.done [0, 2, 3, 5, 6] [2, 3] rfl ?_
  refine CWp.seq ?_
  refine CWp.condF rfl (by decide) ?_
  refine CWp.keep [2, 3] [2, 3] rfl ?_
  refine CWp.exit ?_
  exact ⟨_, _, _, _, _, rfl, h⟩
 ·rintro _ ⟨x1, x2, x3, x4, x5, rfl, h⟩
  unfold g_script_line_quantities_k1 at h
  refine CWp.seq (CWp.region ?_)
  refine rn 2 rfl ?_
  refine COps.done [2] [2] rfl ?_
  refine CWp.ret ?_
  cases h
  exact ⟨.inl rfl, _, [0], _, _, rfl, rfl, rfl, rfl, rfl⟩
def g_script_line_more (a0 : Sline) : Option Bool :=
 some ((!a0.bad) && (decide ((a0.l.length : Int) > 0)))
theorem g_script_line_more_w {a0 : Sline} {i0 : Nat} {r : Bool} (h : g_script_line_more a0 = some r) : FCall Tryz.prog 80 [.gptr i0 0] [(i0, [.list false 81 (a0.l.map eSField), zB a0.bad])] (fun v outs => v = zB r ∧ outs = [(i0, [.list false 81 (a0.l.map eSField), zB a0.bad])]) := by
 refine FCall.of Tryz.func80 rfl rfl rfl rfl fun base => ?_
 unfold g_script_line_more at h
 refine CWp.seq (CWp.region ?_)
 refine rn 1 rfl (COps.done [0] [] rfl ?_)
 refine CWp.seq (CWp.region ?_)
 refine rh 14 [0, 0, a0.l.length] [] rfl ⟨List.length_map .., rfl, rfl, trivial⟩ ?_
 refine COps.done [2] [] rfl ?_
 refine CWp.ret ?_
 cases h
 exact ⟨.inl rfl, _, [0], _, _, rfl, rfl, rfl, rfl, rfl⟩
def g_script_line_pod (a0 : Sline) : Option (SPod × Sline) :=
 bO (g_script_line_word a0) fun v1 =>
 bO (g_script_line_word v1.2) fun v2 =>
 bO (g_script_line_quantity v2.2) fun v3 =>
 bO (g_script_line_whole v3.2) fun v4 =>
 bO (g_script_line_one v4.2 [99, 114, 105, 116, 105, 99, 97, 108] [112, 108, 97, 105, 110]) fun v5 =>
 bO (g_script_line_quantities v5.2) fun v6 =>
 bO (g_script_line_more v6.2) fun v7 =>
 bif v7 then
  bO (g_script_line_quantities v6.2) fun v8 =>
  some ((⟨v1.1, v4.1, v5.1, v6.1, v8.1, v2.1, v3.1⟩ : SPod), v8.2)
 else
  some ((⟨v1.1, v4.1, v5.1, v6.1, (⟨0, 0, 0⟩ : V3 Int), v2.1, v3.1⟩ : SPod), v6.2)
theorem g_script_line_pod_w {a0 : Sline} {i0 : Nat} {r : SPod × Sline} (h : g_script_line_pod a0 = some r) : FCall Tryz.prog 76 [.gptr i0 0] [(i0, [.list false 81 (a0.l.map eSField), zB a0.bad])] (fun v outs => v = eSPod r.1 ∧ outs = [(i0, [.list false 81 (r.2.l.map eSField), zB r.2.bad])]) := by
 refine FCall.of Tryz.func76 rfl rfl rfl rfl fun base => ?_
 unfold g_script_line_pod at h
 refine CWp.seq (CWp.region ?_)
 refine rn 1 rfl ?_
 refine COps.done [0, 2] [2] rfl ?_
 refine CWp.seq (CWp.region ?_)
 refine rn 1 rfl ?_
 obtain ⟨v1, hv1, h⟩ := bI h
 refine cCall [0] Tryz.call77 (g_script_line_word_w hv1) rfl rfl ?_
 rintro _ _ ⟨rfl, rfl⟩
 refine rn 3 rfl ?_
 refine COps.done [0, 2, 3] [2, 3] rfl ?_
 refine CWp.seq (CWp.region ?_)
 refine rn 1 rfl ?_
 obtain ⟨v2, hv2, h⟩ := bI h
 refine cCall [0] Tryz.call77 (g_script_line_word_w hv2) rfl rfl ?_
 rintro _ _ ⟨rfl, rfl⟩
 refine rn 2 rfl ?_
 refine COps.done [0, 2, 3] [2, 3] rfl ?_
 refine CWp.seq (CWp.region ?_)
 refine rn 1 rfl ?_
 obtain ⟨v3, hv3, h⟩ := bI h
 refine cCall [0] Tryz.call111 (g_script_line_quantity_w hv3) rfl rfl ?_
 rintro _ _ ⟨rfl, rfl⟩
 refine rn 2 rfl ?_
 refine COps.done [0, 2, 3] [2, 3] rfl ?_
 refine CWp.seq (CWp.region ?_)
 refine rn 1 rfl ?_
 obtain ⟨v4, hv4, h⟩ := bI h
 refine cCall [0] Tryz.call78 (g_script_line_whole_w hv4) rfl rfl ?_
 rintro _ _ ⟨rfl, rfl⟩
 refine rn 2 rfl ?_
 refine COps.done [0, 2, 3] [2, 3] rfl ?_
 refine CWp.seq (CWp.region ?_)
 refine rn 1 rfl ?_
 obtain ⟨v5, hv5, h⟩ := bI h
 refine cCall [0] Tryz.call81 (g_script_line_one_w hv5) rfl rfl ?_
 rintro _ _ ⟨rfl, rfl⟩
 refine rn 2 rfl ?_
 refine COps.done [0, 2, 3] [2, 3] rfl ?_
 refine CWp.seq (CWp.region ?_)
 refine rn 1 rfl ?_
 obtain ⟨v6, hv6, h⟩ := bI h
 refine cCall [0] Tryz.call112 (g_script_line_quantities_w hv6) rfl rfl ?_
 rintro _ _ ⟨rfl, rfl⟩
 refine rn 2 rfl ?_
 refine COps.done [0, 2, 3] [2, 3] rfl ?_
 refine CWp.seq (CWp.seq (CWp.region ?_))
 refine rn 1 rfl ?_
 obtain ⟨v7, hv7, h⟩ := bI h
 refine cCall [0] Tryz.call80 (g_script_line_more_w hv7) rfl rfl ?_
 rintro _ _ ⟨rfl, rfl⟩
 refine COps.done [0, 2, 3, 23] [2, 3] rfl ?_
 refine CWp.cond h rfl (fun h => ?_) (fun h => ?_)
 ·refine CWp.region ?_
  refine rn 1 rfl ?_
  obtain ⟨v8, hv8, h⟩ := bI h
  refine cCall [0] Tryz.call112 (g_script_line_quantities_w hv8) rfl rfl ?_
  rintro _ _ ⟨rfl, rfl⟩
  refine rn 2 rfl ?_
  refine COps.done [2, 3] [2, 3] rfl ?_
  refine CWp.seq (CWp.region ?_)
  refine rn 2 rfl ?_
  refine COps.done [2] [2] rfl ?_
  refine CWp.ret ?_
  cases h
  exact ⟨.inl rfl, _, [0], _, _, rfl, rfl, rfl, rfl, rfl⟩
 ·refine CWp.skip ?_
  refine CWp.seq (CWp.region ?_)
  refine rn 2 rfl ?_
  refine COps.done [2] [2] rfl ?_
  refine CWp.ret ?_
  cases h
  exact ⟨.inl rfl, _, [0], _, _, rfl, rfl, rfl, rfl, rfl⟩
def g_math_NaN : Option Nat :=
 some (Int.toNat 9221120237041090561)
theorem g_math_NaN_w {r : Nat} (h : g_math_NaN = some r) : PCall Tryz.prog 32 [] (zF r) := by
 refine PCall.body Tryz.func32 rfl rfl rfl rfl fun base => ?_
 unfold g_math_NaN at h
 refine CWp.seq (CWp.region ?_)
 refine rn 1 rfl (COps.done [] [] rfl ?_)
 refine CWp.seq (CWp.region ?_)
 refine rd (rExt (f64from _)) ?_
 refine rn 1 rfl (COps.done [0] [] rfl ?_)
 refine CWp.ret ?_
 cases h
 exact ⟨.inl rfl, rfl, rfl⟩
def g_math_Inf_k1 (x1 : Int) : Option Nat :=
 some (Int.toNat x1)
def g_math_Inf (a0 : Int) : Option Nat :=
 bif decide (a0 ≥ 0) then
  g_math_Inf_k1 9218868437227405312
 else
  g_math_Inf_k1 18442240474082181120
theorem g_math_Inf_w {a0 : Int} {r : Nat} (h : g_math_Inf a0 = some r) : PCall Tryz.prog 33 [zI a0] (zF r) := by
 refine PCall.body Tryz.func33 rfl rfl rfl rfl fun base => ?_
 unfold g_math_Inf at h
 refine CWp.seq (CWp.region ?_)
 refine rn 1 rfl (COps.done [0] [] rfl ?_)
 refine CWp.seq (CWp.region ?_)
 refine rn 1 rfl (COps.done [0] [] rfl ?_)
 refine CWp.mid (fun e => ∃ x1, e = ⟨[(3, [], .lit (.int .u64 x1))], [], [], [], base⟩ ∧ g_math_Inf_k1 x1 = some r) ?_ ?_
 ·refine CWp.seq (CWp.region ?_)
  refine rn 2 rfl (COps.done [5] [] rfl ?_)
  refine CWp.cond h rfl (fun h => ?_) (fun h => ?_)
  ·refine CWp.region ?_
   refine rn 1 rfl (COps.done [3] [] rfl ?_)
   exact ⟨_, rfl, h⟩
  ·refine CWp.region ?_
   refine rn 1 rfl (COps.done [3] [] rfl ?_)
   exact ⟨_, rfl, h⟩
 ·rintro _ ⟨x1, rfl, h⟩
  unfold g_math_Inf_k1 at h
  refine CWp.seq (CWp.region ?_)
  refine rn 1 rfl ?_
  refine rd (rExt (f64from _)) ?_
  refine rn 1 rfl (COps.done [2] [] rfl ?_)
  refine CWp.ret ?_
  cases h
  exact ⟨.inl rfl, rfl, rfl⟩
def g_math_Copysign (a0 : Nat) (a1 : Nat) : Option Nat :=
 some (Int.toNat (IntKind.u64.wrap (BitVec.ofInt 64 (IntKind.u64.wrap (BitVec.ofInt 64 (a0 : Int) &&& ~~~BitVec.ofInt 64 9223372036854775808).toNat) ||| BitVec.ofInt 64 (IntKind.u64.wrap (BitVec.ofInt 64 (a1 : Int) &&& BitVec.ofInt 64 9223372036854775808).toNat)).toNat))
theorem g_math_Copysign_w {a0 : Nat} {a1 : Nat} {r : Nat} (h : g_math_Copysign a0 a1 = some r) : PCall Tryz.prog 30 [zF a0, zF a1] (zF r) := by
 refine PCall.body Tryz.func30 rfl rfl rfl rfl fun base => ?_
 unfold g_math_Copysign at h
 refine CWp.seq (CWp.region ?_)
 refine rn 1 rfl (COps.done [0, 1] [] rfl ?_)
 refine CWp.seq (CWp.region ?_)
 refine rn 1 rfl ?_
 refine rd (rExt (f64bits _)) ?_
 refine rn 2 rfl ?_
 refine rd (rExt (f64bits _)) ?_
 refine rn 2 rfl ?_
 refine rd (rExt (f64from _)) ?_
 refine rn 1 rfl (COps.done [4] [] rfl ?_)
 refine CWp.ret ?_
 cases h
 exact ⟨.inl rfl, rfl, rfl⟩
def gq4 (a0 : List UInt8) : Option (Nat × Bool) :=
 bif a0 == [110, 97, 110] then
  bO (g_math_NaN) fun v1 =>
  some (v1, true)
 else
  bif a0 == [105, 110, 102] then
   bO (g_math_Inf 1) fun v2 =>
   some (v2, true)
  else
   bif a0 == [45, 105, 110, 102] then
    bO (g_math_Inf (-1)) fun v3 =>
    some (v3, true)
   else
    bif a0 == [45, 48] then
     bO (g_math_Copysign 0 13830554455654793216) fun v4 =>
     some (v4, true)
    else
     bO (g_quant_Read a0) fun v5 =>
     bif (v5.2 != 0) || (decide (v5.1 > 9007199254740992)) then
      some (0, false)
     else
      some (FloatKind.f64.nearest v5.1, true)
theorem g_script_Amount_w {a0 : List UInt8} {r : Nat × Bool} (h : gq4 a0 = some r) : PCall Tryz.prog 12 [.str a0] (.tuple [zF r.1, zB r.2]) := by
 refine PCall.body Tryz.func12 rfl rfl rfl rfl fun base => ?_
 unfold gq4 at h
 refine CWp.seq (CWp.region ?_)
 refine rn 2 rfl (COps.done [0] [] rfl ?_)
 refine CWp.seq (CWp.seq (CWp.region ?_))
 refine rn 1 rfl (COps.done [0, 6] [] rfl ?_)
 refine CWp.block ?_
 refine CWp.seq (CWp.region ?_)
 refine rn 2 rfl (COps.done [0, 6, 7] [] rfl ?_)
 refine CWp.cond h rfl (fun h => ?_) (fun h => ?_)
 ·refine CWp.seq (CWp.region ?_)
  obtain ⟨v1, hv1, h⟩ := bI h
  refine pCall Tryz.call32 (g_math_NaN_w hv1) rfl ?_
  refine rn 2 rfl (COps.done [2, 3] [] rfl ?_)
  refine CWp.ret ?_
  cases h
  exact ⟨.inl rfl, rfl, rfl⟩
 ·refine CWp.seq (CWp.region ?_)
  refine rn 2 rfl (COps.done [0, 6, 10] [] rfl ?_)
  refine CWp.cond h rfl (fun h => ?_) (fun h => ?_)
  ·refine CWp.seq (CWp.region ?_)
   obtain ⟨v2, hv2, h⟩ := bI h
   refine pCall Tryz.call33 (g_math_Inf_w hv2) rfl ?_
   refine rn 2 rfl (COps.done [2, 3] [] rfl ?_)
   refine CWp.ret ?_
   cases h
   exact ⟨.inl rfl, rfl, rfl⟩
  ·refine CWp.seq (CWp.region ?_)
   refine rn 2 rfl (COps.done [0, 6, 13] [] rfl ?_)
   refine CWp.cond h rfl (fun h => ?_) (fun h => ?_)
   ·refine CWp.seq (CWp.region ?_)
    obtain ⟨v3, hv3, h⟩ := bI h
    refine pCall Tryz.call33 (g_math_Inf_w hv3) rfl ?_
    refine rn 2 rfl (COps.done [2, 3] [] rfl ?_)
    refine CWp.ret ?_
    cases h
    exact ⟨.inl rfl, rfl, rfl⟩
   ·refine CWp.seq (CWp.region ?_)
    refine rn 2 rfl (COps.done [0, 16] [] rfl ?_)
    refine CWp.cond h rfl (fun h => ?_) (fun h => ?_)
    ·refine CWp.seq (CWp.region ?_)
     obtain ⟨v4, hv4, h⟩ := bI h
     refine pCall Tryz.call30 (g_math_Copysign_w hv4) rfl ?_
     refine rn 2 rfl (COps.done [2, 3] [] rfl ?_)
     refine CWp.ret ?_
     cases h
     exact ⟨.inl rfl, rfl, rfl⟩
    ·refine CWp.skip ?_
     refine CWp.seq (CWp.region ?_)
     refine rn 1 rfl ?_
     obtain ⟨v5, hv5, h⟩ := bI h
     refine pCall Tryz.call34 (g_quant_Read_w hv5) rfl ?_
     refine rn 5 rfl (COps.done [4, 5] [] rfl ?_)
     refine CWp.seq (CWp.seq (CWp.region ?_))
     refine rn 6 rfl (COps.done [4, 29] [] rfl ?_)
     refine CWp.cond h rfl (fun h => ?_) (fun h => ?_)
     ·refine CWp.seq (CWp.region ?_)
      refine rn 2 rfl (COps.done [2, 3] [] rfl ?_)
      refine CWp.ret ?_
      cases h
      exact ⟨.inl rfl, rfl, rfl⟩
     ·refine CWp.skip ?_
      refine CWp.seq (CWp.region ?_)
      refine rn 4 rfl (COps.done [2, 3] [] rfl ?_)
      refine CWp.ret ?_
      cases h
      exact ⟨.inl rfl, rfl, rfl⟩
def g_script_line_amounts_k1 (x1 : Nat) (x2 : Nat) (x3 : Nat) (x4 : List SField) (x5 : Bool) : Option ((V3 Nat) × Sline) :=
 some ((⟨x1, x2, x3⟩ : V3 Nat), (⟨x4, x5⟩ : Sline))
def g_script_line_amounts (a0 : Sline) : Option ((V3 Nat) × Sline) :=
 bO (gq2 a0) fun v6 =>
 bO (gq4 v6.1) fun v7 =>
 bO (gq2 (⟨v6.2.l, v6.2.bad || (!v7.2)⟩ : Sline)) fun v8 =>
 bO (gq4 v8.1) fun v9 =>
 bO (gq2 (⟨v8.2.l, v8.2.bad || (!v9.2)⟩ : Sline)) fun v10 =>
 bO (gq4 v10.1) fun v11 =>
 g_script_line_amounts_k1 v7.1 v9.1 v11.1 v10.2.l (v10.2.bad || (!v11.2))
theorem g_script_line_amounts_w {a0 : Sline} {i0 : Nat} {r : (V3 Nat) × Sline} (h : g_script_line_amounts a0 = some r) : FCall Tryz.prog 79 [.gptr i0 0] [(i0, [.list false 81 (a0.l.map eSField), zB a0.bad])] (fun v outs => v = e3_Nat r.1 ∧ outs = [(i0, [.list false 81 (r.2.l.map eSField), zB r.2.bad])]) := by
 refine FCall.of Tryz.func79 rfl rfl rfl rfl fun base => ?_
 unfold g_script_line_amounts at h
 refine CWp.seq (CWp.region ?_)
 refine rn 1 rfl ?_
 refine COps.done [0, 2] [2] rfl ?_
 refine CWp.seq (CWp.region ?_)
 refine rn 1 rfl ?_
 refine COps.done [0, 2, 3] [2, 3] rfl ?_
 refine CWp.mid (fun e => ∃ x1 x2 x3 x4 x5, e = ⟨[(2, [], .lptr 2 0), (3, [], .lptr 3 0)], [], [(2, [zF 0, zF 0, zF 0]), (3, [zF x1, zF x2, zF x3])], [(i0, [.list false 81 (x4.map eSField), zB x5])], base⟩ ∧ g_script_line_amounts_k1 x1 x2 x3 x4 x5 = some r) ?_ ?_
 ·refine CWp.seq (CWp.region ?_)
  refine rn 1 rfl ?_
  refine COps.done [0, 2, 3, 7] [2, 3] rfl ?_
  refine CWp.block ?_
  refine CWp.unroll 4 ?_
  refine crd ?_
  refine CWp.seq (CWp.region ?_)
  refine rn 1 rfl ?_
  refine COps.done [0, 2, 3, 7, 8] [2, 3] rfl ?_
  refine CWp.seq ?_
  refine CWp.condT rfl (by decide) ?_
  refine CWp.skip ?_
  refine CWp.seq (CWp.block ?_)
  refine CWp.seq (CWp.region ?_)
  refine rn 2 rfl ?_
  refine COps.done [0, 2, 3, 4, 7] [2, 3] rfl ?_
  refine CWp.seq (CWp.region ?_)
  refine rn 1 rfl ?_
  obtain ⟨v6, hv6, h⟩ := bI h
  refine cCall [0] Tryz.call75 (g_script_line_text_w hv6) rfl rfl ?_
  rintro _ _ ⟨rfl, rfl⟩
  obtain ⟨v7, hv7, h⟩ := bI h
  refine pCall Tryz.call12 (g_script_Amount_w hv7) rfl ?_
  refine rn 5 rfl ?_
  refine COps.done [0, 2, 3, 4, 5, 6, 7] [2, 3] rfl ?_
  refine CWp.late 12 (by kernel_rfl) ?_
  refine ph 12 [0] rfl ⟨rfl, trivial⟩ ?_
  refine COpsE.nil ?_
  refine COps.keep [0, 2, 3, 7, 17, 18, 26, 27] [2, 3] rfl ?_
  refine rh 4 [0] [] rfl ⟨rfl, trivial⟩ ?_
  refine COps.done [0, 2, 3, 7] [2, 3] rfl ?_
  refine CWp.region ?_
  refine rn 2 rfl ?_
  refine COps.done [0, 2, 3, 7] [2, 3] rfl ?_
  refine crd ?_
  refine CWp.seq (CWp.region ?_)
  refine rn 1 rfl ?_
  refine COps.done [0, 2, 3, 7, 8] [2, 3] rfl ?_
  refine CWp.seq ?_
  refine CWp.condT rfl (by decide) ?_
  refine CWp.skip ?_
  refine CWp.seq (CWp.block ?_)
  refine CWp.seq (CWp.region ?_)
  refine rn 2 rfl ?_
  refine COps.done [0, 2, 3, 4, 7] [2, 3] rfl ?_
  refine CWp.seq (CWp.region ?_)
  refine rn 1 rfl ?_
  obtain ⟨v8, hv8, h⟩ := bI h
  refine cCall [0] Tryz.call75 (g_script_line_text_w hv8) rfl rfl ?_
  rintro _ _ ⟨rfl, rfl⟩
  obtain ⟨v9, hv9, h⟩ := bI h
  refine pCall Tryz.call12 (g_script_Amount_w hv9) rfl ?_
  refine rn 5 rfl ?_
  refine COps.done [0, 2, 3, 4, 5, 6, 7] [2, 3] rfl ?_
  refine CWp.late 12 (by kernel_rfl) ?_
  refine ph 12 [0] rfl ⟨rfl, trivial⟩ ?_
  refine COpsE.nil ?_
  refine COps.keep [0, 2, 3, 7, 17, 18, 26, 27] [2, 3] rfl ?_
  refine rh 4 [0] [] rfl ⟨rfl, trivial⟩ ?_
  refine COps.done [0, 2, 3, 7] [2, 3] rfl ?_
  refine CWp.region ?_
  refine rn 2 rfl ?_
  refine COps.done [0, 2, 3, 7] [2, 3] rfl ?_
  refine crd ?_
  refine CWp.seq (CWp.region ?_)
  refine rn 1 rfl ?_
  refine COps.done [0, 2, 3, 7, 8] [2, 3] rfl ?_
  refine CWp.seq ?_
  refine CWp.condT rfl (by decide) ?_
  refine CWp.skip ?_
  refine CWp.seq (CWp.block ?_)
  refine CWp.seq (CWp.region ?_)
  refine rn 2 rfl ?_
  refine COps.done [0, 2, 3, 4, 7] [2, 3] rfl ?_
  refine CWp.seq (CWp.region ?_)
  refine rn 1 rfl ?_
  obtain ⟨v10, hv10, h⟩ := bI h
  refine cCall [0] Tryz.call75 (g_script_line_text_w hv10) rfl rfl ?_
  rintro _ _ ⟨rfl, rfl⟩
  obtain ⟨v11, hv11, h⟩ := bI h
  refine pCall Tryz.call12 (g_script_Amount_w hv11) rfl ?_
  refine rn 5 rfl ?_
  refine COps.done [0, 2, 3, 4, 5, 6, 7] [2, 3] rfl ?_
  refine CWp.late 12 (by kernel_rfl) ?_
  refine ph 12 [0] rfl ⟨rfl, trivial⟩ ?_
  refine COpsE.nil ?_
  refine COps.keep [0, 2, 3, 7, 17, 18, 26, 27] [2, 3] rfl ?_
  refine rh 4 [0] [] rfl ⟨rfl, trivial⟩ ?_
  refine COps.done [0, 2, 3, 7] [2, 3] rfl ?_
  refine CWp.region ?_
  refine rn 2 rfl ?_
  refine COps.done [0, 2, 3, 7] [2, 3] rfl ?_
  refine crd ?_
  refine CWp.seq (CWp.region ?_)
  refine rn 1 rfl ?_
  refine COps.done [0, 2, 3, 7, 8] [2, 3] rfl ?_
  refine CWp.seq ?_
  refine CWp.condF rfl (by decide) ?_
  refine CWp.keep [2, 3] [2, 3] rfl ?_
  refine CWp.exit ?_
  exact ⟨_, _, _, _, _, rfl, h⟩
 ·rintro _ ⟨x1, x2, x3, x4, x5, rfl, h⟩
  unfold g_script_line_amounts_k1 at h
  refine CWp.seq (CWp.region ?_)
  refine rn 2 rfl ?_
  refine COps.done [2] [2] rfl ?_
  refine CWp.ret ?_
  cases h
  exact ⟨.inl rfl, _, [0], _, _, rfl, rfl, rfl, rfl, rfl⟩
def gq5 (x2 : List SField) (x3 : Bool) (x4 : Int) (x5 : List UInt8) (x6 : Int) (x7 : Bool) (x8 : Int) (x9 : Int) (x10 : Int) (x11 : Int) (x12 : Int) (x13 : Int) (x14 : List UInt8) (x15 : Int) (x16 : List UInt8) (x17 : Int) (x18 : Nat) (x19 : Nat) (x20 : Nat) (x21 : List SUsage) (x22 : List Bool) (x23 : Int) (x24 : List Int) : Option (SAct × Sline) :=
 some ((⟨x4, (⟨x5, x6, x7, (⟨x8, x9, x10⟩ : V3 Int), (⟨x11, x12, x13⟩ : V3 Int), x14, x15⟩ : SPod), x16, (⟨x17, (⟨x18, x19, x20⟩ : V3 Nat), x21⟩ : SRaw), x22, x23, x24⟩ : SAct), (⟨x2, x3⟩ : Sline))
def g_script_line_act_l2 (v28 : Int × Sline) (v29 : (V3 Nat) × Sline) (k290 : (List SField) → Bool → Int → (List UInt8) → Int → Bool → Int → Int → Int → Int → Int → Int → (List UInt8) → Int → (List UInt8) → Int → Nat → Nat → Nat → (List SUsage) → (List Bool) → Int → (List Int) → Option (SAct × Sline)) : Nat → (List SField) → Bool → (List SUsage) → Option (SAct × Sline)
 | 0, _, _, _ => none
 | m2 + 1, x30, x31, x32 =>
  bO (g_script_line_more (⟨x30, x31⟩ : Sline)) fun v33 =>
  bif v33 then
   bO (g_script_line_word (⟨x30, x31⟩ : Sline)) fun v34 =>
   bO (g_script_line_amounts v34.2) fun v35 =>
   bO (appO x32 [(⟨v34.1, v35.1⟩ : SUsage)]) fun v36 =>
   (g_script_line_act_l2 v28 v29 k290 m2) v35.2.l v35.2.bad v36
  else
   k290 x30 x31 4 ([] : List UInt8) 0 false 0 0 0 0 0 0 ([] : List UInt8) 0 ([] : List UInt8) v28.1 v29.1.a v29.1.b v29.1.c x32 ([] : List Bool) 0 ([] : List Int)
def g_script_line_act_l3 (k390 : (List SField) → Bool → Int → (List UInt8) → Int → Bool → Int → Int → Int → Int → Int → Int → (List UInt8) → Int → (List UInt8) → Int → Nat → Nat → Nat → (List SUsage) → (List Bool) → Int → (List Int) → Option (SAct × Sline)) : Nat → (List SField) → Bool → (List Bool) → Option (SAct × Sline)
 | 0, _, _, _ => none
 | m3 + 1, x37, x38, x39 =>
  bO (g_script_line_more (⟨x37, x38⟩ : Sline)) fun v40 =>
  bif v40 then
   bO (g_script_line_one (⟨x37, x38⟩ : Sline) [111, 107] [98, 97, 100]) fun v41 =>
   bO (appO x39 [v41.1]) fun v42 =>
   (g_script_line_act_l3 k390 m3) v41.2.l v41.2.bad v42
  else
   k390 x37 x38 5 ([] : List UInt8) 0 false 0 0 0 0 0 0 ([] : List UInt8) 0 ([] : List UInt8) 0 0 0 0 ([] : List SUsage) x39 0 ([] : List Int)
def g_script_line_act_l4 (v43 : Int × Sline) (k490 : (List SField) → Bool → Int → (List UInt8) → Int → Bool → Int → Int → Int → Int → Int → Int → (List UInt8) → Int → (List UInt8) → Int → Nat → Nat → Nat → (List SUsage) → (List Bool) → Int → (List Int) → Option (SAct × Sline)) : Nat → (List SField) → Bool → (List Int) → Option (SAct × Sline)
 | 0, _, _, _ => none
 | m4 + 1, x44, x45, x46 =>
  bO (g_script_line_more (⟨x44, x45⟩ : Sline)) fun v47 =>
  bif v47 then
   bO (g_script_line_whole (⟨x44, x45⟩ : Sline)) fun v48 =>
   bO (appO x46 [v48.1]) fun v49 =>
   (g_script_line_act_l4 v43 k490 m4) v48.2.l v48.2.bad v49
  else
   k490 x44 x45 6 ([] : List UInt8) 0 false 0 0 0 0 0 0 ([] : List UInt8) 0 ([] : List UInt8) 0 0 0 0 ([] : List SUsage) ([] : List Bool) v43.1 x46
def g_script_line_act (a0 : Sline) : Option (SAct × Sline) :=
 bO (gq2 a0) fun v25 =>
 bif v25.1 == [97, 100, 109, 105, 116] then
  bO (g_script_line_pod v25.2) fun v26 =>
  gq5 v26.2.l v26.2.bad 1 v26.1.id v26.1.prio v26.1.critical v26.1.req.a v26.1.req.b v26.1.req.c v26.1.lim.a v26.1.lim.b v26.1.lim.c v26.1.image v26.1.size ([] : List UInt8) 0 0 0 0 ([] : List SUsage) ([] : List Bool) 0 ([] : List Int)
 else
  bif v25.1 == [100, 101, 108, 101, 116, 101] then
   bO (g_script_line_word v25.2) fun v27 =>
   gq5 v27.2.l v27.2.bad 2 ([] : List UInt8) 0 false 0 0 0 0 0 0 ([] : List UInt8) 0 v27.1 0 0 0 0 ([] : List SUsage) ([] : List Bool) 0 ([] : List Int)
  else
   bif v25.1 == [116, 105, 99, 107] then
    gq5 v25.2.l v25.2.bad 3 ([] : List UInt8) 0 false 0 0 0 0 0 0 ([] : List UInt8) 0 ([] : List UInt8) 0 0 0 0 ([] : List SUsage) ([] : List Bool) 0 ([] : List Int)
   else
    bif v25.1 == [115, 97, 109, 112, 108, 101] then
     bO (g_script_line_whole v25.2) fun v28 =>
     bO (g_script_line_amounts v28.2) fun v29 =>
     g_script_line_act_l2 v28 v29 gq5 FUEL v29.2.l v29.2.bad ([] : List SUsage)
    else
     bif v25.1 == [102, 101, 101, 100] then
      g_script_line_act_l3 gq5 FUEL v25.2.l v25.2.bad ([] : List Bool)
     else
      bif v25.1 == [99, 114, 97, 115, 104] then
       bO (g_script_line_whole v25.2) fun v43 =>
       g_script_line_act_l4 v43 gq5 FUEL v43.2.l v43.2.bad ([] : List Int)
      else
       gq5 v25.2.l true 0 ([] : List UInt8) 0 false 0 0 0 0 0 0 ([] : List UInt8) 0 ([] : List UInt8) 0 0 0 0 ([] : List SUsage) ([] : List Bool) 0 ([] : List Int)
theorem g_script_line_act_w {a0 : Sline} {i0 : Nat} {r : SAct × Sline} (h : g_script_line_act a0 = some r) : FCall Tryz.prog 43 [.gptr i0 0] [(i0, [.list false 81 (a0.l.map eSField), zB a0.bad])] (fun v outs => v = eSAct r.1 ∧ outs = [(i0, [.list false 81 (r.2.l.map eSField), zB r.2.bad])]) := by
 refine FCall.of Tryz.func43 rfl rfl rfl rfl fun base => ?_
 unfold g_script_line_act at h
 refine CWp.seq (CWp.region ?_)
 refine rn 1 rfl ?_
 refine COps.done [0, 2] [2] rfl ?_
 refine CWp.seq (CWp.region ?_)
 refine cNewO ?_
 rintro o1 -
 refine cOwn 0 17 114 ?_
 refine cOwn 0 18 4 ?_
 refine cOwn 0 20 3 ?_
 refine COps.done [0, 2, 3] [2] rfl ?_
 refine CWp.mid (fun e => ∃ x2 x3 x4 x5 x6 x7 x8 x9 x10 x11 x12 x13 x14 x15 x16 x17 x18 x19 x20 x21 x22 x23 x24, e = ⟨[(2, [], .lptr 2 0), (3, [], .gptr o1 0)], [], [(2, [zI 0, .str ([] : List UInt8), zI 0, zB false, zI 0, zI 0, zI 0, zI 0, zI 0, zI 0, .str ([] : List UInt8), zI 0, .str ([] : List UInt8), zI 0, zF 0, zF 0, zF 0, .list false 114 (([] : List SUsage).map eSUsage), .list false 4 (([] : List Bool).map zB), zI 0, .list false 3 (([] : List Int).map zI)])], [(i0, [.list false 81 (x2.map eSField), zB x3]), (o1, [zI x4, .str x5, zI x6, zB x7, zI x8, zI x9, zI x10, zI x11, zI x12, zI x13, .str x14, zI x15, .str x16, zI x17, zF x18, zF x19, zF x20, .list true 114 (x21.map eSUsage), .list true 4 (x22.map zB), zI x23, .list true 3 (x24.map zI)])], base⟩ ∧ gq5 x2 x3 x4 x5 x6 x7 x8 x9 x10 x11 x12 x13 x14 x15 x16 x17 x18 x19 x20 x21 x22 x23 x24 = some r) ?_ ?_
 ·refine CWp.seq (CWp.region ?_)
  refine rn 1 rfl ?_
  obtain ⟨v25, hv25, h⟩ := bI h
  refine cCall [1] Tryz.call75 (g_script_line_text_w hv25) rfl rfl ?_
  rintro _ _ ⟨rfl, rfl⟩
  refine COps.done [0, 2, 3, 6] [2] rfl ?_
  refine CWp.block ?_
  refine CWp.seq (CWp.region ?_)
  refine rn 2 rfl ?_
  refine COps.done [0, 2, 3, 6, 10] [2] rfl ?_
  refine CWp.cond h rfl (fun h => ?_) (fun h => ?_)
  ·refine CWp.region ?_
   refine rn 1 rfl ?_
   obtain ⟨v26, hv26, h⟩ := bI h
   refine cCall [0] Tryz.call76 (g_script_line_pod_w hv26) rfl rfl ?_
   rintro _ _ ⟨rfl, rfl⟩
   refine rh 4 [1, 1] [] rfl ⟨rfl, rfl, trivial⟩ ?_
   refine COps.done [2, 3] [2] rfl ?_
   exact ⟨_, _, _, _, _, _, _, _, _, _, _, _, _, _, _, _, _, _, _, _, _, _, _, rfl, h⟩
  ·refine CWp.seq (CWp.region ?_)
   refine rn 2 rfl ?_
   refine COps.done [0, 2, 3, 6, 16] [2] rfl ?_
   refine CWp.cond h rfl (fun h => ?_) (fun h => ?_)
   ·refine CWp.region ?_
    refine rn 1 rfl ?_
    obtain ⟨v27, hv27, h⟩ := bI h
    refine cCall [0] Tryz.call77 (g_script_line_word_w hv27) rfl rfl ?_
    rintro _ _ ⟨rfl, rfl⟩
    refine rh 4 [1, 1] [] rfl ⟨rfl, rfl, trivial⟩ ?_
    refine COps.done [2, 3] [2] rfl ?_
    exact ⟨_, _, _, _, _, _, _, _, _, _, _, _, _, _, _, _, _, _, _, _, _, _, _, rfl, h⟩
   ·refine CWp.seq (CWp.region ?_)
    refine rn 2 rfl ?_
    refine COps.done [0, 2, 3, 6, 22] [2] rfl ?_
    refine CWp.cond h rfl (fun h => ?_) (fun h => ?_)
    ·refine CWp.region ?_
     refine rh 2 [1] [] rfl ⟨rfl, trivial⟩ ?_
     refine COps.done [2, 3] [2] rfl ?_
     exact ⟨_, _, _, _, _, _, _, _, _, _, _, _, _, _, _, _, _, _, _, _, _, _, _, rfl, h⟩
    ·refine CWp.seq (CWp.region ?_)
     refine rn 2 rfl ?_
     refine COps.done [0, 2, 3, 6, 25] [2] rfl ?_
     refine CWp.cond h rfl (fun h => ?_) (fun h => ?_)
     ·refine CWp.seq (CWp.region ?_)
      refine rn 1 rfl ?_
      obtain ⟨v28, hv28, h⟩ := bI h
      refine cCall [0] Tryz.call78 (g_script_line_whole_w hv28) rfl rfl ?_
      rintro _ _ ⟨rfl, rfl⟩
      refine rh 5 [1, 1] [] rfl ⟨rfl, rfl, trivial⟩ ?_
      refine COps.done [0, 2, 3] [2] rfl ?_
      refine CWp.seq (CWp.region ?_)
      refine rn 1 rfl ?_
      obtain ⟨v29, hv29, h⟩ := bI h
      refine cCall [0] Tryz.call79 (g_script_line_amounts_w hv29) rfl rfl ?_
      rintro _ _ ⟨rfl, rfl⟩
      refine rh 3 [1] [] rfl ⟨rfl, trivial⟩ ?_
      refine COps.done [0, 2, 3] [2] rfl ?_
      refine CWp.block ?_
      refine CWp.loop (fun m2 e => ∃ x30 x31 x32, e = ⟨[(0, [], .gptr i0 0), (2, [], .lptr 2 0), (3, [], .gptr o1 0)], [], [(2, [zI 0, .str ([] : List UInt8), zI 0, zB false, zI 0, zI 0, zI 0, zI 0, zI 0, zI 0, .str ([] : List UInt8), zI 0, .str ([] : List UInt8), zI 0, zF 0, zF 0, zF 0, .list false 114 (([] : List SUsage).map eSUsage), .list false 4 (([] : List Bool).map zB), zI 0, .list false 3 (([] : List Int).map zI)])], [(i0, [.list false 81 (x30.map eSField), zB x31]), (o1, [zI 4, .str ([] : List UInt8), zI 0, zB false, zI 0, zI 0, zI 0, zI 0, zI 0, zI 0, .str ([] : List UInt8), zI 0, .str ([] : List UInt8), zI v28.1, zF v29.1.a, zF v29.1.b, zF v29.1.c, .list true 114 (x32.map eSUsage), .list true 4 (([] : List Bool).map zB), zI 0, .list true 3 (([] : List Int).map zI)])], base⟩ ∧ g_script_line_act_l2 v28 v29 (gq5) m2 x30 x31 x32 = some r) FUEL ⟨_, _, _, rfl, h⟩ ?_ ?_
      ·rintro m2 _ ⟨x30, x31, x32, rfl, h⟩
       rw [g_script_line_act_l2] at h
       refine CWp.seq (CWp.seq (CWp.region ?_))
       refine rn 1 rfl ?_
       obtain ⟨v33, hv33, h⟩ := bI h
       refine cCall [0] Tryz.call80 (g_script_line_more_w hv33) rfl rfl ?_
       rintro _ _ ⟨rfl, rfl⟩
       refine COps.done [0, 2, 3, 37] [2] rfl ?_
       refine CWp.cond h rfl (fun h => ?_) (fun h => ?_)
       ·refine CWp.skip ?_
        refine CWp.block ?_
        refine CWp.seq (CWp.region ?_)
        refine rn 1 rfl ?_
        obtain ⟨v34, hv34, h⟩ := bI h
        refine cCall [0] Tryz.call77 (g_script_line_word_w hv34) rfl rfl ?_
        rintro _ _ ⟨rfl, rfl⟩
        refine rn 3 rfl ?_
        refine COps.done [0, 2, 3, 4] [2, 4] rfl ?_
        refine CWp.seq (CWp.region ?_)
        refine rn 1 rfl ?_
        obtain ⟨v35, hv35, h⟩ := bI h
        refine cCall [0] Tryz.call79 (g_script_line_amounts_w hv35) rfl rfl ?_
        rintro _ _ ⟨rfl, rfl⟩
        refine rn 2 rfl ?_
        refine COps.done [0, 2, 3, 4] [2, 4] rfl ?_
        refine CWp.region ?_
        obtain ⟨v36, hv36, h⟩ := bI h
        refine rh 5 [1] [46] rfl ⟨rfl, trivial⟩ ?_
        refine cApp hv36 ?_
        refine rh 3 [1] [49] rfl ⟨rfl, trivial⟩ ?_
        refine COps.done [0, 2, 3] [2] rfl ?_
        exact ⟨_, _, _, rfl, h⟩
       ·refine CWp.keep [2, 3] [2] rfl ?_
        refine CWp.exit ?_
        exact ⟨_, _, _, _, _, _, _, _, _, _, _, _, _, _, _, _, _, _, _, _, _, _, _, rfl, h⟩
      ·rintro _ ⟨_, _, _, _, h⟩
       rw [g_script_line_act_l2] at h; cases h
     ·refine CWp.seq (CWp.region ?_)
      refine rn 2 rfl ?_
      refine COps.done [0, 2, 3, 6, 52] [2] rfl ?_
      refine CWp.cond h rfl (fun h => ?_) (fun h => ?_)
      ·refine CWp.seq (CWp.region ?_)
       refine rh 2 [1] [] rfl ⟨rfl, trivial⟩ ?_
       refine COps.done [0, 2, 3] [2] rfl ?_
       refine CWp.block ?_
       refine CWp.loop (fun m3 e => ∃ x37 x38 x39, e = ⟨[(0, [], .gptr i0 0), (2, [], .lptr 2 0), (3, [], .gptr o1 0)], [], [(2, [zI 0, .str ([] : List UInt8), zI 0, zB false, zI 0, zI 0, zI 0, zI 0, zI 0, zI 0, .str ([] : List UInt8), zI 0, .str ([] : List UInt8), zI 0, zF 0, zF 0, zF 0, .list false 114 (([] : List SUsage).map eSUsage), .list false 4 (([] : List Bool).map zB), zI 0, .list false 3 (([] : List Int).map zI)])], [(i0, [.list false 81 (x37.map eSField), zB x38]), (o1, [zI 5, .str ([] : List UInt8), zI 0, zB false, zI 0, zI 0, zI 0, zI 0, zI 0, zI 0, .str ([] : List UInt8), zI 0, .str ([] : List UInt8), zI 0, zF 0, zF 0, zF 0, .list true 114 (([] : List SUsage).map eSUsage), .list true 4 (x39.map zB), zI 0, .list true 3 (([] : List Int).map zI)])], base⟩ ∧ g_script_line_act_l3 (gq5) m3 x37 x38 x39 = some r) FUEL ⟨_, _, _, rfl, h⟩ ?_ ?_
       ·rintro m3 _ ⟨x37, x38, x39, rfl, h⟩
        rw [g_script_line_act_l3] at h
        refine CWp.seq (CWp.seq (CWp.region ?_))
        refine rn 1 rfl ?_
        obtain ⟨v40, hv40, h⟩ := bI h
        refine cCall [0] Tryz.call80 (g_script_line_more_w hv40) rfl rfl ?_
        rintro _ _ ⟨rfl, rfl⟩
        refine COps.done [0, 2, 3, 56] [2] rfl ?_
        refine CWp.cond h rfl (fun h => ?_) (fun h => ?_)
        ·refine CWp.skip ?_
         refine CWp.block ?_
         obtain ⟨v41, hv41, h⟩ := bI h
         refine CWp.tree 5 ⟨[(0, [], .gptr i0 0), (2, [], .lptr 2 0), (3, [], .gptr o1 0), (58, [], .list true 4 (x39.map zB)), (61, [], .list true 4 ([v41.1].map zB))], [], [(2, [zI 0, .str ([] : List UInt8), zI 0, zB false, zI 0, zI 0, zI 0, zI 0, zI 0, zI 0, .str ([] : List UInt8), zI 0, .str ([] : List UInt8), zI 0, zF 0, zF 0, zF 0, .list false 114 (([] : List SUsage).map eSUsage), .list false 4 (([] : List Bool).map zB), zI 0, .list false 3 (([] : List Int).map zI)])], [(i0, [.list false 81 (v41.2.l.map eSField), zB v41.2.bad]), (o1, [zI 5, .str ([] : List UInt8), zI 0, zB false, zI 0, zI 0, zI 0, zI 0, zI 0, zI 0, .str ([] : List UInt8), zI 0, .str ([] : List UInt8), zI 0, zF 0, zF 0, zF 0, .list true 114 (([] : List SUsage).map eSUsage), .list false 4 (x39.map zB), zI 0, .list true 3 (([] : List Int).map zI)])], base⟩ (by kernel_rfl) ?_ ?_
         ·refine CAny.step 0 [2] (by kernel_rfl) (allR1 ⟨_, rfl, ?_⟩ (allR1 ⟨_, rfl, ?_⟩ allR0))
          ·refine rn 1 rfl ?_
           refine COps.done [0, 2, 3, 57] [2] rfl ?_
           refine ⟨rfl, ?_⟩
           refine CAny.step 1 [2] (by kernel_rfl) (allR1 ⟨_, rfl, ?_⟩ (allR1 ⟨_, rfl, ?_⟩ allR0))
           ·refine rh 1 [1] [58] rfl ⟨rfl, trivial⟩ ?_
            refine COps.done [0, 2, 3, 58] [2] rfl ?_
            refine ⟨rfl, ?_⟩
            refine CAny.step 2 [] (by kernel_rfl) (allR1 ⟨_, rfl, ?_⟩ allR0)
            ·refine rn 1 rfl ?_
             refine COps.done [0, 2, 3, 58, 59] [2] rfl ?_
             refine ⟨rfl, ?_⟩
             refine CAny.step 3 [] (by kernel_rfl) (allR1 ⟨_, rfl, ?_⟩ allR0)
             ·refine cCall [0] Tryz.call81 (g_script_line_one_w hv41) rfl rfl ?_
              rintro _ _ ⟨rfl, rfl⟩
              refine COps.done [0, 2, 3, 58, 60] [2] rfl ?_
              refine ⟨rfl, ?_⟩
              refine CAny.step 4 [] (by kernel_rfl) (allR1 ⟨_, rfl, ?_⟩ allR0)
              ·refine rn 1 rfl ?_
               refine COps.done [0, 2, 3, 58, 61] [2] rfl ?_
               refine ⟨rfl, ?_⟩
               exact ⟨rfl, rfl⟩
           ·refine rn 1 rfl ?_
            refine COps.done [0, 2, 3, 57, 59] [2] rfl ?_
            refine ⟨rfl, ?_⟩
            refine CAny.step 1 [3] (by kernel_rfl) (allR1 ⟨_, rfl, ?_⟩ (allR1 ⟨_, rfl, ?_⟩ allR0))
            ·refine rh 1 [1] [58] rfl ⟨rfl, trivial⟩ ?_
             refine COps.done [0, 2, 3, 58, 59] [2] rfl ?_
             refine ⟨rfl, ?_⟩
             refine CAny.step 3 [] (by kernel_rfl) (allR1 ⟨_, rfl, ?_⟩ allR0)
             ·refine cCall [0] Tryz.call81 (g_script_line_one_w hv41) rfl rfl ?_
              rintro _ _ ⟨rfl, rfl⟩
              refine COps.done [0, 2, 3, 58, 60] [2] rfl ?_
              refine ⟨rfl, ?_⟩
              refine CAny.step 4 [] (by kernel_rfl) (allR1 ⟨_, rfl, ?_⟩ allR0)
              ·refine rn 1 rfl ?_
               refine COps.done [0, 2, 3, 58, 61] [2] rfl ?_
               refine ⟨rfl, ?_⟩
               exact ⟨rfl, rfl⟩
            ·refine cCall [0] Tryz.call81 (g_script_line_one_w hv41) rfl rfl ?_
             rintro _ _ ⟨rfl, rfl⟩
             refine COps.done [0, 2, 3, 57, 60] [2] rfl ?_
             refine ⟨rfl, ?_⟩
             refine CAny.step 1 [4] (by kernel_rfl) (allR1 ⟨_, rfl, ?_⟩ (allR1 ⟨_, rfl, ?_⟩ allR0))
             ·refine rh 1 [1] [58] rfl ⟨rfl, trivial⟩ ?_
              refine COps.done [0, 2, 3, 58, 60] [2] rfl ?_
              refine ⟨rfl, ?_⟩
              refine CAny.step 4 [] (by kernel_rfl) (allR1 ⟨_, rfl, ?_⟩ allR0)
              ·refine rn 1 rfl ?_
               refine COps.done [0, 2, 3, 58, 61] [2] rfl ?_
               refine ⟨rfl, ?_⟩
               exact ⟨rfl, rfl⟩
             ·refine rn 1 rfl ?_
              refine COps.done [0, 2, 3, 57, 61] [2] rfl ?_
              refine ⟨rfl, ?_⟩
              refine CAny.step 1 [] (by kernel_rfl) (allR1 ⟨_, rfl, ?_⟩ allR0)
              ·refine rh 1 [1] [58] rfl ⟨rfl, trivial⟩ ?_
               refine COps.done [0, 2, 3, 58, 61] [2] rfl ?_
               refine ⟨rfl, ?_⟩
               exact ⟨rfl, rfl⟩
          ·refine rn 1 rfl ?_
           refine COps.done [0, 2, 3, 59] [2] rfl ?_
           refine ⟨rfl, ?_⟩
           refine CAny.step 0 [3] (by kernel_rfl) (allR1 ⟨_, rfl, ?_⟩ (allR1 ⟨_, rfl, ?_⟩ allR0))
           ·refine rn 1 rfl ?_
            refine COps.done [0, 2, 3, 57, 59] [2] rfl ?_
            refine ⟨rfl, ?_⟩
            refine CAny.step 1 [3] (by kernel_rfl) (allR1 ⟨_, rfl, ?_⟩ (allR1 ⟨_, rfl, ?_⟩ allR0))
            ·refine rh 1 [1] [58] rfl ⟨rfl, trivial⟩ ?_
             refine COps.done [0, 2, 3, 58, 59] [2] rfl ?_
             refine ⟨rfl, ?_⟩
             refine CAny.step 3 [] (by kernel_rfl) (allR1 ⟨_, rfl, ?_⟩ allR0)
             ·refine cCall [0] Tryz.call81 (g_script_line_one_w hv41) rfl rfl ?_
              rintro _ _ ⟨rfl, rfl⟩
              refine COps.done [0, 2, 3, 58, 60] [2] rfl ?_
              refine ⟨rfl, ?_⟩
              refine CAny.step 4 [] (by kernel_rfl) (allR1 ⟨_, rfl, ?_⟩ allR0)
              ·refine rn 1 rfl ?_
               refine COps.done [0, 2, 3, 58, 61] [2] rfl ?_
               refine ⟨rfl, ?_⟩
               exact ⟨rfl, rfl⟩
            ·refine cCall [0] Tryz.call81 (g_script_line_one_w hv41) rfl rfl ?_
             rintro _ _ ⟨rfl, rfl⟩
             refine COps.done [0, 2, 3, 57, 60] [2] rfl ?_
             refine ⟨rfl, ?_⟩
             refine CAny.step 1 [4] (by kernel_rfl) (allR1 ⟨_, rfl, ?_⟩ (allR1 ⟨_, rfl, ?_⟩ allR0))
             ·refine rh 1 [1] [58] rfl ⟨rfl, trivial⟩ ?_
              refine COps.done [0, 2, 3, 58, 60] [2] rfl ?_
              refine ⟨rfl, ?_⟩
              refine CAny.step 4 [] (by kernel_rfl) (allR1 ⟨_, rfl, ?_⟩ allR0)
              ·refine rn 1 rfl ?_
               refine COps.done [0, 2, 3, 58, 61] [2] rfl ?_
               refine ⟨rfl, ?_⟩
               exact ⟨rfl, rfl⟩
             ·refine rn 1 rfl ?_
              refine COps.done [0, 2, 3, 57, 61] [2] rfl ?_
              refine ⟨rfl, ?_⟩
              refine CAny.step 1 [] (by kernel_rfl) (allR1 ⟨_, rfl, ?_⟩ allR0)
              ·refine rh 1 [1] [58] rfl ⟨rfl, trivial⟩ ?_
               refine COps.done [0, 2, 3, 58, 61] [2] rfl ?_
               refine ⟨rfl, ?_⟩
               exact ⟨rfl, rfl⟩
           ·refine cCall [0] Tryz.call81 (g_script_line_one_w hv41) rfl rfl ?_
            rintro _ _ ⟨rfl, rfl⟩
            refine COps.done [0, 2, 3, 60] [2] rfl ?_
            refine ⟨rfl, ?_⟩
            refine CAny.step 0 [4] (by kernel_rfl) (allR1 ⟨_, rfl, ?_⟩ (allR1 ⟨_, rfl, ?_⟩ allR0))
            ·refine rn 1 rfl ?_
             refine COps.done [0, 2, 3, 57, 60] [2] rfl ?_
             refine ⟨rfl, ?_⟩
             refine CAny.step 1 [4] (by kernel_rfl) (allR1 ⟨_, rfl, ?_⟩ (allR1 ⟨_, rfl, ?_⟩ allR0))
             ·refine rh 1 [1] [58] rfl ⟨rfl, trivial⟩ ?_
              refine COps.done [0, 2, 3, 58, 60] [2] rfl ?_
              refine ⟨rfl, ?_⟩
              refine CAny.step 4 [] (by kernel_rfl) (allR1 ⟨_, rfl, ?_⟩ allR0)
              ·refine rn 1 rfl ?_
               refine COps.done [0, 2, 3, 58, 61] [2] rfl ?_
               refine ⟨rfl, ?_⟩
               exact ⟨rfl, rfl⟩
             ·refine rn 1 rfl ?_
              refine COps.done [0, 2, 3, 57, 61] [2] rfl ?_
              refine ⟨rfl, ?_⟩
              refine CAny.step 1 [] (by kernel_rfl) (allR1 ⟨_, rfl, ?_⟩ allR0)
              ·refine rh 1 [1] [58] rfl ⟨rfl, trivial⟩ ?_
               refine COps.done [0, 2, 3, 58, 61] [2] rfl ?_
               refine ⟨rfl, ?_⟩
               exact ⟨rfl, rfl⟩
            ·refine rn 1 rfl ?_
             refine COps.done [0, 2, 3, 61] [2] rfl ?_
             refine ⟨rfl, ?_⟩
             refine CAny.step 0 [] (by kernel_rfl) (allR1 ⟨_, rfl, ?_⟩ allR0)
             ·refine rn 1 rfl ?_
              refine COps.done [0, 2, 3, 57, 61] [2] rfl ?_
              refine ⟨rfl, ?_⟩
              refine CAny.step 1 [] (by kernel_rfl) (allR1 ⟨_, rfl, ?_⟩ allR0)
              ·refine rh 1 [1] [58] rfl ⟨rfl, trivial⟩ ?_
               refine COps.done [0, 2, 3, 58, 61] [2] rfl ?_
               refine ⟨rfl, ?_⟩
               exact ⟨rfl, rfl⟩
         obtain ⟨v42, hv42, h⟩ := bI h
         refine cApp hv42 ?_
         refine rh 2 [1] [62] rfl ⟨rfl, trivial⟩ ?_
         refine COps.done [0, 2, 3] [2] rfl ?_
         exact ⟨_, _, _, rfl, h⟩
        ·refine CWp.keep [2, 3] [2] rfl ?_
         refine CWp.exit ?_
         exact ⟨_, _, _, _, _, _, _, _, _, _, _, _, _, _, _, _, _, _, _, _, _, _, _, rfl, h⟩
       ·rintro _ ⟨_, _, _, _, h⟩
        rw [g_script_line_act_l3] at h; cases h
      ·refine CWp.seq (CWp.region ?_)
       refine rn 2 rfl ?_
       refine COps.done [0, 2, 3, 64] [2] rfl ?_
       refine CWp.cond h rfl (fun h => ?_) (fun h => ?_)
       ·refine CWp.seq (CWp.region ?_)
        refine rn 1 rfl ?_
        obtain ⟨v43, hv43, h⟩ := bI h
        refine cCall [0] Tryz.call78 (g_script_line_whole_w hv43) rfl rfl ?_
        rintro _ _ ⟨rfl, rfl⟩
        refine rh 4 [1, 1] [] rfl ⟨rfl, rfl, trivial⟩ ?_
        refine COps.done [0, 2, 3] [2] rfl ?_
        refine CWp.block ?_
        refine CWp.loop (fun m4 e => ∃ x44 x45 x46, e = ⟨[(0, [], .gptr i0 0), (2, [], .lptr 2 0), (3, [], .gptr o1 0)], [], [(2, [zI 0, .str ([] : List UInt8), zI 0, zB false, zI 0, zI 0, zI 0, zI 0, zI 0, zI 0, .str ([] : List UInt8), zI 0, .str ([] : List UInt8), zI 0, zF 0, zF 0, zF 0, .list false 114 (([] : List SUsage).map eSUsage), .list false 4 (([] : List Bool).map zB), zI 0, .list false 3 (([] : List Int).map zI)])], [(i0, [.list false 81 (x44.map eSField), zB x45]), (o1, [zI 6, .str ([] : List UInt8), zI 0, zB false, zI 0, zI 0, zI 0, zI 0, zI 0, zI 0, .str ([] : List UInt8), zI 0, .str ([] : List UInt8), zI 0, zF 0, zF 0, zF 0, .list true 114 (([] : List SUsage).map eSUsage), .list true 4 (([] : List Bool).map zB), zI v43.1, .list true 3 (x46.map zI)])], base⟩ ∧ g_script_line_act_l4 v43 (gq5) m4 x44 x45 x46 = some r) FUEL ⟨_, _, _, rfl, h⟩ ?_ ?_
        ·rintro m4 _ ⟨x44, x45, x46, rfl, h⟩
         rw [g_script_line_act_l4] at h
         refine CWp.seq (CWp.seq (CWp.region ?_))
         refine rn 1 rfl ?_
         obtain ⟨v47, hv47, h⟩ := bI h
         refine cCall [0] Tryz.call80 (g_script_line_more_w hv47) rfl rfl ?_
         rintro _ _ ⟨rfl, rfl⟩
         refine COps.done [0, 2, 3, 71] [2] rfl ?_
         refine CWp.cond h rfl (fun h => ?_) (fun h => ?_)
         ·refine CWp.skip ?_
          refine CWp.block ?_
          obtain ⟨v48, hv48, h⟩ := bI h
          refine CWp.tree 5 ⟨[(0, [], .gptr i0 0), (2, [], .lptr 2 0), (3, [], .gptr o1 0), (73, [], .list true 3 (x46.map zI)), (76, [], .list true 3 ([v48.1].map zI))], [], [(2, [zI 0, .str ([] : List UInt8), zI 0, zB false, zI 0, zI 0, zI 0, zI 0, zI 0, zI 0, .str ([] : List UInt8), zI 0, .str ([] : List UInt8), zI 0, zF 0, zF 0, zF 0, .list false 114 (([] : List SUsage).map eSUsage), .list false 4 (([] : List Bool).map zB), zI 0, .list false 3 (([] : List Int).map zI)])], [(i0, [.list false 81 (v48.2.l.map eSField), zB v48.2.bad]), (o1, [zI 6, .str ([] : List UInt8), zI 0, zB false, zI 0, zI 0, zI 0, zI 0, zI 0, zI 0, .str ([] : List UInt8), zI 0, .str ([] : List UInt8), zI 0, zF 0, zF 0, zF 0, .list true 114 (([] : List SUsage).map eSUsage), .list true 4 (([] : List Bool).map zB), zI v43.1, .list false 3 (x46.map zI)])], base⟩ (by kernel_rfl) ?_ ?_
          ·refine CAny.step 0 [2] (by kernel_rfl) (allR1 ⟨_, rfl, ?_⟩ (allR1 ⟨_, rfl, ?_⟩ allR0))
           ·refine rn 1 rfl ?_
            refine COps.done [0, 2, 3, 72] [2] rfl ?_
            refine ⟨rfl, ?_⟩
            refine CAny.step 1 [2] (by kernel_rfl) (allR1 ⟨_, rfl, ?_⟩ (allR1 ⟨_, rfl, ?_⟩ allR0))
            ·refine rh 1 [1] [73] rfl ⟨rfl, trivial⟩ ?_
             refine COps.done [0, 2, 3, 73] [2] rfl ?_
             refine ⟨rfl, ?_⟩
             refine CAny.step 2 [] (by kernel_rfl) (allR1 ⟨_, rfl, ?_⟩ allR0)
             ·refine rn 1 rfl ?_
              refine COps.done [0, 2, 3, 73, 74] [2] rfl ?_
              refine ⟨rfl, ?_⟩
              refine CAny.step 3 [] (by kernel_rfl) (allR1 ⟨_, rfl, ?_⟩ allR0)
              ·refine cCall [0] Tryz.call78 (g_script_line_whole_w hv48) rfl rfl ?_
               rintro _ _ ⟨rfl, rfl⟩
               refine COps.done [0, 2, 3, 73, 75] [2] rfl ?_
               refine ⟨rfl, ?_⟩
               refine CAny.step 4 [] (by kernel_rfl) (allR1 ⟨_, rfl, ?_⟩ allR0)
               ·refine rn 1 rfl ?_
                refine COps.done [0, 2, 3, 73, 76] [2] rfl ?_
                refine ⟨rfl, ?_⟩
                exact ⟨rfl, rfl⟩
            ·refine rn 1 rfl ?_
             refine COps.done [0, 2, 3, 72, 74] [2] rfl ?_
             refine ⟨rfl, ?_⟩
             refine CAny.step 1 [3] (by kernel_rfl) (allR1 ⟨_, rfl, ?_⟩ (allR1 ⟨_, rfl, ?_⟩ allR0))
             ·refine rh 1 [1] [73] rfl ⟨rfl, trivial⟩ ?_
              refine COps.done [0, 2, 3, 73, 74] [2] rfl ?_
              refine ⟨rfl, ?_⟩
              refine CAny.step 3 [] (by kernel_rfl) (allR1 ⟨_, rfl, ?_⟩ allR0)
              ·refine cCall [0] Tryz.call78 (g_script_line_whole_w hv48) rfl rfl ?_
               rintro _ _ ⟨rfl, rfl⟩
               refine COps.done [0, 2, 3, 73, 75] [2] rfl ?_
               refine ⟨rfl, ?_⟩
               refine CAny.step 4 [] (by kernel_rfl) (allR1 ⟨_, rfl, ?_⟩ allR0)
               ·refine rn 1 rfl ?_
                refine COps.done [0, 2, 3, 73, 76] [2] rfl ?_
                refine ⟨rfl, ?_⟩
                exact ⟨rfl, rfl⟩
             ·refine cCall [0] Tryz.call78 (g_script_line_whole_w hv48) rfl rfl ?_
              rintro _ _ ⟨rfl, rfl⟩
              refine COps.done [0, 2, 3, 72, 75] [2] rfl ?_
              refine ⟨rfl, ?_⟩
              refine CAny.step 1 [4] (by kernel_rfl) (allR1 ⟨_, rfl, ?_⟩ (allR1 ⟨_, rfl, ?_⟩ allR0))
              ·refine rh 1 [1] [73] rfl ⟨rfl, trivial⟩ ?_
               refine COps.done [0, 2, 3, 73, 75] [2] rfl ?_
               refine ⟨rfl, ?_⟩
               refine CAny.step 4 [] (by kernel_rfl) (allR1 ⟨_, rfl, ?_⟩ allR0)
               ·refine rn 1 rfl ?_
                refine COps.done [0, 2, 3, 73, 76] [2] rfl ?_
                refine ⟨rfl, ?_⟩
                exact ⟨rfl, rfl⟩
              ·refine rn 1 rfl ?_
               refine COps.done [0, 2, 3, 72, 76] [2] rfl ?_
               refine ⟨rfl, ?_⟩
               refine CAny.step 1 [] (by kernel_rfl) (allR1 ⟨_, rfl, ?_⟩ allR0)
               ·refine rh 1 [1] [73] rfl ⟨rfl, trivial⟩ ?_
                refine COps.done [0, 2, 3, 73, 76] [2] rfl ?_
                refine ⟨rfl, ?_⟩
                exact ⟨rfl, rfl⟩
           ·refine rn 1 rfl ?_
            refine COps.done [0, 2, 3, 74] [2] rfl ?_
            refine ⟨rfl, ?_⟩
            refine CAny.step 0 [3] (by kernel_rfl) (allR1 ⟨_, rfl, ?_⟩ (allR1 ⟨_, rfl, ?_⟩ allR0))
            ·refine rn 1 rfl ?_
             refine COps.done [0, 2, 3, 72, 74] [2] rfl ?_
             refine ⟨rfl, ?_⟩
             refine CAny.step 1 [3] (by kernel_rfl) (allR1 ⟨_, rfl, ?_⟩ (allR1 ⟨_, rfl, ?_⟩ allR0))
             ·refine rh 1 [1] [73] rfl ⟨rfl, trivial⟩ ?_
              refine COps.done [0, 2, 3, 73, 74] [2] rfl ?_
              refine ⟨rfl, ?_⟩
              refine CAny.step 3 [] (by kernel_rfl) (allR1 ⟨_, rfl, ?_⟩ allR0)
              ·refine cCall [0] Tryz.call78 (g_script_line_whole_w hv48) rfl rfl ?_
               rintro _ _ ⟨rfl, rfl⟩
               refine COps.done [0, 2, 3, 73, 75] [2] rfl ?_
               refine ⟨rfl, ?_⟩
               refine CAny.step 4 [] (by kernel_rfl) (allR1 ⟨_, rfl, ?_⟩ allR0)
               ·refine rn 1 rfl ?_
                refine COps.done [0, 2, 3, 73, 76] [2] rfl ?_
                refine ⟨rfl, ?_⟩
                exact ⟨rfl, rfl⟩
             ·refine cCall [0] Tryz.call78 (g_script_line_whole_w hv48) rfl rfl ?_
              rintro _ _ ⟨rfl, rfl⟩
              refine COps.done [0, 2, 3, 72, 75] [2] rfl ?_
              refine ⟨rfl, ?_⟩
              refine CAny.step 1 [4] (by kernel_rfl) (allR1 ⟨_, rfl, ?_⟩ (allR1 ⟨_, rfl, ?_⟩ allR0))
              ·refine rh 1 [1] [73] rfl ⟨rfl, trivial⟩ ?_
               refine COps.done [0, 2, 3, 73, 75] [2] rfl ?_
               refine ⟨rfl, ?_⟩
               refine CAny.step 4 [] (by kernel_rfl) (allR1 ⟨_, rfl, ?_⟩ allR0)
               ·refine rn 1 rfl ?_
                refine COps.done [0, 2, 3, 73, 76] [2] rfl ?_
                refine ⟨rfl, ?_⟩
                exact ⟨rfl, rfl⟩
              ·refine rn 1 rfl ?_
               refine COps.done [0, 2, 3, 72, 76] [2] rfl ?_
               refine ⟨rfl, ?_⟩
               refine CAny.step 1 [] (by kernel_rfl) (allR1 ⟨_, rfl, ?_⟩ allR0)
               ·refine rh 1 [1] [73] rfl ⟨rfl, trivial⟩ ?_
                refine COps.done [0, 2, 3, 73, 76] [2] rfl ?_
                refine ⟨rfl, ?_⟩
                exact ⟨rfl, rfl⟩
            ·refine cCall [0] Tryz.call78 (g_script_line_whole_w hv48) rfl rfl ?_
             rintro _ _ ⟨rfl, rfl⟩
             refine COps.done [0, 2, 3, 75] [2] rfl ?_
             refine ⟨rfl, ?_⟩
             refine CAny.step 0 [4] (by kernel_rfl) (allR1 ⟨_, rfl, ?_⟩ (allR1 ⟨_, rfl, ?_⟩ allR0))
             ·refine rn 1 rfl ?_
              refine COps.done [0, 2, 3, 72, 75] [2] rfl ?_
              refine ⟨rfl, ?_⟩
              refine CAny.step 1 [4] (by kernel_rfl) (allR1 ⟨_, rfl, ?_⟩ (allR1 ⟨_, rfl, ?_⟩ allR0))
              ·refine rh 1 [1] [73] rfl ⟨rfl, trivial⟩ ?_
               refine COps.done [0, 2, 3, 73, 75] [2] rfl ?_
               refine ⟨rfl, ?_⟩
               refine CAny.step 4 [] (by kernel_rfl) (allR1 ⟨_, rfl, ?_⟩ allR0)
               ·refine rn 1 rfl ?_
                refine COps.done [0, 2, 3, 73, 76] [2] rfl ?_
                refine ⟨rfl, ?_⟩
                exact ⟨rfl, rfl⟩
              ·refine rn 1 rfl ?_
               refine COps.done [0, 2, 3, 72, 76] [2] rfl ?_
               refine ⟨rfl, ?_⟩
               refine CAny.step 1 [] (by kernel_rfl) (allR1 ⟨_, rfl, ?_⟩ allR0)
               ·refine rh 1 [1] [73] rfl ⟨rfl, trivial⟩ ?_
                refine COps.done [0, 2, 3, 73, 76] [2] rfl ?_
                refine ⟨rfl, ?_⟩
                exact ⟨rfl, rfl⟩
             ·refine rn 1 rfl ?_
              refine COps.done [0, 2, 3, 76] [2] rfl ?_
              refine ⟨rfl, ?_⟩
              refine CAny.step 0 [] (by kernel_rfl) (allR1 ⟨_, rfl, ?_⟩ allR0)
              ·refine rn 1 rfl ?_
               refine COps.done [0, 2, 3, 72, 76] [2] rfl ?_
               refine ⟨rfl, ?_⟩
               refine CAny.step 1 [] (by kernel_rfl) (allR1 ⟨_, rfl, ?_⟩ allR0)
               ·refine rh 1 [1] [73] rfl ⟨rfl, trivial⟩ ?_
                refine COps.done [0, 2, 3, 73, 76] [2] rfl ?_
                refine ⟨rfl, ?_⟩
                exact ⟨rfl, rfl⟩
          obtain ⟨v49, hv49, h⟩ := bI h
          refine cApp hv49 ?_
          refine rh 2 [1] [77] rfl ⟨rfl, trivial⟩ ?_
          refine COps.done [0, 2, 3] [2] rfl ?_
          exact ⟨_, _, _, rfl, h⟩
         ·refine CWp.keep [2, 3] [2] rfl ?_
          refine CWp.exit ?_
          exact ⟨_, _, _, _, _, _, _, _, _, _, _, _, _, _, _, _, _, _, _, _, _, _, _, rfl, h⟩
        ·rintro _ ⟨_, _, _, _, h⟩
         rw [g_script_line_act_l4] at h; cases h
       ·refine CWp.region ?_
        refine rh 4 [0] [] rfl ⟨rfl, trivial⟩ ?_
        refine COps.done [2, 3] [2] rfl ?_
        exact ⟨_, _, _, _, _, _, _, _, _, _, _, _, _, _, _, _, _, _, _, _, _, _, _, rfl, h⟩
 ·rintro _ ⟨x2, x3, x4, x5, x6, x7, x8, x9, x10, x11, x12, x13, x14, x15, x16, x17, x18, x19, x20, x21, x22, x23, x24, rfl, h⟩
  unfold gq5 at h
  refine CWp.seq (CWp.region ?_)
  refine rh 2 [1] [] rfl ⟨rfl, trivial⟩ ?_
  refine COps.objs [0] rfl ?_
  refine COps.done [2] [2] rfl ?_
  refine CWp.ret ?_
  cases h
  exact ⟨.inl rfl, _, [0], _, _, rfl, rfl, rfl, rfl, rfl⟩
def g_script_Read_k1 (x2 : List SAct) : Option ((List SAct) × Int × Int) :=
 some (x2, 0, 0)
def g_script_Read_l2 (v1 : (List (List SField)) × Int) (k290 : (List SAct) → Option ((List SAct) × Int × Int)) : Nat → Int → (List SAct) → Option ((List SAct) × Int × Int)
 | 0, _, _ => none
 | m2 + 1, x3, x4 =>
  bif decide (x3 < (v1.1.length : Int)) then
   bO (idx v1.1 x3) fun v5 =>
   bO (g_script_line_act (⟨v5, false⟩ : Sline)) fun v7 =>
   bif v7.2.bad || (decide ((v7.2.l.length : Int) > 0)) then
    bO (idx v5 0) fun v8 =>
    some (([] : List SAct), v8.line, 2)
   else
    bO (appO x4 [v7.1]) fun v9 =>
    (g_script_Read_l2 v1 k290 m2) (w64 (x3 + 1)) v9
  else
   k290 x4
def g_script_Read (a0 : List UInt8) : Option ((List SAct) × Int × Int) :=
 bO (g_lex_Lines a0) fun v1 =>
 bif v1.2 != 0 then
  some (([] : List SAct), 0, v1.2)
 else
  g_script_Read_l2 v1 g_script_Read_k1 FUEL 0 ([] : List SAct)
theorem g_script_Read_w {a0 : List UInt8} {r : (List SAct) × Int × Int} (h : g_script_Read a0 = some r) : PCall Tryz.prog 20 [.list false 5 (a0.map zU8)] (.tuple [.list true 50 (r.1.map eSAct), zI r.2.1, zI r.2.2]) := by
 refine PCall.body Tryz.func20 rfl rfl rfl rfl fun base => ?_
 unfold g_script_Read at h
 refine CWp.seq (CWp.region ?_)
 refine rn 3 rfl (COps.done [0] [] rfl ?_)
 refine CWp.seq (CWp.region ?_)
 refine rn 1 rfl ?_
 obtain ⟨v1, hv1, h⟩ := bI h
 refine pCall Tryz.call42 (g_lex_Lines_w hv1) rfl ?_
 refine rn 5 rfl (COps.done [5, 6] [] rfl ?_)
 refine CWp.seq (CWp.seq (CWp.region ?_))
 refine rn 2 rfl (COps.done [5, 6, 18] [] rfl ?_)
 refine CWp.cond h rfl (fun h => ?_) (fun h => ?_)
 ·refine CWp.seq (CWp.region ?_)
  refine rn 4 rfl (COps.done [2, 3, 4] [] rfl ?_)
  refine CWp.ret ?_
  cases h
  exact ⟨.inl rfl, rfl, rfl⟩
 ·refine CWp.skip ?_
  refine CWp.seq (CWp.region ?_)
  refine rn 1 rfl (COps.done [5, 7] [] rfl ?_)
  refine CWp.mid (fun e => ∃ x2, e = ⟨[(7, [], .list true 50 (x2.map eSAct))], [], [], [], base⟩ ∧ g_script_Read_k1 x2 = some r) ?_ ?_
  ·refine CWp.seq (CWp.region ?_)
   refine rh 3 [v1.1.length] [] rfl ⟨List.length_map .., trivial⟩ ?_
   refine COps.done [7, 20, 21, 22] [] rfl ?_
   refine CWp.block ?_
   refine CWp.loop (fun m2 e => ∃ x3 x4, e = ⟨[(7, [], .list true 50 (x4.map eSAct)), (20, [], .list false 75 (v1.1.map (fun x => .list false 81 (x.map eSField)))), (21, [], zI (v1.1.length : Int)), (22, [], zI x3)], [], [], [], base⟩ ∧ g_script_Read_l2 v1 (g_script_Read_k1) m2 x3 x4 = some r) FUEL ⟨_, _, rfl, h⟩ ?_ ?_
   ·rintro m2 _ ⟨x3, x4, rfl, h⟩
    rw [g_script_Read_l2] at h
    refine CWp.seq (CWp.region ?_)
    refine rn 1 rfl (COps.done [7, 20, 21, 22, 23] [] rfl ?_)
    refine CWp.seq ?_
    refine CWp.cond h rfl (fun h => ?_) (fun h => ?_)
    ·refine CWp.skip ?_
     refine CWp.seq (CWp.block ?_)
     refine CWp.seq (CWp.region ?_)
     obtain ⟨v5, hv5, h⟩ := bI h
     refine rd (rIx hv5) ?_
     refine rn 2 rfl (COps.done [7, 9, 20, 21, 22] [] rfl ?_)
     refine CWp.seq (CWp.region ?_)
     refine rn 2 rfl ?_
     refine cBox ?_
     rintro o6 -
     refine rn 1 rfl (COps.done [7, 9, 10, 20, 21, 22] [] rfl ?_)
     refine CWp.seq (CWp.region ?_)
     refine rn 1 rfl ?_
     obtain ⟨v7, hv7, h⟩ := bI h
     refine cCall [0] Tryz.call43 (g_script_line_act_w hv7) rfl rfl ?_
     rintro _ _ ⟨rfl, rfl⟩
     refine rn 2 rfl ?_
     refine COps.done [7, 9, 10, 11, 20, 21, 22] [11] rfl ?_
     refine CWp.seq (CWp.seq (CWp.region ?_))
     refine rh 12 [0, 0, v7.2.l.length] [] rfl ⟨List.length_map .., rfl, rfl, trivial⟩ ?_
     refine COps.objs [] rfl ?_
     refine COps.done [7, 9, 11, 20, 21, 22, 42] [11] rfl ?_
     refine CWp.cond h rfl (fun h => ?_) (fun h => ?_)
     ·refine CWp.seq ?_
      refine CWp.drawn 7 (by kernel_rfl) ?_
      obtain ⟨v8, hv8, h⟩ := bI h
      refine pn 1 rfl ?_
      refine pd (rIx hv8) ?_
      refine pn 5 rfl ?_
      refine COpsE.nil ?_
      refine COps.done [2, 3, 4] [] rfl ?_
      refine CWp.ret ?_
      cases h
      exact ⟨.inl rfl, rfl, rfl⟩
     ·refine CWp.skip ?_
      refine CWp.region ?_
      obtain ⟨v9, hv9, h⟩ := bI h
      refine rh 3 [] [47] rfl trivial ?_
      refine cApp hv9 ?_
      refine rh 1 [] [7] rfl trivial ?_
      refine COps.done [7, 20, 21, 22] [] rfl ?_
      refine CWp.region ?_
      refine rn 2 rfl (COps.done [7, 20, 21, 22] [] rfl ?_)
      exact ⟨_, _, rfl, h⟩
    ·refine CWp.keep [7] [] rfl ?_
     refine CWp.exit ?_
     exact ⟨_, rfl, h⟩
   ·rintro _ ⟨_, _, _, h⟩
    rw [g_script_Read_l2] at h; cases h
  ·rintro _ ⟨x2, rfl, h⟩
   unfold g_script_Read_k1 at h
   refine CWp.seq (CWp.region ?_)
   refine rh 4 [] [52, 2] rfl trivial ?_
   refine COps.done [2, 3, 4] [] rfl ?_
   refine CWp.ret ?_
   cases h
   exact ⟨.inl rfl, rfl, rfl⟩
def g_math_Abs (a0 : Nat) : Option Nat :=
 some (Int.toNat (IntKind.u64.wrap (BitVec.ofInt 64 (a0 : Int) &&& ~~~BitVec.ofInt 64 9223372036854775808).toNat))
theorem g_math_Abs_w {a0 : Nat} {r : Nat} (h : g_math_Abs a0 = some r) : PCall Tryz.prog 106 [zF a0] (zF r) := by
 refine PCall.body Tryz.func106 rfl rfl rfl rfl fun base => ?_
 unfold g_math_Abs at h
 refine CWp.seq (CWp.region ?_)
 refine rn 1 rfl (COps.done [0] [] rfl ?_)
 refine CWp.seq (CWp.region ?_)
 refine rn 1 rfl ?_
 refine rd (rExt (f64bits _)) ?_
 refine rn 1 rfl ?_
 refine rd (rExt (f64from _)) ?_
 refine rn 1 rfl (COps.done [2] [] rfl ?_)
 refine CWp.ret ?_
 cases h
 exact ⟨.inl rfl, rfl, rfl⟩
def g_math_IsInf (a0 : Nat) (a1 : Int) : Option Bool :=
 bif a1 == 0 then
  bO (g_math_Abs a0) fun v1 =>
  some (fGt v1 9218868437227405311)
 else
  bif decide (a1 < 0) then
   some (fGt (Op.negFloat .f64 a0) 9218868437227405311)
  else
   some (fGt a0 9218868437227405311)
theorem g_math_IsInf_w {a0 : Nat} {a1 : Int} {r : Bool} (h : g_math_IsInf a0 a1 = some r) : PCall Tryz.prog 65 [zF a0, zI a1] (zB r) := by
 refine PCall.body Tryz.func65 rfl rfl rfl rfl fun base => ?_
 unfold g_math_IsInf at h
 refine CWp.seq (CWp.region ?_)
 refine rn 1 rfl (COps.done [0, 1] [] rfl ?_)
 refine CWp.seq (CWp.seq (CWp.region ?_))
 refine rn 2 rfl (COps.done [0, 1, 6] [] rfl ?_)
 refine CWp.cond h rfl (fun h => ?_) (fun h => ?_)
 ·refine CWp.region ?_
  refine rn 1 rfl ?_
  obtain ⟨v1, hv1, h⟩ := bI h
  refine pCall Tryz.call106 (g_math_Abs_w hv1) rfl ?_
  refine rn 1 rfl (COps.done [0] [] rfl ?_)
  refine CWp.seq (CWp.region ?_)
  refine rn 3 rfl (COps.done [4] [] rfl ?_)
  refine CWp.ret ?_
  cases h
  exact ⟨.inl rfl, rfl, rfl⟩
 ·refine CWp.seq (CWp.region ?_)
  refine rn 2 rfl (COps.done [0, 10] [] rfl ?_)
  refine CWp.cond h rfl (fun h => ?_) (fun h => ?_)
  ·refine CWp.region ?_
   refine rn 3 rfl (COps.done [0] [] rfl ?_)
   refine CWp.seq (CWp.region ?_)
   refine rn 3 rfl (COps.done [4] [] rfl ?_)
   refine CWp.ret ?_
   cases h
   exact ⟨.inl rfl, rfl, rfl⟩
  ·refine CWp.skip ?_
   refine CWp.seq (CWp.region ?_)
   refine rn 3 rfl (COps.done [4] [] rfl ?_)
   refine CWp.ret ?_
   cases h
   exact ⟨.inl rfl, rfl, rfl⟩
def g_math_Signbit (a0 : Nat) : Option Bool :=
 some (decide ((w64 (a0 : Int)) < 0))
theorem g_math_Signbit_w {a0 : Nat} {r : Bool} (h : g_math_Signbit a0 = some r) : PCall Tryz.prog 66 [zF a0] (zB r) := by
 refine PCall.body Tryz.func66 rfl rfl rfl rfl fun base => ?_
 unfold g_math_Signbit at h
 refine CWp.seq (CWp.region ?_)
 refine rn 1 rfl (COps.done [0] [] rfl ?_)
 refine CWp.seq (CWp.region ?_)
 refine rn 1 rfl ?_
 refine rd (rExt (f64bits _)) ?_
 refine rn 3 rfl (COps.done [2] [] rfl ?_)
 refine CWp.ret ?_
 cases h
 exact ⟨.inl rfl, rfl, rfl⟩
def g_edge_Kind (a0 : Nat) : Option Int :=
 bif fNe a0 a0 then
  some 1
 else
  bO (g_math_IsInf a0 (-1)) fun v1 =>
  bif v1 then
   some 2
  else
   bO (g_math_IsInf a0 1) fun v2 =>
   bif v2 then
    some 7
   else
    bif fLt a0 0 then
     some 3
    else
     bif fGt a0 0 then
      some 6
     else
      bO (g_math_Signbit a0) fun v3 =>
      bif v3 then
       some 4
      else
       some 5
theorem g_edge_Kind_w {a0 : Nat} {r : Int} (h : g_edge_Kind a0 = some r) : PCall Tryz.prog 37 [zF a0] (zI r) := by
 refine PCall.body Tryz.func37 rfl rfl rfl rfl fun base => ?_
 unfold g_edge_Kind at h
 refine CWp.seq (CWp.region ?_)
 refine rn 1 rfl (COps.done [0] [] rfl ?_)
 refine CWp.seq (CWp.block ?_)
 refine CWp.seq (CWp.region ?_)
 refine rn 4 rfl (COps.done [0, 3] [] rfl ?_)
 refine CWp.cond h rfl (fun h => ?_) (fun h => ?_)
 ·refine CWp.seq (CWp.region ?_)
  refine rn 1 rfl (COps.done [2] [] rfl ?_)
  refine CWp.ret ?_
  cases h
  exact ⟨.inl rfl, rfl, rfl⟩
 ·refine CWp.seq (CWp.region ?_)
  refine rn 1 rfl ?_
  obtain ⟨v1, hv1, h⟩ := bI h
  refine pCall Tryz.call65 (g_math_IsInf_w hv1) rfl ?_
  refine rn 1 rfl (COps.done [0, 7] [] rfl ?_)
  refine CWp.cond h rfl (fun h => ?_) (fun h => ?_)
  ·refine CWp.seq (CWp.region ?_)
   refine rn 1 rfl (COps.done [2] [] rfl ?_)
   refine CWp.ret ?_
   cases h
   exact ⟨.inl rfl, rfl, rfl⟩
  ·refine CWp.seq (CWp.region ?_)
   refine rn 1 rfl ?_
   obtain ⟨v2, hv2, h⟩ := bI h
   refine pCall Tryz.call65 (g_math_IsInf_w hv2) rfl ?_
   refine rn 1 rfl (COps.done [0, 10] [] rfl ?_)
   refine CWp.cond h rfl (fun h => ?_) (fun h => ?_)
   ·refine CWp.seq (CWp.region ?_)
    refine rn 1 rfl (COps.done [2] [] rfl ?_)
    refine CWp.ret ?_
    cases h
    exact ⟨.inl rfl, rfl, rfl⟩
   ·refine CWp.seq (CWp.region ?_)
    refine rn 3 rfl (COps.done [0, 13] [] rfl ?_)
    refine CWp.cond h rfl (fun h => ?_) (fun h => ?_)
    ·refine CWp.seq (CWp.region ?_)
     refine rn 1 rfl (COps.done [2] [] rfl ?_)
     refine CWp.ret ?_
     cases h
     exact ⟨.inl rfl, rfl, rfl⟩
    ·refine CWp.seq (CWp.region ?_)
     refine rn 3 rfl (COps.done [0, 16] [] rfl ?_)
     refine CWp.cond h rfl (fun h => ?_) (fun h => ?_)
     ·refine CWp.seq (CWp.region ?_)
      refine rn 1 rfl (COps.done [2] [] rfl ?_)
      refine CWp.ret ?_
      cases h
      exact ⟨.inl rfl, rfl, rfl⟩
     ·refine CWp.seq (CWp.region ?_)
      refine rn 1 rfl ?_
      obtain ⟨v3, hv3, h⟩ := bI h
      refine pCall Tryz.call66 (g_math_Signbit_w hv3) rfl ?_
      refine rn 1 rfl (COps.done [19] [] rfl ?_)
      refine CWp.cond h rfl (fun h => ?_) (fun h => ?_)
      ·refine CWp.seq (CWp.region ?_)
       refine rn 1 rfl (COps.done [2] [] rfl ?_)
       refine CWp.ret ?_
       cases h
       exact ⟨.inl rfl, rfl, rfl⟩
      ·refine CWp.skip ?_
       refine CWp.seq (CWp.region ?_)
       refine rn 1 rfl (COps.done [2] [] rfl ?_)
       refine CWp.ret ?_
       cases h
       exact ⟨.inl rfl, rfl, rfl⟩
def g_script_nothing_k1 (a0 : SRaw) : Option Bool :=
 some ((a0.time == 0) && ((a0.use.length : Int) == 0))
def g_script_nothing (a0 : SRaw) : Option Bool :=
 bO (g_edge_Kind a0.avail.a) fun v1 =>
 bif v1 != 5 then
  some false
 else
  bO (g_edge_Kind a0.avail.b) fun v2 =>
  bif v2 != 5 then
   some false
  else
   bO (g_edge_Kind a0.avail.c) fun v3 =>
   bif v3 != 5 then
    some false
   else
    g_script_nothing_k1 a0
theorem g_script_nothing_w {a0 : SRaw} {r : Bool} (h : g_script_nothing a0 = some r) : PCall Tryz.prog 117 [eSRaw a0] (zB r) := by
 refine PCall.body Tryz.func117 rfl rfl rfl rfl fun base => ?_
 unfold g_script_nothing at h
 refine CWp.seq (CWp.region ?_)
 refine rn 2 rfl ?_
 refine COps.done [1] [1] rfl ?_
 refine CWp.mid (fun e => e = ⟨[(1, [], .lptr 1 0)], [], [(1, [zI a0.time, zF a0.avail.a, zF a0.avail.b, zF a0.avail.c, .list false 114 (a0.use.map eSUsage)])], [], base⟩ ∧ g_script_nothing_k1 a0 = some r) ?_ ?_
 ·refine CWp.seq (CWp.region ?_)
  refine rn 3 rfl ?_
  refine COps.done [1, 6, 7] [1] rfl ?_
  refine CWp.block ?_
  refine CWp.unroll 4 ?_
  refine crd ?_
  refine CWp.seq (CWp.region ?_)
  refine rn 1 rfl ?_
  refine COps.done [1, 6, 7, 8] [1] rfl ?_
  refine CWp.seq ?_
  refine CWp.condT rfl (by decide) ?_
  refine CWp.skip ?_
  refine CWp.seq (CWp.block ?_)
  refine CWp.seq (CWp.region ?_)
  refine rn 2 rfl ?_
  refine COps.done [1, 4, 6, 7] [1] rfl ?_
  refine CWp.seq (CWp.region ?_)
  refine rn 1 rfl ?_
  obtain ⟨v1, hv1, h⟩ := bI h
  refine pCall Tryz.call37 (g_edge_Kind_w hv1) rfl ?_
  refine rn 1 rfl ?_
  refine COps.done [1, 6, 7, 12] [1] rfl ?_
  refine CWp.cond h rfl (fun h => ?_) (fun h => ?_)
  ·refine CWp.seq (CWp.region ?_)
   refine rn 1 rfl (COps.done [2] [] rfl ?_)
   refine CWp.ret ?_
   cases h
   exact ⟨.inl rfl, rfl, rfl⟩
  ·refine CWp.skip ?_
   refine CWp.region ?_
   refine rn 2 rfl ?_
   refine COps.done [1, 6, 7] [1] rfl ?_
   refine crd ?_
   refine CWp.seq (CWp.region ?_)
   refine rn 1 rfl ?_
   refine COps.done [1, 6, 7, 8] [1] rfl ?_
   refine CWp.seq ?_
   refine CWp.condT rfl (by decide) ?_
   refine CWp.skip ?_
   refine CWp.seq (CWp.block ?_)
   refine CWp.seq (CWp.region ?_)
   refine rn 2 rfl ?_
   refine COps.done [1, 4, 6, 7] [1] rfl ?_
   refine CWp.seq (CWp.region ?_)
   refine rn 1 rfl ?_
   obtain ⟨v2, hv2, h⟩ := bI h
   refine pCall Tryz.call37 (g_edge_Kind_w hv2) rfl ?_
   refine rn 1 rfl ?_
   refine COps.done [1, 6, 7, 12] [1] rfl ?_
   refine CWp.cond h rfl (fun h => ?_) (fun h => ?_)
   ·refine CWp.seq (CWp.region ?_)
    refine rn 1 rfl (COps.done [2] [] rfl ?_)
    refine CWp.ret ?_
    cases h
    exact ⟨.inl rfl, rfl, rfl⟩
   ·refine CWp.skip ?_
    refine CWp.region ?_
    refine rn 2 rfl ?_
    refine COps.done [1, 6, 7] [1] rfl ?_
    refine crd ?_
    refine CWp.seq (CWp.region ?_)
    refine rn 1 rfl ?_
    refine COps.done [1, 6, 7, 8] [1] rfl ?_
    refine CWp.seq ?_
    refine CWp.condT rfl (by decide) ?_
    refine CWp.skip ?_
    refine CWp.seq (CWp.block ?_)
    refine CWp.seq (CWp.region ?_)
    refine rn 2 rfl ?_
    refine COps.done [1, 4, 6, 7] [1] rfl ?_
    refine CWp.seq (CWp.region ?_)
    refine rn 1 rfl ?_
    obtain ⟨v3, hv3, h⟩ := bI h
    refine pCall Tryz.call37 (g_edge_Kind_w hv3) rfl ?_
    refine rn 1 rfl ?_
    refine COps.done [1, 6, 7, 12] [1] rfl ?_
    refine CWp.cond h rfl (fun h => ?_) (fun h => ?_)
    ·refine CWp.seq (CWp.region ?_)
     refine rn 1 rfl (COps.done [2] [] rfl ?_)
     refine CWp.ret ?_
     cases h
     exact ⟨.inl rfl, rfl, rfl⟩
    ·refine CWp.skip ?_
     refine CWp.region ?_
     refine rn 2 rfl ?_
     refine COps.done [1, 6, 7] [1] rfl ?_
     refine crd ?_
     refine CWp.seq (CWp.region ?_)
     refine rn 1 rfl ?_
     refine COps.done [1, 6, 7, 8] [1] rfl ?_
     refine CWp.seq ?_
     refine CWp.condF rfl (by decide) ?_
     refine CWp.keep [1] [1] rfl ?_
     refine CWp.exit ?_
     exact ⟨rfl, h⟩
 ·rintro _ ⟨rfl, h⟩
  unfold g_script_nothing_k1 at h
  refine CWp.seq (CWp.region ?_)
  refine rh 10 [a0.use.length] [] rfl ⟨List.length_map .., trivial⟩ ?_
  refine COps.done [2] [] rfl ?_
  refine CWp.ret ?_
  cases h
  exact ⟨.inl rfl, rfl, rfl⟩
def g_script_rest (a0 : SAct) : Option Bool :=
 bO (bif (((a0.do_ == 1) || (qSPod a0.pod (⟨([] : List UInt8), 0, false, (⟨0, 0, 0⟩ : V3 Int), (⟨0, 0, 0⟩ : V3 Int), ([] : List UInt8), 0⟩ : SPod))) && ((a0.do_ == 2) || (a0.id == ([] : List UInt8)))) then (bif (a0.do_ == 4) then some default else (g_script_nothing a0.raw)) else some default) fun v1 =>
 some ((((((a0.do_ == 1) || (qSPod a0.pod (⟨([] : List UInt8), 0, false, (⟨0, 0, 0⟩ : V3 Int), (⟨0, 0, 0⟩ : V3 Int), ([] : List UInt8), 0⟩ : SPod))) && ((a0.do_ == 2) || (a0.id == ([] : List UInt8)))) && ((a0.do_ == 4) || v1)) && ((a0.do_ == 5) || ((a0.well.length : Int) == 0))) && ((a0.do_ == 6) || ((a0.steps == 0) && ((a0.keep.length : Int) == 0))))
theorem g_script_rest_w {a0 : SAct} {r : Bool} (h : g_script_rest a0 = some r) : PCall Tryz.prog 85 [eSAct a0] (zB r) := by
 refine PCall.body Tryz.func85 rfl rfl rfl rfl fun base => ?_
 unfold g_script_rest at h
 refine CWp.seq (CWp.region ?_)
 refine rn 2 rfl ?_
 refine COps.done [1] [1] rfl ?_
 refine CWp.seq (CWp.region ?_)
 refine rn 7 rfl ?_
 refine rdg 6 false [] (fun _ => rEq (a := a0.pod) (b := (⟨([] : List UInt8), 0, false, (⟨0, 0, 0⟩ : V3 Int), (⟨0, 0, 0⟩ : V3 Int), ([] : List UInt8), 0⟩ : SPod)) EqSPod) ?_
 refine rn 18 rfl ?_
 refine COps.keepG [1, 22, 26, 28] rfl ?_
 obtain ⟨v1, hv1, h⟩ := bI h
 refine pCallg 26 false [(22, true)] Tryz.call117 (fun ht => g_script_nothing_w (gdf (gd hv1 (ht.2.1 _ rfl)) (ht.1 _ rfl))) rfl ?_
 refine rh 30 [a0.well.length, a0.keep.length] [] rfl ⟨List.length_map .., List.length_map .., trivial⟩ ?_
 refine COps.done [2] [] rfl ?_
 refine CWp.ret ?_
 cases h
 exact ⟨.inl rfl, rfl, rfl⟩
def g_script_fields_put_k2 (a0 : Sfields) (x5 : List SField) : Option Sfields :=
 some (⟨x5, a0.bad⟩ : Sfields)
def g_script_fields_put_l1 (a1 : List (List UInt8)) (k290 : (List SField) → Option Sfields) : Nat → (List SField) → Int → Option Sfields
 | 0, _, _ => none
 | m1 + 1, x1, x2 =>
  bif decide (x2 < (a1.length : Int)) then
   bO (idx a1 x2) fun v6 =>
   bO (appO x1 [(⟨v6, 0, 0⟩ : SField)]) fun v7 =>
   (g_script_fields_put_l1 a1 k290 m1) v7 (w64 (x2 + 1))
  else
   k290 x1
def g_script_fields_put (a0 : Sfields) (a1 : List (List UInt8)) : Option Sfields :=
 g_script_fields_put_l1 a1 (g_script_fields_put_k2 a0) FUEL a0.l 0
theorem g_script_fields_put_w {a0 : Sfields} {a1 : List (List UInt8)} {i0 : Nat} {r : Sfields} (h : g_script_fields_put a0 a1 = some r) : FCall Tryz.prog 86 [.gptr i0 0, .list false 9 (a1.map AV.str)] [(i0, [.list true 81 (a0.l.map eSField), zB a0.bad])] (fun v outs => v = .tuple [] ∧ outs = [(i0, [.list true 81 (r.l.map eSField), zB r.bad])]) := by
 refine FCall.of Tryz.func86 rfl rfl rfl rfl fun base => ?_
 unfold g_script_fields_put at h
 refine CWp.seq (CWp.region ?_)
 refine rh 3 [a1.length] [] rfl ⟨List.length_map .., trivial⟩ ?_
 refine COps.done [0, 6, 7, 8] [] rfl ?_
 refine CWp.block ?_
 refine CWp.loop (fun m1 e => ∃ x1 x2, e = ⟨[(0, [], .gptr i0 0), (6, [], .list false 9 (a1.map AV.str)), (7, [], zI (a1.length : Int)), (8, [], zI x2)], [], [], [(i0, [.list true 81 (x1.map eSField), zB a0.bad])], base⟩ ∧ g_script_fields_put_l1 a1 (g_script_fields_put_k2 a0) m1 x1 x2 = some r) FUEL ⟨_, _, rfl, h⟩ ?_ ?_
 ·rintro m1 _ ⟨x1, x2, rfl, h⟩
  rw [g_script_fields_put_l1] at h
  refine CWp.seq (CWp.region ?_)
  refine rn 1 rfl (COps.done [0, 6, 7, 8, 9] [] rfl ?_)
  refine CWp.seq ?_
  refine CWp.cond h rfl (fun h => ?_) (fun h => ?_)
  ·refine CWp.skip ?_
   refine CWp.seq (CWp.block ?_)
   refine CWp.seq (CWp.region ?_)
   obtain ⟨v6, hv6, h⟩ := bI h
   refine rd (rIx hv6) ?_
   refine rn 2 rfl (COps.done [0, 5, 6, 7, 8] [] rfl ?_)
   refine CWp.region ?_
   obtain ⟨v7, hv7, h⟩ := bI h
   refine rh 8 [0] [16] rfl ⟨rfl, trivial⟩ ?_
   refine cApp hv7 ?_
   refine rh 3 [0] [20] rfl ⟨rfl, trivial⟩ ?_
   refine COps.done [0, 6, 7, 8] [] rfl ?_
   refine CWp.region ?_
   refine rn 2 rfl (COps.done [0, 6, 7, 8] [] rfl ?_)
   exact ⟨_, _, rfl, h⟩
  ·refine CWp.exit ?_
   unfold g_script_fields_put_k2 at h
   cases h
   exact ⟨.inr rfl, _, [0], _, _, rfl, rfl, rfl, rfl, rfl⟩
 ·rintro _ ⟨_, _, _, h⟩
  rw [g_script_fields_put_l1] at h; cases h
def g_script_fields_word (a0 : Sfields) (a1 : List UInt8) : Option Sfields :=
 bO (bif a0.bad then some default else (g_script_Word a1)) fun v1 =>
 bO (g_script_fields_put (⟨a0.l, a0.bad || (!v1)⟩ : Sfields) [a1]) fun v2 =>
 some v2
theorem g_script_fields_word_w {a0 : Sfields} {a1 : List UInt8} {i0 : Nat} {r : Sfields} (h : g_script_fields_word a0 a1 = some r) : FCall Tryz.prog 88 [.gptr i0 0, .str a1] [(i0, [.list true 81 (a0.l.map eSField), zB a0.bad])] (fun v outs => v = .tuple [] ∧ outs = [(i0, [.list true 81 (r.l.map eSField), zB r.bad])]) := by
 refine FCall.of Tryz.func88 rfl rfl rfl rfl fun base => ?_
 unfold g_script_fields_word at h
 refine CWp.seq (CWp.region ?_)
 refine rh 7 [0] [] rfl ⟨rfl, trivial⟩ ?_
 obtain ⟨v1, hv1, h⟩ := bI h
 refine pCallg 9 false [] Tryz.call14 (fun ht => g_script_Word_w (gdf hv1 (ht.1 _ rfl))) rfl ?_
 refine rn 4 rfl ?_
 refine COps.keep [0, 1, 13, 15] [] rfl ?_
 refine rh 1 [0] [] rfl ⟨rfl, trivial⟩ ?_
 refine COps.done [0, 1] [] rfl ?_
 refine CWp.region ?_
 refine rn 3 rfl ?_
 obtain ⟨v2, hv2, h⟩ := bI h
 refine cCall [0] Tryz.call86 (g_script_fields_put_w hv2) rfl rfl ?_
 rintro _ _ ⟨rfl, rfl⟩
 refine COps.done [] [] rfl ?_
 cases h
 exact ⟨.inr rfl, _, [0], _, _, rfl, rfl, rfl, rfl, rfl⟩
def g_quant_Print_k1 (a0 : Int) : Option (List UInt8) :=
 bO (itoaO (max a0 0)) fun v1 =>
 some v1
def g_quant_Print_l2 (a0 : Int) (v2 : List Sunit) (k290 : Option (List UInt8)) : Nat → Int → Option (List UInt8)
 | 0, _ => none
 | m2 + 1, x3 =>
  bif decide (x3 < (v2.length : Int)) then
   bO (idx v2 x3) fun v4 =>
   bO (bif (decide ((max a0 0) > 0)) then (remO (max a0 0) v4.n) else some default) fun v5 =>
   bif (decide ((max a0 0) > 0)) && (v5 == 0) then
    bO (quoO .i64 (max a0 0) v4.n) fun v6 =>
    bO (itoaO v6) fun v7 =>
    bO (appO v7 v4.name) fun v8 =>
    some v8
   else
    (g_quant_Print_l2 a0 v2 k290 m2) (w64 (x3 + 1))
  else
   k290
def g_quant_Print (a0 : Int) : Option (List UInt8) :=
 bO (g_quant_units) fun v2 =>
 g_quant_Print_l2 a0 v2 (g_quant_Print_k1 a0) FUEL 0
theorem g_quant_Print_w {a0 : Int} {r : List UInt8} (h : g_quant_Print a0 = some r) : PCall Tryz.prog 39 [zI a0] (.str r) := by
 refine PCall.body Tryz.func39 rfl rfl rfl rfl fun base => ?_
 unfold g_quant_Print at h
 refine CWp.seq (CWp.region ?_)
 refine rn 1 rfl (COps.done [0] [] rfl ?_)
 refine CWp.seq (CWp.region ?_)
 refine rn 3 rfl (COps.done [0] [] rfl ?_)
 refine CWp.mid (fun e => e = ⟨[(0, [], zI (max a0 0))], [], [], [], base⟩ ∧ g_quant_Print_k1 a0 = some r) ?_ ?_
 ·refine CWp.seq (CWp.region ?_)
  obtain ⟨v2, hv2, h⟩ := bI h
  refine pCall Tryz.call69 (g_quant_units_w hv2) rfl ?_
  refine rh 2 [v2.length] [] rfl ⟨List.length_map .., trivial⟩ ?_
  refine COps.done [0, 7, 8, 9] [] rfl ?_
  refine CWp.block ?_
  refine CWp.loop (fun m2 e => ∃ x3, e = ⟨[(0, [], zI (max a0 0)), (7, [], .list true 105 (v2.map eSunit)), (8, [], zI (v2.length : Int)), (9, [], zI x3)], [], [], [], base⟩ ∧ g_quant_Print_l2 a0 v2 (g_quant_Print_k1 a0) m2 x3 = some r) FUEL ⟨_, rfl, h⟩ ?_ ?_
  ·rintro m2 _ ⟨x3, rfl, h⟩
   rw [g_quant_Print_l2] at h
   refine CWp.seq (CWp.region ?_)
   refine rn 1 rfl (COps.done [0, 7, 8, 9, 10] [] rfl ?_)
   refine CWp.seq ?_
   refine CWp.cond h rfl (fun h => ?_) (fun h => ?_)
   ·refine CWp.skip ?_
    refine CWp.seq (CWp.block ?_)
    refine CWp.seq (CWp.region ?_)
    obtain ⟨v4, hv4, h⟩ := bI h
    refine rd (rIx hv4) ?_
    refine rn 3 rfl ?_
    refine COps.done [0, 4, 7, 8, 9] [4] rfl ?_
    refine CWp.seq (CWp.region ?_)
    obtain ⟨v5, hv5, h⟩ := bI h
    refine rn 6 rfl ?_
    refine rdg 15 true [] (fun ht => rRem (gd hv5 (ht.1 _ rfl))) ?_
    refine rn 2 rfl ?_
    refine COps.done [0, 4, 7, 8, 9, 21] [4] rfl ?_
    refine CWp.cond h rfl (fun h => ?_) (fun h => ?_)
    ·refine CWp.seq ?_
     refine CWp.drawn 9 (by kernel_rfl) ?_
     obtain ⟨v6, hv6, h⟩ := bI h
     refine pn 3 rfl ?_
     refine pd (rQuo hv6) ?_
     obtain ⟨v7, hv7, h⟩ := bI h
     refine qCall Tryz.call70 (itoaO_w hv7) rfl ?_
     obtain ⟨v8, hv8, h⟩ := bI h
     refine pn 2 rfl ?_
     refine pd (rCat hv8) ?_
     refine pn 1 rfl ?_
     refine COpsE.nil ?_
     refine COps.done [2] [] rfl ?_
     refine CWp.ret ?_
     cases h
     exact ⟨.inl rfl, rfl, rfl⟩
    ·refine CWp.skip ?_
     refine CWp.region ?_
     refine rn 2 rfl (COps.done [0, 7, 8, 9] [] rfl ?_)
     exact ⟨_, rfl, h⟩
   ·refine CWp.keep [0] [] rfl ?_
    refine CWp.exit ?_
    exact ⟨rfl, h⟩
  ·rintro _ ⟨_, _, h⟩
   rw [g_quant_Print_l2] at h; cases h
 ·rintro _ ⟨rfl, h⟩
  unfold g_quant_Print_k1 at h
  refine CWp.seq (CWp.region ?_)
  refine rn 1 rfl ?_
  obtain ⟨v1, hv1, h⟩ := bI h
  refine pCall Tryz.call70 (itoaO_w hv1) rfl ?_
  refine rn 1 rfl (COps.done [2] [] rfl ?_)
  refine CWp.ret ?_
  cases h
  exact ⟨.inl rfl, rfl, rfl⟩
def g_script_fields_quantities_k2 (x6 : List SField) (x7 : Bool) : Option Sfields :=
 some (⟨x6, x7⟩ : Sfields)
def g_script_fields_quantities_l1 (a1 : List Int) (k290 : (List SField) → Bool → Option Sfields) : Nat → (List SField) → Bool → Int → Option Sfields
 | 0, _, _, _ => none
 | m1 + 1, x1, x2, x3 =>
  bif decide (x3 < (a1.length : Int)) then
   bO (idx a1 x3) fun v8 =>
   bO (g_quant_Print v8) fun v9 =>
   bO (g_script_fields_put (⟨x1, x2 || (decide (v8 < 0))⟩ : Sfields) [v9]) fun v10 =>
   (g_script_fields_quantities_l1 a1 k290 m1) v10.l v10.bad (w64 (x3 + 1))
  else
   k290 x1 x2
def g_script_fields_quantities (a0 : Sfields) (a1 : List Int) : Option Sfields :=
 g_script_fields_quantities_l1 a1 g_script_fields_quantities_k2 FUEL a0.l a0.bad 0
theorem g_script_fields_quantities_w {a0 : Sfields} {a1 : List Int} {i0 : Nat} {r : Sfields} (h : g_script_fields_quantities a0 a1 = some r) : FCall Tryz.prog 118 [.gptr i0 0, .list false 3 (a1.map zI)] [(i0, [.list true 81 (a0.l.map eSField), zB a0.bad])] (fun v outs => v = .tuple [] ∧ outs = [(i0, [.list true 81 (r.l.map eSField), zB r.bad])]) := by
 refine FCall.of Tryz.func118 rfl rfl rfl rfl fun base => ?_
 unfold g_script_fields_quantities at h
 refine CWp.seq (CWp.region ?_)
 refine rh 3 [a1.length] [] rfl ⟨List.length_map .., trivial⟩ ?_
 refine COps.done [0, 6, 7, 8] [] rfl ?_
 refine CWp.block ?_
 refine CWp.loop (fun m1 e => ∃ x1 x2 x3, e = ⟨[(0, [], .gptr i0 0), (6, [], .list false 3 (a1.map zI)), (7, [], zI (a1.length : Int)), (8, [], zI x3)], [], [], [(i0, [.list true 81 (x1.map eSField), zB x2])], base⟩ ∧ g_script_fields_quantities_l1 a1 (g_script_fields_quantities_k2) m1 x1 x2 x3 = some r) FUEL ⟨_, _, _, rfl, h⟩ ?_ ?_
 ·rintro m1 _ ⟨x1, x2, x3, rfl, h⟩
  rw [g_script_fields_quantities_l1] at h
  refine CWp.seq (CWp.region ?_)
  refine rn 1 rfl (COps.done [0, 6, 7, 8, 9] [] rfl ?_)
  refine CWp.seq ?_
  refine CWp.cond h rfl (fun h => ?_) (fun h => ?_)
  ·refine CWp.skip ?_
   refine CWp.seq (CWp.block ?_)
   refine CWp.seq (CWp.region ?_)
   obtain ⟨v8, hv8, h⟩ := bI h
   refine rd (rIx hv8) ?_
   refine rn 2 rfl (COps.done [0, 5, 6, 7, 8] [] rfl ?_)
   refine CWp.seq (CWp.region ?_)
   refine rh 11 [0] [] rfl ⟨rfl, trivial⟩ ?_
   refine COps.keep [0, 5, 6, 7, 8, 20, 22] [] rfl ?_
   refine rh 1 [0] [] rfl ⟨rfl, trivial⟩ ?_
   refine COps.done [0, 5, 6, 7, 8] [] rfl ?_
   refine CWp.region ?_
   refine rn 2 rfl ?_
   obtain ⟨v9, hv9, h⟩ := bI h
   refine pCall Tryz.call39 (g_quant_Print_w hv9) rfl ?_
   refine rn 1 rfl ?_
   obtain ⟨v10, hv10, h⟩ := bI h
   refine cCall [0] Tryz.call86 (g_script_fields_put_w hv10) rfl rfl ?_
   rintro _ _ ⟨rfl, rfl⟩
   refine COps.done [0, 6, 7, 8] [] rfl ?_
   refine CWp.region ?_
   refine rn 2 rfl (COps.done [0, 6, 7, 8] [] rfl ?_)
   exact ⟨_, _, _, rfl, h⟩
  ·refine CWp.exit ?_
   unfold g_script_fields_quantities_k2 at h
   cases h
   exact ⟨.inr rfl, _, [0], _, _, rfl, rfl, rfl, rfl, rfl⟩
 ·rintro _ ⟨_, _, _, _, h⟩
  rw [g_script_fields_quantities_l1] at h; cases h
def g_script_fields_whole (a0 : Sfields) (a1 : Int) : Option Sfields :=
 bO (bif a0.bad then some default else (g_script_in a1)) fun v1 =>
 bO (itoaO a1) fun v2 =>
 bO (g_script_fields_put (⟨a0.l, a0.bad || (!v1)⟩ : Sfields) [v2]) fun v3 =>
 some v3
theorem g_script_fields_whole_w {a0 : Sfields} {a1 : Int} {i0 : Nat} {r : Sfields} (h : g_script_fields_whole a0 a1 = some r) : FCall Tryz.prog 89 [.gptr i0 0, zI a1] [(i0, [.list true 81 (a0.l.map eSField), zB a0.bad])] (fun v outs => v = .tuple [] ∧ outs = [(i0, [.list true 81 (r.l.map eSField), zB r.bad])]) := by
 refine FCall.of Tryz.func89 rfl rfl rfl rfl fun base => ?_
 unfold g_script_fields_whole at h
 refine CWp.seq (CWp.region ?_)
 refine rh 7 [0] [] rfl ⟨rfl, trivial⟩ ?_
 obtain ⟨v1, hv1, h⟩ := bI h
 refine pCallg 9 false [] Tryz.call114 (fun ht => g_script_in_w (gdf hv1 (ht.1 _ rfl))) rfl ?_
 refine rn 4 rfl ?_
 refine COps.keep [0, 1, 13, 15] [] rfl ?_
 refine rh 1 [0] [] rfl ⟨rfl, trivial⟩ ?_
 refine COps.done [0, 1] [] rfl ?_
 refine CWp.region ?_
 refine rn 2 rfl ?_
 obtain ⟨v2, hv2, h⟩ := bI h
 refine pCall Tryz.call70 (itoaO_w hv2) rfl ?_
 refine rn 1 rfl ?_
 obtain ⟨v3, hv3, h⟩ := bI h
 refine cCall [0] Tryz.call86 (g_script_fields_put_w hv3) rfl rfl ?_
 rintro _ _ ⟨rfl, rfl⟩
 refine COps.done [] [] rfl ?_
 cases h
 exact ⟨.inr rfl, _, [0], _, _, rfl, rfl, rfl, rfl, rfl⟩
def g_script_fields_either (a0 : Sfields) (a1 : Bool) (a2 : List UInt8) (a3 : List UInt8) : Option Sfields :=
 bif a1 then
  bO (g_script_fields_put a0 [a2]) fun v1 =>
  some v1
 else
  bO (g_script_fields_put a0 [a3]) fun v2 =>
  some v2
theorem g_script_fields_either_w {a0 : Sfields} {a1 : Bool} {a2 : List UInt8} {a3 : List UInt8} {i0 : Nat} {r : Sfields} (h : g_script_fields_either a0 a1 a2 a3 = some r) : FCall Tryz.prog 91 [.gptr i0 0, zB a1, .str a2, .str a3] [(i0, [.list true 81 (a0.l.map eSField), zB a0.bad])] (fun v outs => v = .tuple [] ∧ outs = [(i0, [.list true 81 (r.l.map eSField), zB r.bad])]) := by
 refine FCall.of Tryz.func91 rfl rfl rfl rfl fun base => ?_
 unfold g_script_fields_either at h
 refine CWp.seq (CWp.region ?_)
 refine rn 1 rfl (COps.done [0, 2, 3, 8] [] rfl ?_)
 refine CWp.cond h rfl (fun h => ?_) (fun h => ?_)
 ·refine CWp.region ?_
  refine rn 3 rfl ?_
  obtain ⟨v1, hv1, h⟩ := bI h
  refine cCall [0] Tryz.call86 (g_script_fields_put_w hv1) rfl rfl ?_
  rintro _ _ ⟨rfl, rfl⟩
  refine COps.done [] [] rfl ?_
  cases h
  exact ⟨.inr rfl, _, [0], _, _, rfl, rfl, rfl, rfl, rfl⟩
 ·refine CWp.region ?_
  refine rn 3 rfl ?_
  obtain ⟨v2, hv2, h⟩ := bI h
  refine cCall [0] Tryz.call86 (g_script_fields_put_w hv2) rfl rfl ?_
  rintro _ _ ⟨rfl, rfl⟩
  refine COps.done [] [] rfl ?_
  cases h
  exact ⟨.inr rfl, _, [0], _, _, rfl, rfl, rfl, rfl, rfl⟩
def g_script_fields_pod (a0 : Sfields) (a1 : SPod) : Option Sfields :=
 bO (g_script_fields_word a0 a1.id) fun v1 =>
 bO (g_script_fields_word v1 a1.image) fun v2 =>
 bO (g_script_fields_quantities v2 [a1.size]) fun v3 =>
 bO (g_script_fields_whole v3 a1.prio) fun v4 =>
 bO (g_script_fields_either v4 a1.critical [99, 114, 105, 116, 105, 99, 97, 108] [112, 108, 97, 105, 110]) fun v5 =>
 bO (g_script_fields_quantities v5 [a1.req.a, a1.req.b, a1.req.c]) fun v6 =>
 bif !(q3_Int a1.lim (⟨0, 0, 0⟩ : V3 Int)) then
  bO (g_script_fields_quantities v6 [a1.lim.a, a1.lim.b, a1.lim.c]) fun v7 =>
  some v7
 else
  some v6
theorem g_script_fields_pod_w {a0 : Sfields} {a1 : SPod} {i0 : Nat} {r : Sfields} (h : g_script_fields_pod a0 a1 = some r) : FCall Tryz.prog 87 [.gptr i0 0, eSPod a1] [(i0, [.list true 81 (a0.l.map eSField), zB a0.bad])] (fun v outs => v = .tuple [] ∧ outs = [(i0, [.list true 81 (r.l.map eSField), zB r.bad])]) := by
 refine FCall.of Tryz.func87 rfl rfl rfl rfl fun base => ?_
 unfold g_script_fields_pod at h
 refine CWp.seq (CWp.region ?_)
 refine rn 1 rfl ?_
 refine COps.done [0, 3] [3] rfl ?_
 refine CWp.seq (CWp.region ?_)
 refine rn 3 rfl ?_
 obtain ⟨v1, hv1, h⟩ := bI h
 refine cCall [0] Tryz.call88 (g_script_fields_word_w hv1) rfl rfl ?_
 rintro _ _ ⟨rfl, rfl⟩
 refine COps.done [0, 3] [3] rfl ?_
 refine CWp.seq (CWp.region ?_)
 refine rn 3 rfl ?_
 obtain ⟨v2, hv2, h⟩ := bI h
 refine cCall [0] Tryz.call88 (g_script_fields_word_w hv2) rfl rfl ?_
 rintro _ _ ⟨rfl, rfl⟩
 refine COps.done [0, 3] [3] rfl ?_
 refine CWp.seq (CWp.region ?_)
 refine rn 4 rfl ?_
 obtain ⟨v3, hv3, h⟩ := bI h
 refine cCall [0] Tryz.call118 (g_script_fields_quantities_w hv3) rfl rfl ?_
 rintro _ _ ⟨rfl, rfl⟩
 refine COps.done [0, 3] [3] rfl ?_
 refine CWp.seq (CWp.region ?_)
 refine rn 3 rfl ?_
 obtain ⟨v4, hv4, h⟩ := bI h
 refine cCall [0] Tryz.call89 (g_script_fields_whole_w hv4) rfl rfl ?_
 rintro _ _ ⟨rfl, rfl⟩
 refine COps.done [0, 3] [3] rfl ?_
 refine CWp.seq (CWp.region ?_)
 refine rn 3 rfl ?_
 obtain ⟨v5, hv5, h⟩ := bI h
 refine cCall [0] Tryz.call91 (g_script_fields_either_w hv5) rfl rfl ?_
 rintro _ _ ⟨rfl, rfl⟩
 refine COps.done [0, 3] [3] rfl ?_
 refine CWp.seq (CWp.region ?_)
 refine rn 2 rfl ?_
 refine cFreeze 3 ?_
 refine rd (rArr [a1.req.a, a1.req.b, a1.req.c] zI) ?_
 obtain ⟨v6, hv6, h⟩ := bI h
 refine cCall [0] Tryz.call118 (g_script_fields_quantities_w hv6) rfl rfl ?_
 rintro _ _ ⟨rfl, rfl⟩
 refine COps.done [0, 3] [] rfl ?_
 refine CWp.seq (CWp.region ?_)
 refine rn 3 rfl ?_
 refine rd (rNe (a := a1.lim) (b := (⟨0, 0, 0⟩ : V3 Int)) Eq3_Int) ?_
 refine COps.done [0, 3, 32] [] rfl ?_
 refine CWp.cond h rfl (fun h => ?_) (fun h => ?_)
 ·refine CWp.region ?_
  refine rn 2 rfl ?_
  refine rd (rArr [a1.lim.a, a1.lim.b, a1.lim.c] zI) ?_
  obtain ⟨v7, hv7, h⟩ := bI h
  refine cCall [0] Tryz.call118 (g_script_fields_quantities_w hv7) rfl rfl ?_
  rintro _ _ ⟨rfl, rfl⟩
  refine COps.done [] [] rfl ?_
  cases h
  exact ⟨.inr rfl, _, [0], _, _, rfl, rfl, rfl, rfl, rfl⟩
 ·refine CWp.skip ?_
  cases h
  exact ⟨.inr rfl, _, [0], _, _, rfl, rfl, rfl, rfl, rfl⟩
def g_math_Floor (a0 : Nat) : Option Nat :=
 bO (floorO a0) fun v1 =>
 some v1
theorem g_math_Floor_w {a0 : Nat} {r : Nat} (h : g_math_Floor a0 = some r) : PCall Tryz.prog 38 [zF a0] (zF r) := by
 refine PCall.body Tryz.func38 rfl rfl rfl rfl fun base => ?_
 unfold g_math_Floor at h
 refine CWp.seq (CWp.region ?_)
 refine rn 1 rfl (COps.done [0] [] rfl ?_)
 refine CWp.seq ?_
 refine CWp.condT rfl (by decide) ?_
 refine CWp.seq (CWp.region ?_)
 refine rn 1 rfl ?_
 obtain ⟨v1, hv1, h⟩ := bI h
 refine rd (rExt (f64floor hv1)) ?_
 refine rn 1 rfl (COps.done [2] [] rfl ?_)
 refine CWp.ret ?_
 cases h
 exact ⟨.inl rfl, rfl, rfl⟩
def g_script_Show (a0 : Nat) : Option ((List UInt8) × Bool) :=
 bO (g_edge_Kind a0) fun v1 =>
 bif v1 == 1 then
  some ([110, 97, 110], true)
 else
  bif v1 == 7 then
   some ([105, 110, 102], true)
  else
   bif v1 == 2 then
    some ([45, 105, 110, 102], true)
   else
    bif v1 == 4 then
     some ([45, 48], true)
    else
     bO (bif ((fLt a0 0) || (fGt a0 4845873199050653696)) then some default else (g_math_Floor a0)) fun v2 =>
     bif ((fLt a0 0) || (fGt a0 4845873199050653696)) || (fNe a0 v2) then
      some (([] : List UInt8), false)
     else
      bO (f2i a0) fun v3 =>
      bO (g_quant_Print v3) fun v4 =>
      some (v4, true)
theorem g_script_Show_w {a0 : Nat} {r : (List UInt8) × Bool} (h : g_script_Show a0 = some r) : PCall Tryz.prog 18 [zF a0] (.tuple [.str r.1, zB r.2]) := by
 refine PCall.body Tryz.func18 rfl rfl rfl rfl fun base => ?_
 unfold g_script_Show at h
 refine CWp.seq (CWp.region ?_)
 refine rn 2 rfl (COps.done [0] [] rfl ?_)
 refine CWp.seq (CWp.seq (CWp.region ?_))
 refine rn 1 rfl ?_
 obtain ⟨v1, hv1, h⟩ := bI h
 refine pCall Tryz.call37 (g_edge_Kind_w hv1) rfl ?_
 refine COps.done [0, 5] [] rfl ?_
 refine CWp.block ?_
 refine CWp.seq (CWp.region ?_)
 refine rn 2 rfl (COps.done [0, 5, 6] [] rfl ?_)
 refine CWp.cond h rfl (fun h => ?_) (fun h => ?_)
 ·refine CWp.seq (CWp.region ?_)
  refine rn 2 rfl (COps.done [2, 3] [] rfl ?_)
  refine CWp.ret ?_
  cases h
  exact ⟨.inl rfl, rfl, rfl⟩
 ·refine CWp.seq (CWp.region ?_)
  refine rn 2 rfl (COps.done [0, 5, 8] [] rfl ?_)
  refine CWp.cond h rfl (fun h => ?_) (fun h => ?_)
  ·refine CWp.seq (CWp.region ?_)
   refine rn 2 rfl (COps.done [2, 3] [] rfl ?_)
   refine CWp.ret ?_
   cases h
   exact ⟨.inl rfl, rfl, rfl⟩
  ·refine CWp.seq (CWp.region ?_)
   refine rn 2 rfl (COps.done [0, 5, 10] [] rfl ?_)
   refine CWp.cond h rfl (fun h => ?_) (fun h => ?_)
   ·refine CWp.seq (CWp.region ?_)
    refine rn 2 rfl (COps.done [2, 3] [] rfl ?_)
    refine CWp.ret ?_
    cases h
    exact ⟨.inl rfl, rfl, rfl⟩
   ·refine CWp.seq (CWp.region ?_)
    refine rn 2 rfl (COps.done [0, 12] [] rfl ?_)
    refine CWp.cond h rfl (fun h => ?_) (fun h => ?_)
    ·refine CWp.seq (CWp.region ?_)
     refine rn 2 rfl (COps.done [2, 3] [] rfl ?_)
     refine CWp.ret ?_
     cases h
     exact ⟨.inl rfl, rfl, rfl⟩
    ·refine CWp.skip ?_
     refine CWp.seq (CWp.seq (CWp.region ?_))
     refine rn 9 rfl ?_
     refine COps.keepG [0, 20, 21, 22] rfl ?_
     obtain ⟨v2, hv2, h⟩ := bI h
     refine pCallg 20 false [] Tryz.call38 (fun ht => g_math_Floor_w (gdf hv2 (ht.1 _ rfl))) rfl ?_
     refine rn 2 rfl (COps.done [0, 25] [] rfl ?_)
     refine CWp.cond h rfl (fun h => ?_) (fun h => ?_)
     ·refine CWp.seq (CWp.region ?_)
      refine rn 2 rfl (COps.done [2, 3] [] rfl ?_)
      refine CWp.ret ?_
      cases h
      exact ⟨.inl rfl, rfl, rfl⟩
     ·refine CWp.skip ?_
      refine CWp.seq (CWp.region ?_)
      obtain ⟨v3, hv3, h⟩ := bI h
      refine rn 1 rfl ?_
      refine rd (rF2i hv3) ?_
      obtain ⟨v4, hv4, h⟩ := bI h
      refine pCall Tryz.call39 (g_quant_Print_w hv4) rfl ?_
      refine rn 2 rfl (COps.done [2, 3] [] rfl ?_)
      refine CWp.ret ?_
      cases h
      exact ⟨.inl rfl, rfl, rfl⟩
def g_script_fields_amounts (a0 : Sfields) (a1 : V3 Nat) : Option Sfields :=
 bO (g_script_Show a1.a) fun v1 =>
 bO (g_script_fields_put (⟨a0.l, a0.bad || (!v1.2)⟩ : Sfields) [v1.1]) fun v2 =>
 bO (g_script_Show a1.b) fun v3 =>
 bO (g_script_fields_put (⟨v2.l, v2.bad || (!v3.2)⟩ : Sfields) [v3.1]) fun v4 =>
 bO (g_script_Show a1.c) fun v5 =>
 bO (g_script_fields_put (⟨v4.l, v4.bad || (!v5.2)⟩ : Sfields) [v5.1]) fun v6 =>
 some v6
theorem g_script_fields_amounts_w {a0 : Sfields} {a1 : V3 Nat} {i0 : Nat} {r : Sfields} (h : g_script_fields_amounts a0 a1 = some r) : FCall Tryz.prog 90 [.gptr i0 0, e3_Nat a1] [(i0, [.list true 81 (a0.l.map eSField), zB a0.bad])] (fun v outs => v = .tuple [] ∧ outs = [(i0, [.list true 81 (r.l.map eSField), zB r.bad])]) := by
 refine FCall.of Tryz.func90 rfl rfl rfl rfl fun base => ?_
 unfold g_script_fields_amounts at h
 refine CWp.seq (CWp.region ?_)
 refine rn 1 rfl ?_
 refine COps.done [0, 3] [3] rfl ?_
 refine CWp.seq (CWp.region ?_)
 refine rn 2 rfl (COps.done [0, 8, 9] [] rfl ?_)
 refine CWp.block ?_
 refine CWp.unroll 4 ?_
 refine crd ?_
 refine CWp.seq (CWp.region ?_)
 refine rn 1 rfl (COps.done [0, 8, 9, 10] [] rfl ?_)
 refine CWp.seq ?_
 refine CWp.condT rfl (by decide) ?_
 refine CWp.skip ?_
 refine CWp.seq (CWp.block ?_)
 refine CWp.seq (CWp.region ?_)
 refine rn 2 rfl (COps.done [0, 5, 8, 9] [] rfl ?_)
 refine CWp.seq (CWp.region ?_)
 refine rn 1 rfl ?_
 obtain ⟨v1, hv1, h⟩ := bI h
 refine pCall Tryz.call18 (g_script_Show_w hv1) rfl ?_
 refine rn 5 rfl (COps.done [0, 6, 7, 8, 9] [] rfl ?_)
 refine CWp.seq (CWp.region ?_)
 refine rh 11 [0] [] rfl ⟨rfl, trivial⟩ ?_
 refine COps.keep [0, 6, 8, 9, 25, 27] [] rfl ?_
 refine rh 1 [0] [] rfl ⟨rfl, trivial⟩ ?_
 refine COps.done [0, 6, 8, 9] [] rfl ?_
 refine CWp.region ?_
 refine rn 3 rfl ?_
 obtain ⟨v2, hv2, h⟩ := bI h
 refine cCall [0] Tryz.call86 (g_script_fields_put_w hv2) rfl rfl ?_
 rintro _ _ ⟨rfl, rfl⟩
 refine COps.done [0, 8, 9] [] rfl ?_
 refine CWp.region ?_
 refine rn 2 rfl (COps.done [0, 8, 9] [] rfl ?_)
 refine crd ?_
 refine CWp.seq (CWp.region ?_)
 refine rn 1 rfl (COps.done [0, 8, 9, 10] [] rfl ?_)
 refine CWp.seq ?_
 refine CWp.condT rfl (by decide) ?_
 refine CWp.skip ?_
 refine CWp.seq (CWp.block ?_)
 refine CWp.seq (CWp.region ?_)
 refine rn 2 rfl (COps.done [0, 5, 8, 9] [] rfl ?_)
 refine CWp.seq (CWp.region ?_)
 refine rn 1 rfl ?_
 obtain ⟨v3, hv3, h⟩ := bI h
 refine pCall Tryz.call18 (g_script_Show_w hv3) rfl ?_
 refine rn 5 rfl (COps.done [0, 6, 7, 8, 9] [] rfl ?_)
 refine CWp.seq (CWp.region ?_)
 refine rh 11 [0] [] rfl ⟨rfl, trivial⟩ ?_
 refine COps.keep [0, 6, 8, 9, 25, 27] [] rfl ?_
 refine rh 1 [0] [] rfl ⟨rfl, trivial⟩ ?_
 refine COps.done [0, 6, 8, 9] [] rfl ?_
 refine CWp.region ?_
 refine rn 3 rfl ?_
 obtain ⟨v4, hv4, h⟩ := bI h
 refine cCall [0] Tryz.call86 (g_script_fields_put_w hv4) rfl rfl ?_
 rintro _ _ ⟨rfl, rfl⟩
 refine COps.done [0, 8, 9] [] rfl ?_
 refine CWp.region ?_
 refine rn 2 rfl (COps.done [0, 8, 9] [] rfl ?_)
 refine crd ?_
 refine CWp.seq (CWp.region ?_)
 refine rn 1 rfl (COps.done [0, 8, 9, 10] [] rfl ?_)
 refine CWp.seq ?_
 refine CWp.condT rfl (by decide) ?_
 refine CWp.skip ?_
 refine CWp.seq (CWp.block ?_)
 refine CWp.seq (CWp.region ?_)
 refine rn 2 rfl (COps.done [0, 5, 8, 9] [] rfl ?_)
 refine CWp.seq (CWp.region ?_)
 refine rn 1 rfl ?_
 obtain ⟨v5, hv5, h⟩ := bI h
 refine pCall Tryz.call18 (g_script_Show_w hv5) rfl ?_
 refine rn 5 rfl (COps.done [0, 6, 7, 8, 9] [] rfl ?_)
 refine CWp.seq (CWp.region ?_)
 refine rh 11 [0] [] rfl ⟨rfl, trivial⟩ ?_
 refine COps.keep [0, 6, 8, 9, 25, 27] [] rfl ?_
 refine rh 1 [0] [] rfl ⟨rfl, trivial⟩ ?_
 refine COps.done [0, 6, 8, 9] [] rfl ?_
 refine CWp.region ?_
 refine rn 3 rfl ?_
 obtain ⟨v6, hv6, h⟩ := bI h
 refine cCall [0] Tryz.call86 (g_script_fields_put_w hv6) rfl rfl ?_
 rintro _ _ ⟨rfl, rfl⟩
 refine COps.done [0, 8, 9] [] rfl ?_
 refine CWp.region ?_
 refine rn 2 rfl (COps.done [0, 8, 9] [] rfl ?_)
 refine crd ?_
 refine CWp.seq (CWp.region ?_)
 refine rn 1 rfl (COps.done [0, 8, 9, 10] [] rfl ?_)
 refine CWp.seq ?_
 refine CWp.condF rfl (by decide) ?_
 refine CWp.exit ?_
 cases h
 exact ⟨.inr rfl, _, [0], _, _, rfl, rfl, rfl, rfl, rfl⟩
def gq3 (x3 : List SField) (x4 : Bool) : Option ((List SField) × Bool) :=
 some (x3, !x4)
def g_script_write_l2 (a0 : SAct) (k290 : (List SField) → Bool → Option ((List SField) × Bool)) : Nat → (List SField) → Bool → Int → Option ((List SField) × Bool)
 | 0, _, _, _ => none
 | m2 + 1, x13, x14, x15 =>
  bif decide (x15 < (a0.raw.use.length : Int)) then
   bO (idx a0.raw.use x15) fun v16 =>
   bO (g_script_fields_word (⟨x13, x14⟩ : Sfields) v16.id) fun v17 =>
   bO (g_script_fields_amounts v17 v16.amount) fun v18 =>
   (g_script_write_l2 a0 k290 m2) v18.l v18.bad (w64 (x15 + 1))
  else
   k290 x13 x14
def g_script_write_l3 (a0 : SAct) (k390 : (List SField) → Bool → Option ((List SField) × Bool)) : Nat → (List SField) → Bool → Int → Option ((List SField) × Bool)
 | 0, _, _, _ => none
 | m3 + 1, x20, x21, x22 =>
  bif decide (x22 < (a0.well.length : Int)) then
   bO (idx a0.well x22) fun v23 =>
   bO (g_script_fields_either (⟨x20, x21⟩ : Sfields) v23 [111, 107] [98, 97, 100]) fun v24 =>
   (g_script_write_l3 a0 k390 m3) v24.l v24.bad (w64 (x22 + 1))
  else
   k390 x20 x21
def g_script_write_l4 (a0 : SAct) (k490 : (List SField) → Bool → Option ((List SField) × Bool)) : Nat → (List SField) → Bool → Int → Option ((List SField) × Bool)
 | 0, _, _, _ => none
 | m4 + 1, x27, x28, x29 =>
  bif decide (x29 < (a0.keep.length : Int)) then
   bO (idx a0.keep x29) fun v30 =>
   bO (g_script_fields_whole (⟨x27, x28⟩ : Sfields) v30) fun v31 =>
   (g_script_write_l4 a0 k490 m4) v31.l v31.bad (w64 (x29 + 1))
  else
   k490 x27 x28
def g_script_write (a0 : SAct) : Option ((List SField) × Bool) :=
 bO (g_script_rest a0) fun v1 =>
 bif a0.do_ == 1 then
  bO (g_script_fields_put (⟨([] : List SField), !v1⟩ : Sfields) [[97, 100, 109, 105, 116]]) fun v5 =>
  bO (g_script_fields_pod v5 a0.pod) fun v6 =>
  gq3 v6.l v6.bad
 else
  bif a0.do_ == 2 then
   bO (g_script_fields_put (⟨([] : List SField), !v1⟩ : Sfields) [[100, 101, 108, 101, 116, 101]]) fun v7 =>
   bO (g_script_fields_word v7 a0.id) fun v8 =>
   gq3 v8.l v8.bad
  else
   bif a0.do_ == 3 then
    bO (g_script_fields_put (⟨([] : List SField), !v1⟩ : Sfields) [[116, 105, 99, 107]]) fun v9 =>
    gq3 v9.l v9.bad
   else
    bif a0.do_ == 4 then
     bO (g_script_fields_put (⟨([] : List SField), !v1⟩ : Sfields) [[115, 97, 109, 112, 108, 101]]) fun v10 =>
     bO (g_script_fields_whole v10 a0.raw.time) fun v11 =>
     bO (g_script_fields_amounts v11 a0.raw.avail) fun v12 =>
     g_script_write_l2 a0 gq3 FUEL v12.l v12.bad 0
    else
     bif a0.do_ == 5 then
      bO (g_script_fields_put (⟨([] : List SField), !v1⟩ : Sfields) [[102, 101, 101, 100]]) fun v19 =>
      g_script_write_l3 a0 gq3 FUEL v19.l v19.bad 0
     else
      bif a0.do_ == 6 then
       bO (g_script_fields_put (⟨([] : List SField), !v1⟩ : Sfields) [[99, 114, 97, 115, 104]]) fun v25 =>
       bO (g_script_fields_whole v25 a0.steps) fun v26 =>
       g_script_write_l4 a0 gq3 FUEL v26.l v26.bad 0
      else
       some (([] : List SField), false)
theorem g_script_write_w {a0 : SAct} {r : (List SField) × Bool} (h : g_script_write a0 = some r) : PCall Tryz.prog 47 [eSAct a0] (.tuple [.list true 81 (r.1.map eSField), zB r.2]) := by
 refine PCall.body Tryz.func47 rfl rfl rfl rfl fun base => ?_
 unfold g_script_write at h
 refine CWp.seq (CWp.region ?_)
 refine rn 3 rfl ?_
 refine COps.done [1] [1] rfl ?_
 refine CWp.seq (CWp.region ?_)
 refine rn 1 rfl ?_
 obtain ⟨v1, hv1, h⟩ := bI h
 refine pCall Tryz.call85 (g_script_rest_w hv1) rfl ?_
 refine rh 2 [] [14] rfl trivial ?_
 refine cBox ?_
 rintro o2 -
 refine cOwn 0 0 81 ?_
 refine rn 1 rfl ?_
 refine COps.done [1, 4] [1] rfl ?_
 refine CWp.mid (fun e => ∃ x3 x4, e = ⟨[(4, [], .gptr o2 0)], [], [], [(o2, [.list true 81 (x3.map eSField), zB x4])], base⟩ ∧ gq3 x3 x4 = some r) ?_ ?_
 ·refine CWp.seq (CWp.region ?_)
  refine rn 2 rfl ?_
  refine COps.done [1, 4, 17] [1] rfl ?_
  refine CWp.block ?_
  refine CWp.seq (CWp.region ?_)
  refine rn 2 rfl ?_
  refine COps.done [1, 4, 17, 18] [1] rfl ?_
  refine CWp.cond h rfl (fun h => ?_) (fun h => ?_)
  ·refine CWp.seq (CWp.region ?_)
   refine rn 2 rfl ?_
   obtain ⟨v5, hv5, h⟩ := bI h
   refine cCall [0] Tryz.call86 (g_script_fields_put_w hv5) rfl rfl ?_
   rintro _ _ ⟨rfl, rfl⟩
   refine COps.done [1, 4] [1] rfl ?_
   refine CWp.region ?_
   refine rn 3 rfl ?_
   obtain ⟨v6, hv6, h⟩ := bI h
   refine cCall [0] Tryz.call87 (g_script_fields_pod_w hv6) rfl rfl ?_
   rintro _ _ ⟨rfl, rfl⟩
   refine COps.done [4] [] rfl ?_
   exact ⟨_, _, rfl, h⟩
  ·refine CWp.seq (CWp.region ?_)
   refine rn 2 rfl ?_
   refine COps.done [1, 4, 17, 27] [1] rfl ?_
   refine CWp.cond h rfl (fun h => ?_) (fun h => ?_)
   ·refine CWp.seq (CWp.region ?_)
    refine rn 2 rfl ?_
    obtain ⟨v7, hv7, h⟩ := bI h
    refine cCall [0] Tryz.call86 (g_script_fields_put_w hv7) rfl rfl ?_
    rintro _ _ ⟨rfl, rfl⟩
    refine COps.done [1, 4] [1] rfl ?_
    refine CWp.region ?_
    refine rn 3 rfl ?_
    obtain ⟨v8, hv8, h⟩ := bI h
    refine cCall [0] Tryz.call88 (g_script_fields_word_w hv8) rfl rfl ?_
    rintro _ _ ⟨rfl, rfl⟩
    refine COps.done [4] [] rfl ?_
    exact ⟨_, _, rfl, h⟩
   ·refine CWp.seq (CWp.region ?_)
    refine rn 2 rfl ?_
    refine COps.done [1, 4, 17, 36] [1] rfl ?_
    refine CWp.cond h rfl (fun h => ?_) (fun h => ?_)
    ·refine CWp.region ?_
     refine rn 2 rfl ?_
     obtain ⟨v9, hv9, h⟩ := bI h
     refine cCall [0] Tryz.call86 (g_script_fields_put_w hv9) rfl rfl ?_
     rintro _ _ ⟨rfl, rfl⟩
     refine COps.done [4] [] rfl ?_
     exact ⟨_, _, rfl, h⟩
    ·refine CWp.seq (CWp.region ?_)
     refine rn 2 rfl ?_
     refine COps.done [1, 4, 17, 41] [1] rfl ?_
     refine CWp.cond h rfl (fun h => ?_) (fun h => ?_)
     ·refine CWp.seq (CWp.region ?_)
      refine rn 2 rfl ?_
      obtain ⟨v10, hv10, h⟩ := bI h
      refine cCall [0] Tryz.call86 (g_script_fields_put_w hv10) rfl rfl ?_
      rintro _ _ ⟨rfl, rfl⟩
      refine COps.done [1, 4] [1] rfl ?_
      refine CWp.seq (CWp.region ?_)
      refine rn 4 rfl ?_
      obtain ⟨v11, hv11, h⟩ := bI h
      refine cCall [0] Tryz.call89 (g_script_fields_whole_w hv11) rfl rfl ?_
      rintro _ _ ⟨rfl, rfl⟩
      refine COps.done [1, 4] [1] rfl ?_
      refine CWp.seq (CWp.region ?_)
      refine rn 4 rfl ?_
      obtain ⟨v12, hv12, h⟩ := bI h
      refine cCall [0] Tryz.call90 (g_script_fields_amounts_w hv12) rfl rfl ?_
      rintro _ _ ⟨rfl, rfl⟩
      refine COps.done [1, 4] [1] rfl ?_
      refine CWp.seq (CWp.region ?_)
      refine rh 5 [a0.raw.use.length] [] rfl ⟨List.length_map .., trivial⟩ ?_
      refine COps.done [4, 58, 59, 60] [] rfl ?_
      refine CWp.block ?_
      refine CWp.loop (fun m2 e => ∃ x13 x14 x15, e = ⟨[(4, [], .gptr o2 0), (58, [], .list false 114 (a0.raw.use.map eSUsage)), (59, [], zI (a0.raw.use.length : Int)), (60, [], zI x15)], [], [], [(o2, [.list true 81 (x13.map eSField), zB x14])], base⟩ ∧ g_script_write_l2 a0 (gq3) m2 x13 x14 x15 = some r) FUEL ⟨_, _, _, rfl, h⟩ ?_ ?_
      ·rintro m2 _ ⟨x13, x14, x15, rfl, h⟩
       rw [g_script_write_l2] at h
       refine CWp.seq (CWp.region ?_)
       refine rn 1 rfl (COps.done [4, 58, 59, 60, 61] [] rfl ?_)
       refine CWp.seq ?_
       refine CWp.cond h rfl (fun h => ?_) (fun h => ?_)
       ·refine CWp.skip ?_
        refine CWp.seq (CWp.block ?_)
        refine CWp.seq (CWp.region ?_)
        obtain ⟨v16, hv16, h⟩ := bI h
        refine rd (rIx hv16) ?_
        refine rn 3 rfl ?_
        refine COps.done [4, 6, 58, 59, 60] [6] rfl ?_
        refine CWp.seq (CWp.region ?_)
        refine rn 3 rfl ?_
        obtain ⟨v17, hv17, h⟩ := bI h
        refine cCall [0] Tryz.call88 (g_script_fields_word_w hv17) rfl rfl ?_
        rintro _ _ ⟨rfl, rfl⟩
        refine COps.done [4, 6, 58, 59, 60] [6] rfl ?_
        refine CWp.region ?_
        refine rn 3 rfl ?_
        obtain ⟨v18, hv18, h⟩ := bI h
        refine cCall [0] Tryz.call90 (g_script_fields_amounts_w hv18) rfl rfl ?_
        rintro _ _ ⟨rfl, rfl⟩
        refine COps.done [4, 58, 59, 60] [] rfl ?_
        refine CWp.region ?_
        refine rn 2 rfl (COps.done [4, 58, 59, 60] [] rfl ?_)
        exact ⟨_, _, _, rfl, h⟩
       ·refine CWp.keep [4] [] rfl ?_
        refine CWp.exit ?_
        exact ⟨_, _, rfl, h⟩
      ·rintro _ ⟨_, _, _, _, h⟩
       rw [g_script_write_l2] at h; cases h
     ·refine CWp.seq (CWp.region ?_)
      refine rn 2 rfl ?_
      refine COps.done [1, 4, 17, 73] [1] rfl ?_
      refine CWp.cond h rfl (fun h => ?_) (fun h => ?_)
      ·refine CWp.seq (CWp.region ?_)
       refine rn 2 rfl ?_
       obtain ⟨v19, hv19, h⟩ := bI h
       refine cCall [0] Tryz.call86 (g_script_fields_put_w hv19) rfl rfl ?_
       rintro _ _ ⟨rfl, rfl⟩
       refine COps.done [1, 4] [1] rfl ?_
       refine CWp.seq (CWp.region ?_)
       refine rh 4 [a0.well.length] [] rfl ⟨List.length_map .., trivial⟩ ?_
       refine COps.done [4, 79, 80, 81] [] rfl ?_
       refine CWp.block ?_
       refine CWp.loop (fun m3 e => ∃ x20 x21 x22, e = ⟨[(4, [], .gptr o2 0), (79, [], .list false 4 (a0.well.map zB)), (80, [], zI (a0.well.length : Int)), (81, [], zI x22)], [], [], [(o2, [.list true 81 (x20.map eSField), zB x21])], base⟩ ∧ g_script_write_l3 a0 (gq3) m3 x20 x21 x22 = some r) FUEL ⟨_, _, _, rfl, h⟩ ?_ ?_
       ·rintro m3 _ ⟨x20, x21, x22, rfl, h⟩
        rw [g_script_write_l3] at h
        refine CWp.seq (CWp.region ?_)
        refine rn 1 rfl (COps.done [4, 79, 80, 81, 82] [] rfl ?_)
        refine CWp.seq ?_
        refine CWp.cond h rfl (fun h => ?_) (fun h => ?_)
        ·refine CWp.skip ?_
         refine CWp.seq (CWp.block ?_)
         refine CWp.seq (CWp.region ?_)
         obtain ⟨v23, hv23, h⟩ := bI h
         refine rd (rIx hv23) ?_
         refine rn 2 rfl (COps.done [4, 8, 79, 80, 81] [] rfl ?_)
         refine CWp.region ?_
         refine rn 2 rfl ?_
         obtain ⟨v24, hv24, h⟩ := bI h
         refine cCall [0] Tryz.call91 (g_script_fields_either_w hv24) rfl rfl ?_
         rintro _ _ ⟨rfl, rfl⟩
         refine COps.done [4, 79, 80, 81] [] rfl ?_
         refine CWp.region ?_
         refine rn 2 rfl (COps.done [4, 79, 80, 81] [] rfl ?_)
         exact ⟨_, _, _, rfl, h⟩
        ·refine CWp.keep [4] [] rfl ?_
         refine CWp.exit ?_
         exact ⟨_, _, rfl, h⟩
       ·rintro _ ⟨_, _, _, _, h⟩
        rw [g_script_write_l3] at h; cases h
      ·refine CWp.seq (CWp.region ?_)
       refine rn 2 rfl ?_
       refine COps.done [1, 4, 89] [1] rfl ?_
       refine CWp.cond h rfl (fun h => ?_) (fun h => ?_)
       ·refine CWp.seq (CWp.region ?_)
        refine rn 2 rfl ?_
        obtain ⟨v25, hv25, h⟩ := bI h
        refine cCall [0] Tryz.call86 (g_script_fields_put_w hv25) rfl rfl ?_
        rintro _ _ ⟨rfl, rfl⟩
        refine COps.done [1, 4] [1] rfl ?_
        refine CWp.seq (CWp.region ?_)
        refine rn 3 rfl ?_
        obtain ⟨v26, hv26, h⟩ := bI h
        refine cCall [0] Tryz.call89 (g_script_fields_whole_w hv26) rfl rfl ?_
        rintro _ _ ⟨rfl, rfl⟩
        refine COps.done [1, 4] [1] rfl ?_
        refine CWp.seq (CWp.region ?_)
        refine rh 4 [a0.keep.length] [] rfl ⟨List.length_map .., trivial⟩ ?_
        refine COps.done [4, 99, 100, 101] [] rfl ?_
        refine CWp.block ?_
        refine CWp.loop (fun m4 e => ∃ x27 x28 x29, e = ⟨[(4, [], .gptr o2 0), (99, [], .list false 3 (a0.keep.map zI)), (100, [], zI (a0.keep.length : Int)), (101, [], zI x29)], [], [], [(o2, [.list true 81 (x27.map eSField), zB x28])], base⟩ ∧ g_script_write_l4 a0 (gq3) m4 x27 x28 x29 = some r) FUEL ⟨_, _, _, rfl, h⟩ ?_ ?_
        ·rintro m4 _ ⟨x27, x28, x29, rfl, h⟩
         rw [g_script_write_l4] at h
         refine CWp.seq (CWp.region ?_)
         refine rn 1 rfl (COps.done [4, 99, 100, 101, 102] [] rfl ?_)
         refine CWp.seq ?_
         refine CWp.cond h rfl (fun h => ?_) (fun h => ?_)
         ·refine CWp.skip ?_
          refine CWp.seq (CWp.block ?_)
          refine CWp.seq (CWp.region ?_)
          obtain ⟨v30, hv30, h⟩ := bI h
          refine rd (rIx hv30) ?_
          refine rn 2 rfl (COps.done [4, 10, 99, 100, 101] [] rfl ?_)
          refine CWp.region ?_
          refine rn 2 rfl ?_
          obtain ⟨v31, hv31, h⟩ := bI h
          refine cCall [0] Tryz.call89 (g_script_fields_whole_w hv31) rfl rfl ?_
          rintro _ _ ⟨rfl, rfl⟩
          refine COps.done [4, 99, 100, 101] [] rfl ?_
          refine CWp.region ?_
          refine rn 2 rfl (COps.done [4, 99, 100, 101] [] rfl ?_)
          exact ⟨_, _, _, rfl, h⟩
         ·refine CWp.keep [4] [] rfl ?_
          refine CWp.exit ?_
          exact ⟨_, _, rfl, h⟩
        ·rintro _ ⟨_, _, _, _, h⟩
         rw [g_script_write_l4] at h; cases h
       ·refine CWp.seq (CWp.region ?_)
        refine rn 2 rfl ?_
        refine COps.objs [] rfl ?_
        refine COps.done [2, 3] [] rfl ?_
        refine CWp.ret ?_
        cases h
        exact ⟨.inl rfl, rfl, rfl⟩
 ·rintro _ ⟨x3, x4, rfl, h⟩
  unfold gq3 at h
  refine CWp.seq ?_
  refine CWp.drawnG 11 0 0 2 (by kernel_rfl) rfl rfl rfl (fun pinO pinQ pinC => ?_)
  refine ph 11 [0, 0] rfl ⟨rfl, rfl, trivial⟩ ?_
  refine COpsE.nil ?_
  refine ⟨⟨[(2, [], .lit (.slice pinO pinQ pinC)), (3, [], zB (!x4))], [], [], [(o2, [.lit (.slice pinO pinQ pinC), zB x4])], base⟩, _, ?_, rfl, rfl, rfl, rfl, rfl, ?_⟩
  ·refine COps.done [2, 3] [] rfl ?_
   exact rfl
  refine COps.objs [] rfl ?_
  refine COps.done [2, 3] [] rfl ?_
  refine CWp.ret ?_
  cases h
  exact ⟨.inl rfl, rfl, rfl⟩
def g_lex_Join_k1 (_x2 : Bool) (x3 : List UInt8) : Option (List UInt8) :=
 bO (bytesO x3) fun v4 =>
 some v4
def g_lex_Join_k3 (x7 : Int) (q2 : Bool → (List UInt8) → Int → Option (List UInt8)) (x8 : List UInt8) : Option (List UInt8) :=
 q2 true x8 (w64 (x7 + 1))
def g_lex_Join_k4 (x7 : Int) (q2 : Bool → (List UInt8) → Int → Option (List UInt8)) (_x10 : Bool) (x11 : List UInt8) : Option (List UInt8) :=
 bO (wrO x11 [10]) fun v12 =>
 g_lex_Join_k3 x7 q2 v12
def g_lex_Join_k6 (x15 : Int) (q5 : Bool → (List UInt8) → Int → Option (List UInt8)) (v16 : SField) (_x17 : Bool) (x18 : List UInt8) : Option (List UInt8) :=
 bO (wrO x18 v16.text) fun v19 =>
 q5 true v19 (w64 (x15 + 1))
def g_lex_Join_l5 (v9 : List SField) (k590 : Bool → (List UInt8) → Option (List UInt8)) : Nat → Bool → (List UInt8) → Int → Option (List UInt8)
 | 0, _, _, _ => none
 | m5 + 1, x13, x14, x15 =>
  bif decide (x15 < (v9.length : Int)) then
   bO (idx v9 x15) fun v16 =>
   bif decide (x15 > 0) then
    bO (wrO x14 [32]) fun v20 =>
    g_lex_Join_k6 x15 (g_lex_Join_l5 v9 k590 m5) v16 true v20
   else
    g_lex_Join_k6 x15 (g_lex_Join_l5 v9 k590 m5) v16 x13 x14
  else
   k590 x13 x14
def g_lex_Join_l2 (a0 : List (List SField)) (k290 : Bool → (List UInt8) → Option (List UInt8)) : Nat → Bool → (List UInt8) → Int → Option (List UInt8)
 | 0, _, _, _ => none
 | m2 + 1, x5, x6, x7 =>
  bif decide (x7 < (a0.length : Int)) then
   bO (idx a0 x7) fun v9 =>
   g_lex_Join_l5 v9 (g_lex_Join_k4 x7 (g_lex_Join_l2 a0 k290 m2)) FUEL x5 x6 0
  else
   k290 x5 x6
def g_lex_Join (a0 : List (List SField)) : Option (List UInt8) :=
 g_lex_Join_l2 a0 g_lex_Join_k1 FUEL false ([] : List UInt8) 0
theorem g_lex_Join_w {a0 : List (List SField)} {r : List UInt8} (h : g_lex_Join a0 = some r) : PCall Tryz.prog 49 [.list false 75 (a0.map (fun x => .list false 81 (x.map eSField)))] (.str r) := by
 refine PCall.body Tryz.func49 rfl rfl rfl rfl fun base => ?_
 unfold g_lex_Join at h
 refine CWp.seq (CWp.region ?_)
 refine rn 1 rfl (COps.done [0] [] rfl ?_)
 refine CWp.seq (CWp.region ?_)
 refine cNewO ?_
 rintro o1 ho1
 refine COps.done [0, 3] [] rfl ?_
 refine CWp.mid (fun e => ∃ x2 x3, e = ⟨[(3, [], .gptr o1 0)], [], [], [(o1, [bldP o1 x2, bufAV x3])], base⟩ ∧ g_lex_Join_k1 x2 x3 = some r) ?_ ?_
 ·refine CWp.seq (CWp.region ?_)
  refine rh 3 [a0.length] [] rfl ⟨List.length_map .., trivial⟩ ?_
  refine COps.done [3, 8, 9, 10] [] rfl ?_
  refine CWp.block ?_
  refine CWp.loop (fun m2 e => ∃ x5 x6 x7, e = ⟨[(3, [], .gptr o1 0), (8, [], .list false 75 (a0.map (fun x => .list false 81 (x.map eSField)))), (9, [], zI (a0.length : Int)), (10, [], zI x7)], [], [], [(o1, [bldP o1 x5, bufAV x6])], base⟩ ∧ g_lex_Join_l2 a0 (g_lex_Join_k1) m2 x5 x6 x7 = some r) FUEL ⟨_, _, _, rfl, h⟩ ?_ ?_
  ·rintro m2 _ ⟨x5, x6, x7, rfl, h⟩
   rw [g_lex_Join_l2] at h
   refine CWp.seq (CWp.region ?_)
   refine rn 1 rfl (COps.done [3, 8, 9, 10, 11] [] rfl ?_)
   refine CWp.seq ?_
   refine CWp.cond h rfl (fun h => ?_) (fun h => ?_)
   ·refine CWp.skip ?_
    refine CWp.mid (fun e => ∃ x8, e = ⟨[(3, [], .gptr o1 0), (8, [], .list false 75 (a0.map (fun x => .list false 81 (x.map eSField)))), (9, [], zI (a0.length : Int)), (10, [], zI x7)], [], [], [(o1, [bldP o1 true, bufAV x8])], base⟩ ∧ g_lex_Join_k3 x7 (g_lex_Join_l2 a0 (g_lex_Join_k1) m2) x8 = some r) ?_ ?_
    ·refine CWp.block ?_
     refine CWp.seq (CWp.region ?_)
     obtain ⟨v9, hv9, h⟩ := bI h
     refine rd (rIx hv9) ?_
     refine rn 2 rfl (COps.done [3, 5, 8, 9, 10] [] rfl ?_)
     refine CWp.mid (fun e => ∃ x10 x11, e = ⟨[(3, [], .gptr o1 0), (8, [], .list false 75 (a0.map (fun x => .list false 81 (x.map eSField)))), (9, [], zI (a0.length : Int)), (10, [], zI x7)], [], [], [(o1, [bldP o1 x10, bufAV x11])], base⟩ ∧ g_lex_Join_k4 x7 (g_lex_Join_l2 a0 (g_lex_Join_k1) m2) x10 x11 = some r) ?_ ?_
     ·refine CWp.seq (CWp.region ?_)
      refine rh 3 [v9.length] [] rfl ⟨List.length_map .., trivial⟩ ?_
      refine COps.done [3, 8, 9, 10, 14, 15, 16] [] rfl ?_
      refine CWp.block ?_
      refine CWp.loop (fun m5 e => ∃ x13 x14 x15, e = ⟨[(3, [], .gptr o1 0), (8, [], .list false 75 (a0.map (fun x => .list false 81 (x.map eSField)))), (9, [], zI (a0.length : Int)), (10, [], zI x7), (14, [], .list false 81 (v9.map eSField)), (15, [], zI (v9.length : Int)), (16, [], zI x15)], [], [], [(o1, [bldP o1 x13, bufAV x14])], base⟩ ∧ g_lex_Join_l5 v9 (g_lex_Join_k4 x7 (g_lex_Join_l2 a0 (g_lex_Join_k1) m2)) m5 x13 x14 x15 = some r) FUEL ⟨_, _, _, rfl, h⟩ ?_ ?_
      ·rintro m5 _ ⟨x13, x14, x15, rfl, h⟩
       rw [g_lex_Join_l5] at h
       refine CWp.seq (CWp.region ?_)
       refine rn 1 rfl (COps.done [3, 8, 9, 10, 14, 15, 16, 17] [] rfl ?_)
       refine CWp.seq ?_
       refine CWp.cond h rfl (fun h => ?_) (fun h => ?_)
       ·refine CWp.skip ?_
        refine CWp.seq (CWp.block ?_)
        refine CWp.seq (CWp.region ?_)
        obtain ⟨v16, hv16, h⟩ := bI h
        refine rn 1 rfl ?_
        refine rd (rIx hv16) ?_
        refine rn 4 rfl ?_
        refine COps.done [3, 6, 7, 8, 9, 10, 14, 15, 16] [7] rfl ?_
        refine CWp.mid (fun e => ∃ x17 x18, e = ⟨[(3, [], .gptr o1 0), (7, [], .lptr 7 0), (8, [], .list false 75 (a0.map (fun x => .list false 81 (x.map eSField)))), (9, [], zI (a0.length : Int)), (10, [], zI x7), (14, [], .list false 81 (v9.map eSField)), (15, [], zI (v9.length : Int)), (16, [], zI x15)], [], [(7, [.str v16.text, zI v16.line, zI v16.col])], [(o1, [bldP o1 x17, bufAV x18])], base⟩ ∧ g_lex_Join_k6 x15 (g_lex_Join_l5 v9 (g_lex_Join_k4 x7 (g_lex_Join_l2 a0 (g_lex_Join_k1) m2)) m5) v16 x17 x18 = some r) ?_ ?_
        ·refine CWp.seq (CWp.region ?_)
         refine rn 2 rfl ?_
         refine COps.done [3, 7, 8, 9, 10, 14, 15, 16, 22] [7] rfl ?_
         refine CWp.cond h rfl (fun h => ?_) (fun h => ?_)
         ·refine CWp.region ?_
          obtain ⟨v20, hv20, h⟩ := bI h
          refine cCall [0] Tryz.call92 (bldByte_w (u := x13) ho1 hv20) rfl rfl ?_
          rintro _ _ ⟨rfl, rfl⟩
          refine COps.done [3, 7, 8, 9, 10, 14, 15, 16] [7] rfl ?_
          exact ⟨_, _, rfl, h⟩
         ·refine CWp.keep [3, 7, 8, 9, 10, 14, 15, 16] [7] rfl ?_
          refine CWp.skip ?_
          exact ⟨_, _, rfl, h⟩
        ·rintro _ ⟨x17, x18, rfl, h⟩
         unfold g_lex_Join_k6 at h
         refine CWp.region ?_
         refine rn 2 rfl ?_
         obtain ⟨v19, hv19, h⟩ := bI h
         refine cCall [0] Tryz.call93 (bldStr_w (u := x17) ho1 hv19) rfl rfl ?_
         rintro _ _ ⟨rfl, rfl⟩
         refine COps.done [3, 8, 9, 10, 14, 15, 16] [] rfl ?_
         refine CWp.region ?_
         refine rn 2 rfl (COps.done [3, 8, 9, 10, 14, 15, 16] [] rfl ?_)
         exact ⟨_, _, _, rfl, h⟩
       ·refine CWp.keep [3, 8, 9, 10] [] rfl ?_
        refine CWp.exit ?_
        exact ⟨_, _, rfl, h⟩
      ·rintro _ ⟨_, _, _, _, h⟩
       rw [g_lex_Join_l5] at h; cases h
     ·rintro _ ⟨x10, x11, rfl, h⟩
      unfold g_lex_Join_k4 at h
      refine CWp.region ?_
      obtain ⟨v12, hv12, h⟩ := bI h
      refine cCall [0] Tryz.call92 (bldByte_w (u := x10) ho1 hv12) rfl rfl ?_
      rintro _ _ ⟨rfl, rfl⟩
      refine COps.done [3, 8, 9, 10] [] rfl ?_
      exact ⟨_, rfl, h⟩
    ·rintro _ ⟨x8, rfl, h⟩
     unfold g_lex_Join_k3 at h
     refine CWp.region ?_
     refine rn 2 rfl (COps.done [3, 8, 9, 10] [] rfl ?_)
     exact ⟨_, _, _, rfl, h⟩
   ·refine CWp.keep [3] [] rfl ?_
    refine CWp.exit ?_
    exact ⟨_, _, rfl, h⟩
  ·rintro _ ⟨_, _, _, _, h⟩
   rw [g_lex_Join_l2] at h; cases h
 ·rintro _ ⟨x2, x3, rfl, h⟩
  unfold g_lex_Join_k1 at h
  refine CWp.seq (CWp.region ?_)
  obtain ⟨v4, hv4, h⟩ := bI h
  refine cCall [0] Tryz.call94 (bldOut_w (u := x2) ho1 hv4) rfl rfl ?_
  rintro _ _ ⟨rfl, rfl⟩
  refine rn 1 rfl (COps.done [2] [] rfl ?_)
  refine CWp.ret ?_
  cases h
  exact ⟨.inl rfl, rfl, rfl⟩
def g_script_Print_k1 (x1 : List (List SField)) : Option ((List UInt8) × Int) :=
 bO (g_lex_Join x1) fun v2 =>
 some (v2, 0)
def g_script_Print_l2 (a0 : List SAct) (k290 : (List (List SField)) → Option ((List UInt8) × Int)) : Nat → Int → (List (List SField)) → Option ((List UInt8) × Int)
 | 0, _, _ => none
 | m2 + 1, x3, x4 =>
  bif decide (x3 < (a0.length : Int)) then
   bO (idx a0 x3) fun v5 =>
   bO (g_script_write v5) fun v6 =>
   bif !v6.2 then
    some (([] : List UInt8), 1)
   else
    bO (appO x4 [v6.1]) fun v7 =>
    (g_script_Print_l2 a0 k290 m2) (w64 (x3 + 1)) v7
  else
   k290 x4
def g_script_Print (a0 : List SAct) : Option ((List UInt8) × Int) :=
 g_script_Print_l2 a0 g_script_Print_k1 FUEL 0 ([] : List (List SField))
theorem g_script_Print_w {a0 : List SAct} {r : (List UInt8) × Int} (h : g_script_Print a0 = some r) : PCall Tryz.prog 25 [.list false 50 (a0.map eSAct)] (.tuple [.str r.1, zI r.2]) := by
 refine PCall.body Tryz.func25 rfl rfl rfl rfl fun base => ?_
 unfold g_script_Print at h
 refine CWp.seq (CWp.region ?_)
 refine rn 2 rfl (COps.done [0] [] rfl ?_)
 refine CWp.seq (CWp.region ?_)
 refine rn 1 rfl (COps.done [0, 4] [] rfl ?_)
 refine CWp.mid (fun e => ∃ x1, e = ⟨[(4, [], .list true 75 (x1.map (fun x => .list false 81 (x.map eSField))))], [], [], [], base⟩ ∧ g_script_Print_k1 x1 = some r) ?_ ?_
 ·refine CWp.seq (CWp.region ?_)
  refine rh 3 [a0.length] [] rfl ⟨List.length_map .., trivial⟩ ?_
  refine COps.done [4, 9, 10, 11] [] rfl ?_
  refine CWp.block ?_
  refine CWp.loop (fun m2 e => ∃ x3 x4, e = ⟨[(4, [], .list true 75 (x4.map (fun x => .list false 81 (x.map eSField)))), (9, [], .list false 50 (a0.map eSAct)), (10, [], zI (a0.length : Int)), (11, [], zI x3)], [], [], [], base⟩ ∧ g_script_Print_l2 a0 (g_script_Print_k1) m2 x3 x4 = some r) FUEL ⟨_, _, rfl, h⟩ ?_ ?_
  ·rintro m2 _ ⟨x3, x4, rfl, h⟩
   rw [g_script_Print_l2] at h
   refine CWp.seq (CWp.region ?_)
   refine rn 1 rfl (COps.done [4, 9, 10, 11, 12] [] rfl ?_)
   refine CWp.seq ?_
   refine CWp.cond h rfl (fun h => ?_) (fun h => ?_)
   ·refine CWp.skip ?_
    refine CWp.seq (CWp.block ?_)
    refine CWp.seq (CWp.region ?_)
    obtain ⟨v5, hv5, h⟩ := bI h
    refine rd (rIx hv5) ?_
    refine rn 3 rfl ?_
    refine COps.done [4, 6, 9, 10, 11] [6] rfl ?_
    refine CWp.seq (CWp.region ?_)
    refine rn 1 rfl ?_
    obtain ⟨v6, hv6, h⟩ := bI h
    refine pCall Tryz.call47 (g_script_write_w hv6) rfl ?_
    refine rn 5 rfl (COps.done [4, 7, 8, 9, 10, 11] [] rfl ?_)
    refine CWp.seq (CWp.seq (CWp.region ?_))
    refine rn 2 rfl (COps.done [4, 7, 9, 10, 11, 21] [] rfl ?_)
    refine CWp.cond h rfl (fun h => ?_) (fun h => ?_)
    ·refine CWp.seq (CWp.region ?_)
     refine rn 2 rfl (COps.done [2, 3] [] rfl ?_)
     refine CWp.ret ?_
     cases h
     exact ⟨.inl rfl, rfl, rfl⟩
    ·refine CWp.skip ?_
     refine CWp.region ?_
     obtain ⟨v7, hv7, h⟩ := bI h
     refine rh 3 [] [22] rfl trivial ?_
     refine cApp hv7 ?_
     refine rh 1 [] [4] rfl trivial ?_
     refine COps.done [4, 9, 10, 11] [] rfl ?_
     refine CWp.region ?_
     refine rn 2 rfl (COps.done [4, 9, 10, 11] [] rfl ?_)
     exact ⟨_, _, rfl, h⟩
   ·refine CWp.keep [4] [] rfl ?_
    refine CWp.exit ?_
    exact ⟨_, rfl, h⟩
  ·rintro _ ⟨_, _, _, h⟩
   rw [g_script_Print_l2] at h; cases h
 ·rintro _ ⟨x1, rfl, h⟩
  unfold g_script_Print_k1 at h
  refine CWp.seq (CWp.region ?_)
  refine rn 1 rfl ?_
  obtain ⟨v2, hv2, h⟩ := bI h
  refine pCall Tryz.call49 (g_lex_Join_w hv2) rfl ?_
  refine rn 2 rfl (COps.done [2, 3] [] rfl ?_)
  refine CWp.ret ?_
  cases h
  exact ⟨.inl rfl, rfl, rfl⟩
def g_ref03_parts (a0 : Nat) : Option (Bool × Int × Int) :=
 some (decide ((a0 : Int) ≥ 9223372036854775808), w64 ((IntKind.u64.wrap ((a0 : Int).tdiv 4503599627370496)).tmod 2048), (a0 : Int).tmod 4503599627370496)
theorem g_ref03_parts_w {a0 : Nat} {r : Bool × Int × Int} (h : g_ref03_parts a0 = some r) : PCall Tryz.prog 56 [zF a0] (.tuple [zB r.1, zI r.2.1, .lit (.int .u64 r.2.2)]) := by
 refine PCall.body Tryz.func56 rfl rfl rfl rfl fun base => ?_
 unfold g_ref03_parts at h
 refine CWp.seq (CWp.region ?_)
 refine rn 3 rfl (COps.done [0] [] rfl ?_)
 refine CWp.seq (CWp.region ?_)
 refine rn 1 rfl ?_
 refine rd (rExt (f64bits _)) ?_
 refine rn 1 rfl (COps.done [5] [] rfl ?_)
 refine CWp.seq (CWp.region ?_)
 refine rn 11 rfl (COps.done [2, 3, 4] [] rfl ?_)
 refine CWp.ret ?_
 cases h
 exact ⟨.inl rfl, rfl, rfl⟩
def g_ref03_Kind (a0 : Nat) : Option Int :=
 bO (g_ref03_parts a0) fun v1 =>
 bif (v1.2.1 == 2047) && (decide (v1.2.2 > 0)) then
  some 1
 else
  bif (v1.2.1 == 2047) && v1.1 then
   some 2
  else
   bif v1.2.1 == 2047 then
    some 7
   else
    bif ((v1.2.1 == 0) && (v1.2.2 == 0)) && v1.1 then
     some 4
    else
     bif (v1.2.1 == 0) && (v1.2.2 == 0) then
      some 5
     else
      bif v1.1 then
       some 3
      else
       some 6
theorem g_ref03_Kind_w {a0 : Nat} {r : Int} (h : g_ref03_Kind a0 = some r) : PCall Tryz.prog 31 [zF a0] (zI r) := by
 refine PCall.body Tryz.func31 rfl rfl rfl rfl fun base => ?_
 unfold g_ref03_Kind at h
 refine CWp.seq (CWp.region ?_)
 refine rn 1 rfl (COps.done [0] [] rfl ?_)
 refine CWp.seq (CWp.region ?_)
 refine rn 1 rfl ?_
 obtain ⟨v1, hv1, h⟩ := bI h
 refine pCall Tryz.call56 (g_ref03_parts_w hv1) rfl ?_
 refine rn 7 rfl (COps.done [3, 4, 5] [] rfl ?_)
 refine CWp.seq (CWp.seq (CWp.region ?_))
 refine rn 6 rfl (COps.done [3, 4, 5, 17] [] rfl ?_)
 refine CWp.cond h rfl (fun h => ?_) (fun h => ?_)
 ·refine CWp.seq (CWp.region ?_)
  refine rn 1 rfl (COps.done [2] [] rfl ?_)
  refine CWp.ret ?_
  cases h
  exact ⟨.inl rfl, rfl, rfl⟩
 ·refine CWp.skip ?_
  refine CWp.seq (CWp.seq (CWp.region ?_))
  refine rn 5 rfl (COps.done [3, 4, 5, 22] [] rfl ?_)
  refine CWp.cond h rfl (fun h => ?_) (fun h => ?_)
  ·refine CWp.seq (CWp.region ?_)
   refine rn 1 rfl (COps.done [2] [] rfl ?_)
   refine CWp.ret ?_
   cases h
   exact ⟨.inl rfl, rfl, rfl⟩
  ·refine CWp.skip ?_
   refine CWp.seq (CWp.seq (CWp.region ?_))
   refine rn 2 rfl (COps.done [3, 4, 5, 24] [] rfl ?_)
   refine CWp.cond h rfl (fun h => ?_) (fun h => ?_)
   ·refine CWp.seq (CWp.region ?_)
    refine rn 1 rfl (COps.done [2] [] rfl ?_)
    refine CWp.ret ?_
    cases h
    exact ⟨.inl rfl, rfl, rfl⟩
   ·refine CWp.skip ?_
    refine CWp.seq (CWp.seq (CWp.region ?_))
    refine rn 9 rfl (COps.done [3, 4, 5, 33] [] rfl ?_)
    refine CWp.cond h rfl (fun h => ?_) (fun h => ?_)
    ·refine CWp.seq (CWp.region ?_)
     refine rn 1 rfl (COps.done [2] [] rfl ?_)
     refine CWp.ret ?_
     cases h
     exact ⟨.inl rfl, rfl, rfl⟩
    ·refine CWp.skip ?_
     refine CWp.seq (CWp.seq (CWp.region ?_))
     refine rn 6 rfl (COps.done [3, 39] [] rfl ?_)
     refine CWp.cond h rfl (fun h => ?_) (fun h => ?_)
     ·refine CWp.seq (CWp.region ?_)
      refine rn 1 rfl (COps.done [2] [] rfl ?_)
      refine CWp.ret ?_
      cases h
      exact ⟨.inl rfl, rfl, rfl⟩
     ·refine CWp.skip ?_
      refine CWp.seq (CWp.seq (CWp.region ?_))
      refine rn 1 rfl (COps.done [40] [] rfl ?_)
      refine CWp.cond h rfl (fun h => ?_) (fun h => ?_)
      ·refine CWp.seq (CWp.region ?_)
       refine rn 1 rfl (COps.done [2] [] rfl ?_)
       refine CWp.ret ?_
       cases h
       exact ⟨.inl rfl, rfl, rfl⟩
      ·refine CWp.skip ?_
       refine CWp.seq (CWp.region ?_)
       refine rn 1 rfl (COps.done [2] [] rfl ?_)
       refine CWp.ret ?_
       cases h
       exact ⟨.inl rfl, rfl, rfl⟩
def g_ref03_rank (a0 : Nat) : Option Int :=
 bO (g_ref03_Kind a0) fun v1 =>
 bif v1 == 1 then
  some 18446744073709551615
 else
  bif decide ((a0 : Int) ≥ 9223372036854775808) then
   some (IntKind.u64.wrap (9223372036854775807 - (IntKind.u64.wrap ((a0 : Int) - 9223372036854775808))))
  else
   some (IntKind.u64.wrap ((a0 : Int) + 9223372036854775808))
theorem g_ref03_rank_w {a0 : Nat} {r : Int} (h : g_ref03_rank a0 = some r) : PCall Tryz.prog 64 [zF a0] (.lit (.int .u64 r)) := by
 refine PCall.body Tryz.func64 rfl rfl rfl rfl fun base => ?_
 unfold g_ref03_rank at h
 refine CWp.seq (CWp.region ?_)
 refine rn 1 rfl (COps.done [0] [] rfl ?_)
 refine CWp.seq (CWp.seq (CWp.region ?_))
 refine rn 1 rfl ?_
 obtain ⟨v1, hv1, h⟩ := bI h
 refine pCall Tryz.call31 (g_ref03_Kind_w hv1) rfl ?_
 refine rn 1 rfl (COps.done [0, 6] [] rfl ?_)
 refine CWp.cond h rfl (fun h => ?_) (fun h => ?_)
 ·refine CWp.seq (CWp.region ?_)
  refine rn 1 rfl (COps.done [2] [] rfl ?_)
  refine CWp.ret ?_
  cases h
  exact ⟨.inl rfl, rfl, rfl⟩
 ·refine CWp.skip ?_
  refine CWp.seq (CWp.region ?_)
  refine rn 1 rfl ?_
  refine rd (rExt (f64bits _)) ?_
  refine rn 1 rfl (COps.done [3] [] rfl ?_)
  refine CWp.seq (CWp.seq (CWp.region ?_))
  refine rn 2 rfl (COps.done [3, 10] [] rfl ?_)
  refine CWp.cond h rfl (fun h => ?_) (fun h => ?_)
  ·refine CWp.seq (CWp.region ?_)
   refine rn 4 rfl (COps.done [2] [] rfl ?_)
   refine CWp.ret ?_
   cases h
   exact ⟨.inl rfl, rfl, rfl⟩
  ·refine CWp.skip ?_
   refine CWp.seq (CWp.region ?_)
   refine rn 3 rfl (COps.done [2] [] rfl ?_)
   refine CWp.ret ?_
   cases h
   exact ⟨.inl rfl, rfl, rfl⟩
def g_ref03_Compare (a0 : Nat) (a1 : Nat) : Option Int :=
 bO (g_ref03_rank a0) fun v1 =>
 bO (g_ref03_rank a1) fun v2 =>
 bif decide (v1 < v2) then
  some (-1)
 else
  bif decide (v1 > v2) then
   some 1
  else
   some 0
theorem g_ref03_Compare_w {a0 : Nat} {a1 : Nat} {r : Int} (h : g_ref03_Compare a0 a1 = some r) : PCall Tryz.prog 36 [zF a0, zF a1] (zI r) := by
 refine PCall.body Tryz.func36 rfl rfl rfl rfl fun base => ?_
 unfold g_ref03_Compare at h
 refine CWp.seq (CWp.region ?_)
 refine rn 1 rfl (COps.done [0, 1] [] rfl ?_)
 refine CWp.seq (CWp.region ?_)
 refine rn 1 rfl ?_
 obtain ⟨v1, hv1, h⟩ := bI h
 refine pCall Tryz.call64 (g_ref03_rank_w hv1) rfl ?_
 refine rn 1 rfl (COps.done [1, 5] [] rfl ?_)
 refine CWp.seq (CWp.region ?_)
 refine rn 1 rfl ?_
 obtain ⟨v2, hv2, h⟩ := bI h
 refine pCall Tryz.call64 (g_ref03_rank_w hv2) rfl ?_
 refine rn 1 rfl (COps.done [5, 6] [] rfl ?_)
 refine CWp.seq (CWp.seq (CWp.region ?_))
 refine rn 3 rfl (COps.done [5, 6, 13] [] rfl ?_)
 refine CWp.cond h rfl (fun h => ?_) (fun h => ?_)
 ·refine CWp.seq (CWp.region ?_)
  refine rn 1 rfl (COps.done [4] [] rfl ?_)
  refine CWp.ret ?_
  cases h
  exact ⟨.inl rfl, rfl, rfl⟩
 ·refine CWp.skip ?_
  refine CWp.seq (CWp.seq (CWp.region ?_))
  refine rn 3 rfl (COps.done [16] [] rfl ?_)
  refine CWp.cond h rfl (fun h => ?_) (fun h => ?_)
  ·refine CWp.seq (CWp.region ?_)
   refine rn 1 rfl (COps.done [4] [] rfl ?_)
   refine CWp.ret ?_
   cases h
   exact ⟨.inl rfl, rfl, rfl⟩
  ·refine CWp.skip ?_
   refine CWp.seq (CWp.region ?_)
   refine rn 1 rfl (COps.done [4] [] rfl ?_)
   refine CWp.ret ?_
   cases h
   exact ⟨.inl rfl, rfl, rfl⟩
def g_ref03_Alike (a0 : Nat) (a1 : Nat) : Option Bool :=
 bO (g_ref03_Compare a0 a1) fun v1 =>
 some (v1 == 0)
theorem g_ref03_Alike_w {a0 : Nat} {a1 : Nat} {r : Bool} (h : g_ref03_Alike a0 a1 = some r) : PCall Tryz.prog 16 [zF a0, zF a1] (zB r) := by
 refine PCall.body Tryz.func16 rfl rfl rfl rfl fun base => ?_
 unfold g_ref03_Alike at h
 refine CWp.seq (CWp.region ?_)
 refine rn 1 rfl (COps.done [0, 1] [] rfl ?_)
 refine CWp.seq (CWp.region ?_)
 refine rn 2 rfl ?_
 obtain ⟨v1, hv1, h⟩ := bI h
 refine pCall Tryz.call36 (g_ref03_Compare_w hv1) rfl ?_
 refine rn 2 rfl (COps.done [4] [] rfl ?_)
 refine CWp.ret ?_
 cases h
 exact ⟨.inl rfl, rfl, rfl⟩
def g_script_Right (a0 : SAct) : Option Bool :=
 bO (g_script_write a0) fun v1 =>
 some v1.2
theorem g_script_Right_w {a0 : SAct} {r : Bool} (h : g_script_Right a0 = some r) : PCall Tryz.prog 23 [eSAct a0] (zB r) := by
 refine PCall.body Tryz.func23 rfl rfl rfl rfl fun base => ?_
 unfold g_script_Right at h
 refine CWp.seq (CWp.region ?_)
 refine rn 2 rfl ?_
 refine COps.done [1] [1] rfl ?_
 refine CWp.seq (CWp.region ?_)
 refine rn 1 rfl ?_
 obtain ⟨v1, hv1, h⟩ := bI h
 refine pCall Tryz.call47 (g_script_write_w hv1) rfl ?_
 refine rn 5 rfl (COps.done [4] [] rfl ?_)
 refine CWp.seq (CWp.region ?_)
 refine rn 2 rfl (COps.done [2] [] rfl ?_)
 refine CWp.ret ?_
 cases h
 exact ⟨.inl rfl, rfl, rfl⟩
def g_law26_awake : Option Bool :=
 bO (g_script_Read [115, 97, 109, 112, 108, 101, 32, 51, 32, 105, 110, 102, 32, 45, 48, 32, 49, 50, 107, 10, 116, 105, 99, 107, 32, 35, 32, 111, 110, 10, 99, 114, 97, 115, 104, 32, 51, 32, 49, 32, 48, 10, 97, 100, 109, 105, 116, 32, 97, 32, 119, 101, 98, 32, 49, 75, 105, 32, 45, 50, 32, 112, 108, 97, 105, 110, 32, 49, 32, 50, 32, 51, 10]) fun v1 =>
 bO (g_script_Read [116, 105, 99, 107, 10, 10, 116, 111, 99, 107]) fun v2 =>
 bif ((v1.2.2 != 0) || ((v1.1.length : Int) != 4)) || (v1.2.1 != 0) then
  some false
 else
  bO (g_script_Print v1.1) fun v3 =>
  bO (g_script_Print [(⟨9, (⟨([] : List UInt8), 0, false, (⟨0, 0, 0⟩ : V3 Int), (⟨0, 0, 0⟩ : V3 Int), ([] : List UInt8), 0⟩ : SPod), ([] : List UInt8), (⟨0, (⟨0, 0, 0⟩ : V3 Nat), ([] : List SUsage)⟩ : SRaw), ([] : List Bool), 0, ([] : List Int)⟩ : SAct)]) fun v4 =>
  bO (g_script_Show 4609434218613702656) fun v5 =>
  bO (gq4 [50, 107]) fun v6 =>
  bO (idx v1.1 0) fun v7 =>
  bO (bif (v7.raw.time == 3) then (g_ref03_Kind v7.raw.avail.a) else some default) fun v8 =>
  bO (bif ((v7.raw.time == 3) && (v8 == 7)) then (g_ref03_Kind v7.raw.avail.b) else some default) fun v9 =>
  bO (bif (((v7.raw.time == 3) && (v8 == 7)) && (v9 == 4)) then (g_ref03_Alike v7.raw.avail.c 4667822684095119360) else some default) fun v10 =>
  bO (bif ((((v7.raw.time == 3) && (v8 == 7)) && (v9 == 4)) && v10) then (idx v1.1 1) else some default) fun v11 =>
  bO (bif (((((v7.raw.time == 3) && (v8 == 7)) && (v9 == 4)) && v10) && (v11.do_ == 3)) then (idx v1.1 2) else some default) fun v12 =>
  bO (bif ((((((v7.raw.time == 3) && (v8 == 7)) && (v9 == 4)) && v10) && (v11.do_ == 3)) && (v12.steps == 3)) then (idx v1.1 2) else some default) fun v13 =>
  bO (bif (((((((v7.raw.time == 3) && (v8 == 7)) && (v9 == 4)) && v10) && (v11.do_ == 3)) && (v12.steps == 3)) && ((v13.keep.length : Int) == 2)) then (idx v1.1 3) else some default) fun v14 =>
  bO (bif ((((((((v7.raw.time == 3) && (v8 == 7)) && (v9 == 4)) && v10) && (v11.do_ == 3)) && (v12.steps == 3)) && ((v13.keep.length : Int) == 2)) && (v14.pod.prio == (-2))) then (idx v1.1 3) else some default) fun v15 =>
  bO (bif (((((((((((((((((v7.raw.time == 3) && (v8 == 7)) && (v9 == 4)) && v10) && (v11.do_ == 3)) && (v12.steps == 3)) && ((v13.keep.length : Int) == 2)) && (v14.pod.prio == (-2))) && (v15.pod.size == 1024)) && (v2.2.2 == 2)) && (v2.2.1 == 3)) && (v3.2 == 0)) && (v3.1 == [115, 97, 109, 112, 108, 101, 32, 51, 32, 105, 110, 102, 32, 45, 48, 32, 49, 50, 107, 10, 116, 105, 99, 107, 10, 99, 114, 97, 115, 104, 32, 51, 32, 49, 32, 48, 10, 97, 100, 109, 105, 116, 32, 97, 32, 119, 101, 98, 32, 49, 75, 105, 32, 45, 50, 32, 112, 108, 97, 105, 110, 32, 49, 32, 50, 32, 51, 10])) && (v4.2 == 1)) && (!v5.2)) && (v5.1 == ([] : List UInt8))) && v6.2) then (g_ref03_Alike v6.1 4656510908468559872) else some default) fun v16 =>
  bO (bif ((((((((((((((((((v7.raw.time == 3) && (v8 == 7)) && (v9 == 4)) && v10) && (v11.do_ == 3)) && (v12.steps == 3)) && ((v13.keep.length : Int) == 2)) && (v14.pod.prio == (-2))) && (v15.pod.size == 1024)) && (v2.2.2 == 2)) && (v2.2.1 == 3)) && (v3.2 == 0)) && (v3.1 == [115, 97, 109, 112, 108, 101, 32, 51, 32, 105, 110, 102, 32, 45, 48, 32, 49, 50, 107, 10, 116, 105, 99, 107, 10, 99, 114, 97, 115, 104, 32, 51, 32, 49, 32, 48, 10, 97, 100, 109, 105, 116, 32, 97, 32, 119, 101, 98, 32, 49, 75, 105, 32, 45, 50, 32, 112, 108, 97, 105, 110, 32, 49, 32, 50, 32, 51, 10])) && (v4.2 == 1)) && (!v5.2)) && (v5.1 == ([] : List UInt8))) && v6.2) && v16) then (idx v1.1 2) else some default) fun v17 =>
  bO (bif ((((((((((((((((((v7.raw.time == 3) && (v8 == 7)) && (v9 == 4)) && v10) && (v11.do_ == 3)) && (v12.steps == 3)) && ((v13.keep.length : Int) == 2)) && (v14.pod.prio == (-2))) && (v15.pod.size == 1024)) && (v2.2.2 == 2)) && (v2.2.1 == 3)) && (v3.2 == 0)) && (v3.1 == [115, 97, 109, 112, 108, 101, 32, 51, 32, 105, 110, 102, 32, 45, 48, 32, 49, 50, 107, 10, 116, 105, 99, 107, 10, 99, 114, 97, 115, 104, 32, 51, 32, 49, 32, 48, 10, 97, 100, 109, 105, 116, 32, 97, 32, 119, 101, 98, 32, 49, 75, 105, 32, 45, 50, 32, 112, 108, 97, 105, 110, 32, 49, 32, 50, 32, 51, 10])) && (v4.2 == 1)) && (!v5.2)) && (v5.1 == ([] : List UInt8))) && v6.2) && v16) then (g_script_Right v17) else some default) fun v18 =>
  some (((((((((((((((((((v7.raw.time == 3) && (v8 == 7)) && (v9 == 4)) && v10) && (v11.do_ == 3)) && (v12.steps == 3)) && ((v13.keep.length : Int) == 2)) && (v14.pod.prio == (-2))) && (v15.pod.size == 1024)) && (v2.2.2 == 2)) && (v2.2.1 == 3)) && (v3.2 == 0)) && (v3.1 == [115, 97, 109, 112, 108, 101, 32, 51, 32, 105, 110, 102, 32, 45, 48, 32, 49, 50, 107, 10, 116, 105, 99, 107, 10, 99, 114, 97, 115, 104, 32, 51, 32, 49, 32, 48, 10, 97, 100, 109, 105, 116, 32, 97, 32, 119, 101, 98, 32, 49, 75, 105, 32, 45, 50, 32, 112, 108, 97, 105, 110, 32, 49, 32, 50, 32, 51, 10])) && (v4.2 == 1)) && (!v5.2)) && (v5.1 == ([] : List UInt8))) && v6.2) && v16) && v18)
theorem g_law26_awake_w {r : Bool} (h : g_law26_awake = some r) : PCall Tryz.prog 11 [] (zB r) := by
 refine PCall.body Tryz.func11 rfl rfl rfl rfl fun base => ?_
 unfold g_law26_awake at h
 refine CWp.seq (CWp.region ?_)
 refine rn 1 rfl (COps.done [] [] rfl ?_)
 refine CWp.seq (CWp.region ?_)
 refine rn 1 rfl ?_
 refine cConv ?_
 obtain ⟨v1, hv1, h⟩ := bI h
 refine pCall Tryz.call20 (g_script_Read_w hv1) rfl ?_
 refine rn 7 rfl (COps.done [1, 2, 3] [] rfl ?_)
 refine CWp.seq (CWp.region ?_)
 refine rn 1 rfl ?_
 refine cConv ?_
 obtain ⟨v2, hv2, h⟩ := bI h
 refine pCall Tryz.call20 (g_script_Read_w hv2) rfl ?_
 refine rn 7 rfl (COps.done [1, 2, 3, 5, 6] [] rfl ?_)
 refine CWp.seq (CWp.seq (CWp.region ?_))
 refine rh 11 [v1.1.length] [] rfl ⟨List.length_map .., trivial⟩ ?_
 refine COps.done [1, 5, 6, 39] [] rfl ?_
 refine CWp.cond h rfl (fun h => ?_) (fun h => ?_)
 ·refine CWp.seq (CWp.region ?_)
  refine rn 1 rfl (COps.done [0] [] rfl ?_)
  refine CWp.ret ?_
  cases h
  exact ⟨.inl rfl, rfl, rfl⟩
 ·refine CWp.skip ?_
  refine CWp.seq (CWp.region ?_)
  refine rn 1 rfl ?_
  obtain ⟨v3, hv3, h⟩ := bI h
  refine pCall Tryz.call25 (g_script_Print_w hv3) rfl ?_
  refine rn 5 rfl (COps.done [1, 5, 6, 7, 8] [] rfl ?_)
  refine CWp.seq (CWp.region ?_)
  refine rn 2 rfl ?_
  obtain ⟨v4, hv4, h⟩ := bI h
  refine pCall Tryz.call25 (g_script_Print_w hv4) rfl ?_
  refine rn 5 rfl (COps.done [1, 5, 6, 7, 8, 10] [] rfl ?_)
  refine CWp.seq (CWp.region ?_)
  obtain ⟨v5, hv5, h⟩ := bI h
  refine pCall Tryz.call18 (g_script_Show_w hv5) rfl ?_
  refine rn 5 rfl (COps.done [1, 5, 6, 7, 8, 10, 11, 12] [] rfl ?_)
  refine CWp.seq (CWp.region ?_)
  obtain ⟨v6, hv6, h⟩ := bI h
  refine pCall Tryz.call12 (g_script_Amount_w hv6) rfl ?_
  refine rn 5 rfl (COps.done [1, 5, 6, 7, 8, 10, 11, 12, 13, 14] [] rfl ?_)
  refine CWp.seq (CWp.region ?_)
  obtain ⟨v7, hv7, h⟩ := bI h
  refine rn 1 rfl ?_
  refine rd (rIx hv7) ?_
  refine rn 6 rfl ?_
  refine rdg 65 true [] (fun ht => rIx hv7) ?_
  refine rn 4 rfl ?_
  obtain ⟨v8, hv8, h⟩ := bI h
  refine pCallg 65 true [] Tryz.call31 (fun ht => g_ref03_Kind_w (gd hv8 (ht.1 _ rfl))) rfl ?_
  refine rn 4 rfl ?_
  refine rdg 75 true [] (fun ht => rIx hv7) ?_
  refine rn 4 rfl ?_
  refine COps.keepG [1, 5, 6, 7, 8, 10, 11, 12, 13, 14, 75, 81] rfl ?_
  obtain ⟨v9, hv9, h⟩ := bI h
  refine pCallg 75 true [] Tryz.call31 (fun ht => g_ref03_Kind_w (gd hv9 (ht.1 _ rfl))) rfl ?_
  refine rn 4 rfl ?_
  refine rdg 85 true [] (fun ht => rIx hv7) ?_
  refine rn 4 rfl ?_
  refine COps.keepG [1, 5, 6, 7, 8, 10, 11, 12, 13, 14, 85, 91] rfl ?_
  obtain ⟨v10, hv10, h⟩ := bI h
  refine pCallg 85 true [] Tryz.call16 (fun ht => g_ref03_Alike_w (gd hv10 (ht.1 _ rfl))) rfl ?_
  obtain ⟨v11, hv11, h⟩ := bI h
  refine rn 3 rfl ?_
  refine rdg 94 true [] (fun ht => rIx (gd hv11 (ht.1 _ rfl))) ?_
  obtain ⟨v12, hv12, h⟩ := bI h
  refine rn 6 rfl ?_
  refine rdg 101 true [] (fun ht => rIx (gd hv12 (ht.1 _ rfl))) ?_
  obtain ⟨v13, hv13, h⟩ := bI h
  refine rn 6 rfl ?_
  refine rdg 108 true [] (fun ht => rIx (gd hv13 (ht.1 _ rfl))) ?_
  obtain ⟨v14, hv14, h⟩ := bI h
  refine rh 7 [v13.keep.length] [] rfl ⟨List.length_map .., trivial⟩ ?_
  refine rdg 116 true [] (fun ht => rIx (gd hv14 (ht.1 _ rfl))) ?_
  obtain ⟨v15, hv15, h⟩ := bI h
  refine rn 7 rfl ?_
  refine rdg 124 true [] (fun ht => rIx (gd hv15 (ht.1 _ rfl))) ?_
  refine rn 38 rfl ?_
  refine COps.keepG [1, 163, 164] rfl ?_
  obtain ⟨v16, hv16, h⟩ := bI h
  refine pCallg 163 true [] Tryz.call16 (fun ht => g_ref03_Alike_w (gd hv16 (ht.1 _ rfl))) rfl ?_
  obtain ⟨v17, hv17, h⟩ := bI h
  refine rn 3 rfl ?_
  refine rdg 167 true [] (fun ht => rIx (gd hv17 (ht.1 _ rfl))) ?_
  refine rn 1 rfl ?_
  refine COps.keepG [167, 170] rfl ?_
  obtain ⟨v18, hv18, h⟩ := bI h
  refine pCallg 167 true [] Tryz.call23 (fun ht => g_script_Right_w (gd hv18 (ht.1 _ rfl))) rfl ?_
  refine rn 2 rfl (COps.done [0] [] rfl ?_)
  refine CWp.ret ?_
  cases h
  exact ⟨.inl rfl, rfl, rfl⟩
def g_ref01_number (a0 : Int) : Option Int :=
 bif decide (a0 < 0) then
  some 0
 else
  some (IntKind.u64.wrap a0)
theorem g_ref01_number_w {a0 : Int} {r : Int} (h : g_ref01_number a0 = some r) : PCall Tryz.prog 105 [zI a0] (.lit (.int .u64 r)) := by
 refine PCall.body Tryz.func105 rfl rfl rfl rfl fun base => ?_
 unfold g_ref01_number at h
 refine CWp.seq (CWp.region ?_)
 refine rn 1 rfl (COps.done [0] [] rfl ?_)
 refine CWp.seq (CWp.seq (CWp.region ?_))
 refine rn 2 rfl (COps.done [0, 4] [] rfl ?_)
 refine CWp.cond h rfl (fun h => ?_) (fun h => ?_)
 ·refine CWp.seq (CWp.region ?_)
  refine rn 1 rfl (COps.done [2] [] rfl ?_)
  refine CWp.ret ?_
  cases h
  exact ⟨.inl rfl, rfl, rfl⟩
 ·refine CWp.skip ?_
  refine CWp.seq (CWp.region ?_)
  refine rn 3 rfl (COps.done [2] [] rfl ?_)
  refine CWp.ret ?_
  cases h
  exact ⟨.inl rfl, rfl, rfl⟩
def g_ref01_held (a0 : Int) : Option Int :=
 bif decide (a0 > 9223372036854775807) then
  some 9223372036854775807
 else
  some (w64 a0)
theorem g_ref01_held_w {a0 : Int} {r : Int} (h : g_ref01_held a0 = some r) : PCall Tryz.prog 104 [.lit (.int .u64 a0)] (zI r) := by
 refine PCall.body Tryz.func104 rfl rfl rfl rfl fun base => ?_
 unfold g_ref01_held at h
 refine CWp.seq (CWp.region ?_)
 refine rn 1 rfl (COps.done [0] [] rfl ?_)
 refine CWp.seq (CWp.seq (CWp.region ?_))
 refine rn 2 rfl (COps.done [0, 4] [] rfl ?_)
 refine CWp.cond h rfl (fun h => ?_) (fun h => ?_)
 ·refine CWp.seq (CWp.region ?_)
  refine rn 1 rfl (COps.done [2] [] rfl ?_)
  refine CWp.ret ?_
  cases h
  exact ⟨.inl rfl, rfl, rfl⟩
 ·refine CWp.skip ?_
  refine CWp.seq (CWp.region ?_)
  refine rn 3 rfl (COps.done [2] [] rfl ?_)
  refine CWp.ret ?_
  cases h
  exact ⟨.inl rfl, rfl, rfl⟩
def g_ref01_Add (a0 : Int) (a1 : Int) : Option Int :=
 bO (g_ref01_number a0) fun v1 =>
 bO (g_ref01_number a1) fun v2 =>
 bO (g_ref01_held (IntKind.u64.wrap (v1 + v2))) fun v3 =>
 some v3
theorem g_ref01_Add_w {a0 : Int} {a1 : Int} {r : Int} (h : g_ref01_Add a0 a1 = some r) : PCall Tryz.prog 61 [zI a0, zI a1] (zI r) := by
 refine PCall.body Tryz.func61 rfl rfl rfl rfl fun base => ?_
 unfold g_ref01_Add at h
 refine CWp.seq (CWp.region ?_)
 refine rn 1 rfl (COps.done [0, 1] [] rfl ?_)
 refine CWp.seq (CWp.region ?_)
 refine rn 1 rfl ?_
 obtain ⟨v1, hv1, h⟩ := bI h
 refine pCall Tryz.call105 (g_ref01_number_w hv1) rfl ?_
 refine rn 1 rfl ?_
 obtain ⟨v2, hv2, h⟩ := bI h
 refine pCall Tryz.call105 (g_ref01_number_w hv2) rfl ?_
 refine rn 1 rfl ?_
 obtain ⟨v3, hv3, h⟩ := bI h
 refine pCall Tryz.call104 (g_ref01_held_w hv3) rfl ?_
 refine rn 1 rfl (COps.done [4] [] rfl ?_)
 refine CWp.ret ?_
 cases h
 exact ⟨.inl rfl, rfl, rfl⟩
def g_ref01_Mul_k1 (x4 : Int) : Option Int :=
 some x4
def g_ref01_Mul_k3 (x5 : Int) (x6 : Int) (q2 : Int → Int → Int → Option Int) (x8 : Int) : Option Int :=
 bO (g_ref01_Add x5 x5) fun v9 =>
 q2 v9 (IntKind.u64.wrap (x6.tdiv 2)) x8
def g_ref01_Mul_l2 (k290 : Int → Option Int) : Nat → Int → Int → Int → Option Int
 | 0, _, _, _ => none
 | m2 + 1, x5, x6, x7 =>
  bif decide (x6 > 0) then
   bif (x6.tmod 2) == 1 then
    bO (g_ref01_Add x7 x5) fun v10 =>
    g_ref01_Mul_k3 x5 x6 (g_ref01_Mul_l2 k290 m2) v10
   else
    g_ref01_Mul_k3 x5 x6 (g_ref01_Mul_l2 k290 m2) x7
  else
   k290 x7
def g_ref01_Mul (a0 : Int) (a1 : Int) : Option Int :=
 bO (g_ref01_number a0) fun v1 =>
 bO (g_ref01_held v1) fun v2 =>
 bO (g_ref01_number a1) fun v3 =>
 g_ref01_Mul_l2 g_ref01_Mul_k1 FUEL v2 v3 0
theorem g_ref01_Mul_w {a0 : Int} {a1 : Int} {r : Int} (h : g_ref01_Mul a0 a1 = some r) : PCall Tryz.prog 62 [zI a0, zI a1] (zI r) := by
 refine PCall.body Tryz.func62 rfl rfl rfl rfl fun base => ?_
 unfold g_ref01_Mul at h
 refine CWp.seq (CWp.region ?_)
 refine rn 1 rfl (COps.done [0, 1] [] rfl ?_)
 refine CWp.seq (CWp.region ?_)
 refine rn 1 rfl ?_
 obtain ⟨v1, hv1, h⟩ := bI h
 refine pCall Tryz.call105 (g_ref01_number_w hv1) rfl ?_
 obtain ⟨v2, hv2, h⟩ := bI h
 refine pCall Tryz.call104 (g_ref01_held_w hv2) rfl ?_
 refine rn 1 rfl (COps.done [1, 5] [] rfl ?_)
 refine CWp.seq (CWp.region ?_)
 refine rn 1 rfl ?_
 obtain ⟨v3, hv3, h⟩ := bI h
 refine pCall Tryz.call105 (g_ref01_number_w hv3) rfl ?_
 refine rn 1 rfl (COps.done [5, 6] [] rfl ?_)
 refine CWp.seq (CWp.region ?_)
 refine rn 1 rfl (COps.done [5, 6, 7] [] rfl ?_)
 refine CWp.mid (fun e => ∃ x4, e = ⟨[(7, [], zI x4)], [], [], [], base⟩ ∧ g_ref01_Mul_k1 x4 = some r) ?_ ?_
 ·refine CWp.block ?_
  refine CWp.loop (fun m2 e => ∃ x5 x6 x7, e = ⟨[(5, [], zI x5), (6, [], .lit (.int .u64 x6)), (7, [], zI x7)], [], [], [], base⟩ ∧ g_ref01_Mul_l2 (g_ref01_Mul_k1) m2 x5 x6 x7 = some r) FUEL ⟨_, _, _, rfl, h⟩ ?_ ?_
  ·rintro m2 _ ⟨x5, x6, x7, rfl, h⟩
   rw [g_ref01_Mul_l2] at h
   refine CWp.seq (CWp.seq (CWp.region ?_))
   refine rn 2 rfl (COps.done [5, 6, 7, 14] [] rfl ?_)
   refine CWp.cond h rfl (fun h => ?_) (fun h => ?_)
   ·refine CWp.skip ?_
    refine CWp.block ?_
    refine CWp.mid (fun e => ∃ x8, e = ⟨[(5, [], zI x5), (6, [], .lit (.int .u64 x6)), (7, [], zI x8)], [], [], [], base⟩ ∧ g_ref01_Mul_k3 x5 x6 (g_ref01_Mul_l2 (g_ref01_Mul_k1) m2) x8 = some r) ?_ ?_
    ·refine CWp.seq (CWp.region ?_)
     refine rn 3 rfl (COps.done [5, 6, 7, 17] [] rfl ?_)
     refine CWp.cond h rfl (fun h => ?_) (fun h => ?_)
     ·refine CWp.region ?_
      refine rn 2 rfl ?_
      obtain ⟨v10, hv10, h⟩ := bI h
      refine pCall Tryz.call61 (g_ref01_Add_w hv10) rfl ?_
      refine rn 1 rfl (COps.done [5, 6, 7] [] rfl ?_)
      exact ⟨_, rfl, h⟩
     ·refine CWp.keep [5, 6, 7] [] rfl ?_
      refine CWp.skip ?_
      exact ⟨_, rfl, h⟩
    ·rintro _ ⟨x8, rfl, h⟩
     unfold g_ref01_Mul_k3 at h
     refine CWp.seq (CWp.region ?_)
     refine rn 2 rfl ?_
     obtain ⟨v9, hv9, h⟩ := bI h
     refine pCall Tryz.call61 (g_ref01_Add_w hv9) rfl ?_
     refine rn 1 rfl (COps.done [5, 6, 7] [] rfl ?_)
     refine CWp.region ?_
     refine rn 3 rfl (COps.done [5, 6, 7] [] rfl ?_)
     exact ⟨_, _, _, rfl, h⟩
   ·refine CWp.keep [7] [] rfl ?_
    refine CWp.exit ?_
    exact ⟨_, rfl, h⟩
  ·rintro _ ⟨_, _, _, _, h⟩
   rw [g_ref01_Mul_l2] at h; cases h
 ·rintro _ ⟨x4, rfl, h⟩
  unfold g_ref01_Mul_k1 at h
  refine CWp.seq (CWp.region ?_)
  refine rn 2 rfl (COps.done [4] [] rfl ?_)
  refine CWp.ret ?_
  cases h
  exact ⟨.inl rfl, rfl, rfl⟩
def g_ref05_Names : Option (List (List UInt8)) :=
 some [[84, 105], [84], [71, 105], [71], [77, 105], [77], [75, 105], [107]]
theorem g_ref05_Names_w {r : List (List UInt8)} (h : g_ref05_Names = some r) : PCall Tryz.prog 71 [] (.list true 9 (r.map AV.str)) := by
 refine PCall.body Tryz.func71 rfl rfl rfl rfl fun base => ?_
 unfold g_ref05_Names at h
 refine CWp.seq (CWp.region ?_)
 refine rn 1 rfl (COps.done [] [] rfl ?_)
 refine CWp.seq (CWp.region ?_)
 refine rh 2 [] [0] rfl trivial ?_
 refine COps.done [0] [] rfl ?_
 refine CWp.ret ?_
 cases h
 exact ⟨.inl rfl, rfl, rfl⟩
def g_ref05_Unit_k1 : Option Int :=
 some 0
def g_ref05_Unit_k3 (x2 : Int) (q2 : Int → Option Int) : Option Int :=
 q2 (w64 (x2 + 1))
def g_ref05_Unit_k4 (x4 : Int) : Option Int :=
 some x4
def g_ref05_Unit_k6 (x6 : Int) (q5 : Int → Int → Option Int) (x7 : Int) : Option Int :=
 q5 x7 (w64 (x6 + 1))
def g_ref05_Unit_l5 (x2 : Int) (k590 : Int → Option Int) : Nat → Int → Int → Option Int
 | 0, _, _ => none
 | m5 + 1, x5, x6 =>
  bif decide (x6 < 4) then
   bif (x2.tmod 2) == 0 then
    g_ref05_Unit_k6 x6 (g_ref05_Unit_l5 x2 k590 m5) (w64 (x5 * 1024))
   else
    g_ref05_Unit_k6 x6 (g_ref05_Unit_l5 x2 k590 m5) (w64 (x5 * 1000))
  else
   k590 x5
def g_ref05_Unit_l2 (a0 : List UInt8) (v1 : List (List UInt8)) (k290 : Option Int) : Nat → Int → Option Int
 | 0, _ => none
 | m2 + 1, x2 =>
  bif decide (x2 < 8) then
   bO (idx v1 x2) fun v3 =>
   bif v3 == a0 then
    g_ref05_Unit_l5 x2 g_ref05_Unit_k4 FUEL 1 (w64 (x2.tdiv 2))
   else
    g_ref05_Unit_k3 x2 (g_ref05_Unit_l2 a0 v1 k290 m2)
  else
   k290
def g_ref05_Unit (a0 : List UInt8) : Option Int :=
 bif a0 == ([] : List UInt8) then
  some 1
 else
  bO (g_ref05_Names) fun v1 =>
  g_ref05_Unit_l2 a0 v1 g_ref05_Unit_k1 FUEL 0
theorem g_ref05_Unit_w {a0 : List UInt8} {r : Int} (h : g_ref05_Unit a0 = some r) : PCall Tryz.prog 63 [.str a0] (zI r) := by
 refine PCall.body Tryz.func63 rfl rfl rfl rfl fun base => ?_
 unfold g_ref05_Unit at h
 refine CWp.seq (CWp.region ?_)
 refine rn 1 rfl (COps.done [0] [] rfl ?_)
 refine CWp.seq (CWp.seq (CWp.region ?_))
 refine rn 2 rfl (COps.done [0, 8] [] rfl ?_)
 refine CWp.cond h rfl (fun h => ?_) (fun h => ?_)
 ·refine CWp.seq (CWp.region ?_)
  refine rn 1 rfl (COps.done [2] [] rfl ?_)
  refine CWp.ret ?_
  cases h
  exact ⟨.inl rfl, rfl, rfl⟩
 ·refine CWp.skip ?_
  refine CWp.seq (CWp.region ?_)
  obtain ⟨v1, hv1, h⟩ := bI h
  refine pCall Tryz.call71 (g_ref05_Names_w hv1) rfl ?_
  refine rh 1 [] [3] rfl trivial ?_
  refine COps.done [0, 3] [] rfl ?_
  refine CWp.mid (fun e => e = ⟨[], [], [], [], base⟩ ∧ g_ref05_Unit_k1 = some r) ?_ ?_
  ·refine CWp.seq (CWp.region ?_)
   refine rn 1 rfl (COps.done [0, 3, 4] [] rfl ?_)
   refine CWp.block ?_
   refine CWp.loop (fun m2 e => ∃ x2, e = ⟨[(0, [], .str a0), (3, [], .list true 9 (v1.map AV.str)), (4, [], zI x2)], [], [], [], base⟩ ∧ g_ref05_Unit_l2 a0 v1 (g_ref05_Unit_k1) m2 x2 = some r) FUEL ⟨_, rfl, h⟩ ?_ ?_
   ·rintro m2 _ ⟨x2, rfl, h⟩
    rw [g_ref05_Unit_l2] at h
    refine CWp.seq (CWp.seq (CWp.region ?_))
    refine rn 2 rfl (COps.done [0, 3, 4, 11] [] rfl ?_)
    refine CWp.cond h rfl (fun h => ?_) (fun h => ?_)
    ·refine CWp.skip ?_
     refine CWp.mid (fun e => e = ⟨[(0, [], .str a0), (3, [], .list true 9 (v1.map AV.str)), (4, [], zI x2)], [], [], [], base⟩ ∧ g_ref05_Unit_k3 x2 (g_ref05_Unit_l2 a0 v1 (g_ref05_Unit_k1) m2) = some r) ?_ ?_
     ·refine CWp.block ?_
      refine CWp.seq (CWp.region ?_)
      obtain ⟨v3, hv3, h⟩ := bI h
      refine rn 2 rfl ?_
      refine rd (rIx hv3) ?_
      refine rn 3 rfl (COps.done [0, 3, 4, 19] [] rfl ?_)
      refine CWp.cond h rfl (fun h => ?_) (fun h => ?_)
      ·refine CWp.seq (CWp.region ?_)
       refine rn 1 rfl (COps.done [4, 5] [] rfl ?_)
       refine CWp.mid (fun e => ∃ x4, e = ⟨[(5, [], zI x4)], [], [], [], base⟩ ∧ g_ref05_Unit_k4 x4 = some r) ?_ ?_
       ·refine CWp.seq (CWp.region ?_)
        refine rn 3 rfl (COps.done [4, 5, 6] [] rfl ?_)
        refine CWp.block ?_
        refine CWp.loop (fun m5 e => ∃ x5 x6, e = ⟨[(4, [], zI x2), (5, [], zI x5), (6, [], zI x6)], [], [], [], base⟩ ∧ g_ref05_Unit_l5 x2 (g_ref05_Unit_k4) m5 x5 x6 = some r) FUEL ⟨_, _, rfl, h⟩ ?_ ?_
        ·rintro m5 _ ⟨x5, x6, rfl, h⟩
         rw [g_ref05_Unit_l5] at h
         refine CWp.seq (CWp.seq (CWp.region ?_))
         refine rn 2 rfl (COps.done [4, 5, 6, 23] [] rfl ?_)
         refine CWp.cond h rfl (fun h => ?_) (fun h => ?_)
         ·refine CWp.skip ?_
          refine CWp.mid (fun e => ∃ x7, e = ⟨[(4, [], zI x2), (5, [], zI x7), (6, [], zI x6)], [], [], [], base⟩ ∧ g_ref05_Unit_k6 x6 (g_ref05_Unit_l5 x2 (g_ref05_Unit_k4) m5) x7 = some r) ?_ ?_
          ·refine CWp.block ?_
           refine CWp.seq (CWp.region ?_)
           refine rn 3 rfl (COps.done [4, 5, 6, 28] [] rfl ?_)
           refine CWp.cond h rfl (fun h => ?_) (fun h => ?_)
           ·refine CWp.region ?_
            refine rn 3 rfl (COps.done [4, 5, 6] [] rfl ?_)
            exact ⟨_, rfl, h⟩
           ·refine CWp.region ?_
            refine rn 3 rfl (COps.done [4, 5, 6] [] rfl ?_)
            exact ⟨_, rfl, h⟩
          ·rintro _ ⟨x7, rfl, h⟩
           unfold g_ref05_Unit_k6 at h
           refine CWp.region ?_
           refine rn 3 rfl (COps.done [4, 5, 6] [] rfl ?_)
           exact ⟨_, _, rfl, h⟩
         ·refine CWp.keep [5] [] rfl ?_
          refine CWp.exit ?_
          exact ⟨_, rfl, h⟩
        ·rintro _ ⟨_, _, _, h⟩
         rw [g_ref05_Unit_l5] at h; cases h
       ·rintro _ ⟨x4, rfl, h⟩
        unfold g_ref05_Unit_k4 at h
        refine CWp.seq (CWp.region ?_)
        refine rn 2 rfl (COps.done [2] [] rfl ?_)
        refine CWp.ret ?_
        cases h
        exact ⟨.inl rfl, rfl, rfl⟩
      ·refine CWp.keep [0, 3, 4] [] rfl ?_
       refine CWp.skip ?_
       exact ⟨rfl, h⟩
     ·rintro _ ⟨rfl, h⟩
      unfold g_ref05_Unit_k3 at h
      refine CWp.region ?_
      refine rn 3 rfl (COps.done [0, 3, 4] [] rfl ?_)
      exact ⟨_, rfl, h⟩
    ·refine CWp.keep [] [] rfl ?_
     refine CWp.exit ?_
     exact ⟨rfl, h⟩
   ·rintro _ ⟨_, _, h⟩
    rw [g_ref05_Unit_l2] at h; cases h
  ·rintro _ ⟨rfl, h⟩
   unfold g_ref05_Unit_k1 at h
   refine CWp.seq (CWp.region ?_)
   refine rn 1 rfl (COps.done [2] [] rfl ?_)
   refine CWp.ret ?_
   cases h
   exact ⟨.inl rfl, rfl, rfl⟩
def g_ref05_Read_k1 (a0 : List UInt8) (x1 : Int) (x2 : Int) : Option (Int × Bool) :=
 bO (slO a0 x1 (a0.length : Int)) fun v3 =>
 bO (g_ref05_Unit v3) fun v4 =>
 bif (x1 == 0) || (v4 == 0) then
  some (0, false)
 else
  bO (g_ref01_Mul x2 v4) fun v5 =>
  some (v5, true)
def g_ref05_Read_l2 (a0 : List UInt8) (k290 : Int → Int → Option (Int × Bool)) : Nat → Int → Int → Option (Int × Bool)
 | 0, _, _ => none
 | m2 + 1, x6, x7 =>
  bO (bif (decide (x6 < (a0.length : Int))) then (idx a0 x6) else some default) fun v8 =>
  bO (bif ((decide (x6 < (a0.length : Int))) && (decide ((v8.toNat : Int) ≥ 48))) then (idx a0 x6) else some default) fun v9 =>
  bif ((decide (x6 < (a0.length : Int))) && (decide ((v8.toNat : Int) ≥ 48))) && (decide ((v9.toNat : Int) ≤ 57)) then
   bO (g_ref01_Mul x7 10) fun v10 =>
   bO (idx a0 x6) fun v11 =>
   bO (g_ref01_Add v10 (w64 ((w64 (v11.toNat : Int)) - 48))) fun v12 =>
   (g_ref05_Read_l2 a0 k290 m2) (w64 (x6 + 1)) v12
  else
   k290 x6 x7
def g_ref05_Read (a0 : List UInt8) : Option (Int × Bool) :=
 g_ref05_Read_l2 a0 (g_ref05_Read_k1 a0) FUEL 0 0
theorem g_ref05_Read_w {a0 : List UInt8} {r : Int × Bool} (h : g_ref05_Read a0 = some r) : PCall Tryz.prog 35 [.str a0] (.tuple [zI r.1, zB r.2]) := by
 refine PCall.body Tryz.func35 rfl rfl rfl rfl fun base => ?_
 unfold g_ref05_Read at h
 refine CWp.seq (CWp.region ?_)
 refine rn 2 rfl (COps.done [0] [] rfl ?_)
 refine CWp.seq (CWp.region ?_)
 refine rn 1 rfl (COps.done [0, 4] [] rfl ?_)
 refine CWp.seq (CWp.region ?_)
 refine rn 1 rfl (COps.done [0, 4, 5] [] rfl ?_)
 refine CWp.mid (fun e => ∃ x1 x2, e = ⟨[(0, [], .str a0), (4, [], zI x1), (5, [], zI x2)], [], [], [], base⟩ ∧ g_ref05_Read_k1 a0 x1 x2 = some r) ?_ ?_
 ·refine CWp.block ?_
  refine CWp.loop (fun m2 e => ∃ x6 x7, e = ⟨[(0, [], .str a0), (4, [], zI x6), (5, [], zI x7)], [], [], [], base⟩ ∧ g_ref05_Read_l2 a0 (g_ref05_Read_k1 a0) m2 x6 x7 = some r) FUEL ⟨_, _, rfl, h⟩ ?_ ?_
  ·rintro m2 _ ⟨x6, x7, rfl, h⟩
   rw [g_ref05_Read_l2] at h
   refine CWp.seq (CWp.seq (CWp.region ?_))
   obtain ⟨v8, hv8, h⟩ := bI h
   refine rn 7 rfl ?_
   refine rdg 11 true [] (fun ht => rBy (gd hv8 (ht.1 _ rfl))) ?_
   obtain ⟨v9, hv9, h⟩ := bI h
   refine rn 5 rfl ?_
   refine rdg 17 true [] (fun ht => rBy (gd hv9 (ht.1 _ rfl))) ?_
   refine rn 2 rfl (COps.done [0, 4, 5, 22] [] rfl ?_)
   refine CWp.cond h rfl (fun h => ?_) (fun h => ?_)
   ·refine CWp.skip ?_
    refine CWp.block ?_
    refine CWp.seq ?_
    refine CWp.drawn 8 (by kernel_rfl) ?_
    refine pn 1 rfl ?_
    obtain ⟨v10, hv10, h⟩ := bI h
    refine qCall Tryz.call62 (g_ref01_Mul_w hv10) rfl ?_
    obtain ⟨v11, hv11, h⟩ := bI h
    refine pn 2 rfl ?_
    refine pd (rBy hv11) ?_
    refine pn 2 rfl ?_
    obtain ⟨v12, hv12, h⟩ := bI h
    refine qCall Tryz.call61 (g_ref01_Add_w hv12) rfl ?_
    refine COpsE.nil ?_
    refine rn 1 rfl (COps.done [0, 4, 5] [] rfl ?_)
    refine CWp.region ?_
    refine rn 3 rfl (COps.done [0, 4, 5] [] rfl ?_)
    exact ⟨_, _, rfl, h⟩
   ·refine CWp.keep [0, 4, 5] [] rfl ?_
    refine CWp.exit ?_
    exact ⟨_, _, rfl, h⟩
  ·rintro _ ⟨_, _, _, h⟩
   rw [g_ref05_Read_l2] at h; cases h
 ·rintro _ ⟨x1, x2, rfl, h⟩
  unfold g_ref05_Read_k1 at h
  refine CWp.seq (CWp.region ?_)
  obtain ⟨v3, hv3, h⟩ := bI h
  refine rn 2 rfl ?_
  refine rd (rSub hv3) ?_
  obtain ⟨v4, hv4, h⟩ := bI h
  refine pCall Tryz.call63 (g_ref05_Unit_w hv4) rfl ?_
  refine rn 1 rfl (COps.done [4, 5, 6] [] rfl ?_)
  refine CWp.seq (CWp.seq (CWp.region ?_))
  refine rn 6 rfl (COps.done [5, 6, 42] [] rfl ?_)
  refine CWp.cond h rfl (fun h => ?_) (fun h => ?_)
  ·refine CWp.seq (CWp.region ?_)
   refine rn 2 rfl (COps.done [2, 3] [] rfl ?_)
   refine CWp.ret ?_
   cases h
   exact ⟨.inl rfl, rfl, rfl⟩
  ·refine CWp.skip ?_
   refine CWp.seq (CWp.region ?_)
   refine rn 2 rfl ?_
   obtain ⟨v5, hv5, h⟩ := bI h
   refine pCall Tryz.call62 (g_ref01_Mul_w hv5) rfl ?_
   refine rn 2 rfl (COps.done [2, 3] [] rfl ?_)
   refine CWp.ret ?_
   cases h
   exact ⟨.inl rfl, rfl, rfl⟩
def g_ref26_Amount (a0 : List UInt8) : Option (Nat × Bool) :=
 bif a0 == [110, 97, 110] then
  bO (g_math_NaN) fun v1 =>
  some (v1, true)
 else
  bif a0 == [105, 110, 102] then
   bO (g_math_Inf 1) fun v2 =>
   some (v2, true)
  else
   bif a0 == [45, 105, 110, 102] then
    bO (g_math_Inf (-1)) fun v3 =>
    some (v3, true)
   else
    bif a0 == [45, 48] then
     bO (g_math_Copysign 0 13830554455654793216) fun v4 =>
     some (v4, true)
    else
     bO (g_ref05_Read a0) fun v5 =>
     bif (!v5.2) || (decide (v5.1 > 9007199254740992)) then
      some (0, false)
     else
      some (FloatKind.f64.nearest v5.1, true)
theorem g_ref26_Amount_w {a0 : List UInt8} {r : Nat × Bool} (h : g_ref26_Amount a0 = some r) : PCall Tryz.prog 13 [.str a0] (.tuple [zF r.1, zB r.2]) := by
 refine PCall.body Tryz.func13 rfl rfl rfl rfl fun base => ?_
 unfold g_ref26_Amount at h
 refine CWp.seq (CWp.region ?_)
 refine rn 2 rfl (COps.done [0] [] rfl ?_)
 refine CWp.seq (CWp.seq (CWp.region ?_))
 refine rn 2 rfl (COps.done [0, 7] [] rfl ?_)
 refine CWp.cond h rfl (fun h => ?_) (fun h => ?_)
 ·refine CWp.seq (CWp.region ?_)
  obtain ⟨v1, hv1, h⟩ := bI h
  refine pCall Tryz.call32 (g_math_NaN_w hv1) rfl ?_
  refine rn 2 rfl (COps.done [2, 3] [] rfl ?_)
  refine CWp.ret ?_
  cases h
  exact ⟨.inl rfl, rfl, rfl⟩
 ·refine CWp.skip ?_
  refine CWp.seq (CWp.seq (CWp.region ?_))
  refine rn 2 rfl (COps.done [0, 10] [] rfl ?_)
  refine CWp.cond h rfl (fun h => ?_) (fun h => ?_)
  ·refine CWp.seq (CWp.region ?_)
   obtain ⟨v2, hv2, h⟩ := bI h
   refine pCall Tryz.call33 (g_math_Inf_w hv2) rfl ?_
   refine rn 2 rfl (COps.done [2, 3] [] rfl ?_)
   refine CWp.ret ?_
   cases h
   exact ⟨.inl rfl, rfl, rfl⟩
  ·refine CWp.skip ?_
   refine CWp.seq (CWp.seq (CWp.region ?_))
   refine rn 2 rfl (COps.done [0, 13] [] rfl ?_)
   refine CWp.cond h rfl (fun h => ?_) (fun h => ?_)
   ·refine CWp.seq (CWp.region ?_)
    obtain ⟨v3, hv3, h⟩ := bI h
    refine pCall Tryz.call33 (g_math_Inf_w hv3) rfl ?_
    refine rn 2 rfl (COps.done [2, 3] [] rfl ?_)
    refine CWp.ret ?_
    cases h
    exact ⟨.inl rfl, rfl, rfl⟩
   ·refine CWp.skip ?_
    refine CWp.seq (CWp.seq (CWp.region ?_))
    refine rn 2 rfl (COps.done [0, 16] [] rfl ?_)
    refine CWp.cond h rfl (fun h => ?_) (fun h => ?_)
    ·refine CWp.seq (CWp.region ?_)
     obtain ⟨v4, hv4, h⟩ := bI h
     refine pCall Tryz.call30 (g_math_Copysign_w hv4) rfl ?_
     refine rn 2 rfl (COps.done [2, 3] [] rfl ?_)
     refine CWp.ret ?_
     cases h
     exact ⟨.inl rfl, rfl, rfl⟩
    ·refine CWp.skip ?_
     refine CWp.seq (CWp.region ?_)
     refine rn 1 rfl ?_
     obtain ⟨v5, hv5, h⟩ := bI h
     refine pCall Tryz.call35 (g_ref05_Read_w hv5) rfl ?_
     refine rn 5 rfl (COps.done [4, 5] [] rfl ?_)
     refine CWp.seq (CWp.seq (CWp.region ?_))
     refine rn 6 rfl (COps.done [4, 28] [] rfl ?_)
     refine CWp.cond h rfl (fun h => ?_) (fun h => ?_)
     ·refine CWp.seq (CWp.region ?_)
      refine rn 2 rfl (COps.done [2, 3] [] rfl ?_)
      refine CWp.ret ?_
      cases h
      exact ⟨.inl rfl, rfl, rfl⟩
     ·refine CWp.skip ?_
      refine CWp.seq (CWp.region ?_)
      refine rn 4 rfl (COps.done [2, 3] [] rfl ?_)
      refine CWp.ret ?_
      cases h
      exact ⟨.inl rfl, rfl, rfl⟩
def g_ref26_Word_k1 (a0 : List UInt8) : Option Bool :=
 bO (bif ((decide ((a0.length : Int) ≥ 1)) && (decide ((a0.length : Int) ≤ 60))) then (idx a0 0) else some default) fun v1 =>
 some (((decide ((a0.length : Int) ≥ 1)) && (decide ((a0.length : Int) ≤ 60))) && ((v1.toNat : Int) != 35))
def g_ref26_Word_l2 (a0 : List UInt8) (k290 : Option Bool) : Nat → Int → Option Bool
 | 0, _ => none
 | m2 + 1, x2 =>
  bif decide (x2 < (a0.length : Int)) then
   bO (idx a0 x2) fun v3 =>
   bif (decide ((v3.toNat : Int) < 33)) || (decide ((v3.toNat : Int) > 126)) then
    some false
   else
    (g_ref26_Word_l2 a0 k290 m2) (w64 (x2 + 1))
  else
   k290
def g_ref26_Word (a0 : List UInt8) : Option Bool :=
 g_ref26_Word_l2 a0 (g_ref26_Word_k1 a0) FUEL 0
theorem g_ref26_Word_w {a0 : List UInt8} {r : Bool} (h : g_ref26_Word a0 = some r) : PCall Tryz.prog 15 [.str a0] (zB r) := by
 refine PCall.body Tryz.func15 rfl rfl rfl rfl fun base => ?_
 unfold g_ref26_Word at h
 refine CWp.seq (CWp.region ?_)
 refine rn 1 rfl (COps.done [0] [] rfl ?_)
 refine CWp.mid (fun e => e = ⟨[(0, [], .str a0)], [], [], [], base⟩ ∧ g_ref26_Word_k1 a0 = some r) ?_ ?_
 ·refine CWp.seq (CWp.region ?_)
  refine rn 1 rfl (COps.done [0, 3] [] rfl ?_)
  refine CWp.block ?_
  refine CWp.loop (fun m2 e => ∃ x2, e = ⟨[(0, [], .str a0), (3, [], zI x2)], [], [], [], base⟩ ∧ g_ref26_Word_l2 a0 (g_ref26_Word_k1 a0) m2 x2 = some r) FUEL ⟨_, rfl, h⟩ ?_ ?_
  ·rintro m2 _ ⟨x2, rfl, h⟩
   rw [g_ref26_Word_l2] at h
   refine CWp.seq (CWp.seq (CWp.region ?_))
   refine rn 4 rfl (COps.done [0, 3, 7] [] rfl ?_)
   refine CWp.cond h rfl (fun h => ?_) (fun h => ?_)
   ·refine CWp.skip ?_
    refine CWp.seq (CWp.block ?_)
    refine CWp.seq (CWp.region ?_)
    obtain ⟨v3, hv3, h⟩ := bI h
    refine rn 2 rfl ?_
    refine rd (rBy hv3) ?_
    refine rn 4 rfl ?_
    refine rdg 14 false [] (fun ht => rBy hv3) ?_
    refine rn 2 rfl (COps.done [0, 3, 19] [] rfl ?_)
    refine CWp.cond h rfl (fun h => ?_) (fun h => ?_)
    ·refine CWp.seq (CWp.region ?_)
     refine rn 1 rfl (COps.done [2] [] rfl ?_)
     refine CWp.ret ?_
     cases h
     exact ⟨.inl rfl, rfl, rfl⟩
    ·refine CWp.skip ?_
     refine CWp.region ?_
     refine rn 3 rfl (COps.done [0, 3] [] rfl ?_)
     exact ⟨_, rfl, h⟩
   ·refine CWp.keep [0] [] rfl ?_
    refine CWp.exit ?_
    exact ⟨rfl, h⟩
  ·rintro _ ⟨_, _, h⟩
   rw [g_ref26_Word_l2] at h; cases h
 ·rintro _ ⟨rfl, h⟩
  unfold g_ref26_Word_k1 at h
  refine CWp.seq (CWp.region ?_)
  obtain ⟨v1, hv1, h⟩ := bI h
  refine rn 10 rfl ?_
  refine rdg 28 true [] (fun ht => rBy (gd hv1 (ht.1 _ rfl))) ?_
  refine rn 3 rfl (COps.done [2] [] rfl ?_)
  refine CWp.ret ?_
  cases h
  exact ⟨.inl rfl, rfl, rfl⟩
end Go.Proofs.YtgphopeclplahaaGreatDoor
