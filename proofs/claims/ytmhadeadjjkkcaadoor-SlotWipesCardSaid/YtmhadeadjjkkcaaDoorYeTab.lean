/- A part of the proof of statements of this seat: lemmas, no statement of their own. -/
import Derived.Test.YtmhadeadjjkkcaaDoorQArr
import Derived.Test.YtmhadeadjjkkcaaDoorQStr
import Derived.Test.YtmhadeadjjkkcaaDoorProg
set_option maxRecDepth 100000
namespace Go.Q.Ye
structure S_runtime_boundsError where
  f_x : Int
  f_y : Int
  f_signed : Bool
  f_code : Int
def S_runtime_boundsError.cs (x : S_runtime_boundsError) : List Value := [.int .i64 x.f_x, .int .i64 x.f_y, .bool x.f_signed, .int .u8 x.f_code]

structure S_runtime_errorAddressString where
  f_msg : ByteArray
  f_addr : Int
def S_runtime_errorAddressString.cs (x : S_runtime_errorAddressString) : List Value := [.string x.f_msg, .int .u64 x.f_addr]

structure S_internal_runtime_maps_unhashableTypeError where
  f_typ : Option Addr
def S_internal_runtime_maps_unhashableTypeError.cs (x : S_internal_runtime_maps_unhashableTypeError) : List Value := [.pointer x.f_typ]

structure S_disk_Disk where
  f_now : Option Nat
  f_safe : Option Nat
  f_fuse : Int
  f_dead : Bool
  f_ops : Int
def S_disk_Disk.cs (x : S_disk_Disk) : List Value := [.map x.f_now, .map x.f_safe, .int .i64 x.f_fuse, .bool x.f_dead, .int .i64 x.f_ops]

structure S_slot_Pair where
  f_d : Option Addr
  f_from : Int
  f_k : Int
def S_slot_Pair.cs (x : S_slot_Pair) : List Value := [.pointer x.f_d, .int .i64 x.f_from, .int .i64 x.f_k]

structure S_disk_sector where
  f_b : List Int
  f_torn : Bool
def S_disk_sector.cs (x : S_disk_sector) : List Value := (arr 128 .u8 x.f_b) ++ [.bool x.f_torn]

structure S_slot_head where
  f_n : Int
  f_part : Int
  f_parts : Int
  f_size : Int
  f_sum : Int
def S_slot_head.cs (x : S_slot_head) : List Value := [.int .u64 x.f_n, .int .i64 x.f_part, .int .i64 x.f_parts, .int .i64 x.f_size, .int .u64 x.f_sum]

structure S_runtime_TypeAssertionError where
  f__interface : Option Addr
  f_concrete : Option Addr
  f_asserted : Option Addr
  f_missingMethod : ByteArray
def S_runtime_TypeAssertionError.cs (x : S_runtime_TypeAssertionError) : List Value := [.pointer x.f__interface, .pointer x.f_concrete, .pointer x.f_asserted, .string x.f_missingMethod]

structure S_runtime_PanicNilError where
  f__ : List Value
def S_runtime_PanicNilError.cs (x : S_runtime_PanicNilError) : List Value := (x.f__)

structure S_internal_abi_Type where
  f_Size_ : Int
  f_PtrBytes : Int
  f_Hash : Int
  f_TFlag : Int
  f_Align_ : Int
  f_FieldAlign_ : Int
  f_Kind_ : Int
  f_Equal : Value
  f_GCData : Option Addr
  f_Str : Int
  f_PtrToThis : Int
def S_internal_abi_Type.cs (x : S_internal_abi_Type) : List Value := [.int .u64 x.f_Size_, .int .u64 x.f_PtrBytes, .int .u32 x.f_Hash, .int .u8 x.f_TFlag, .int .u8 x.f_Align_, .int .u8 x.f_FieldAlign_, .int .u8 x.f_Kind_, x.f_Equal, .pointer x.f_GCData, .int .i32 x.f_Str, .int .i32 x.f_PtrToThis]
def tab : Tab := [
  (1, ⟨.func, 1, 8, [.nilFunc]⟩),
  (2, ⟨.int .i64, 1, 8, [.int .i64 0]⟩),
  (3, ⟨.int .i64, 1, 8, [.int .i64 0]⟩),
  (4, ⟨.bool, 1, 1, [.bool false]⟩),
  (5, ⟨.int .u8, 1, 1, [.int .u8 0]⟩),
  (6, ⟨.int .u8, 1, 1, [.int .u8 0]⟩),
  (7, ⟨.struct [(2, 0), (3, 1), (4, 2), (6, 3)], 4, 24, [.int .i64 0, .int .i64 0, .bool false, .int .u8 0]⟩),
  (8, ⟨.struct [(2, 0), (3, 1), (4, 2), (6, 3)], 4, 24, [.int .i64 0, .int .i64 0, .bool false, .int .u8 0]⟩),
  (9, ⟨.string, 1, 16, [.string ByteArray.empty]⟩),
  (10, ⟨.string, 1, 16, [.string ByteArray.empty]⟩),
  (11, ⟨.string, 1, 16, [.string ByteArray.empty]⟩),
  (12, ⟨.int .u64, 1, 8, [.int .u64 0]⟩),
  (13, ⟨.struct [(9, 0), (12, 1)], 2, 24, [.string ByteArray.empty, .int .u64 0]⟩),
  (14, ⟨.struct [(9, 0), (12, 1)], 2, 24, [.string ByteArray.empty, .int .u64 0]⟩),
  (15, ⟨.pointer 124, 1, 8, [.pointer none]⟩),
  (16, ⟨.pointer 127, 1, 8, [.pointer none]⟩),
  (17, ⟨.pointer 136, 1, 8, [.pointer none]⟩),
  (18, ⟨.struct [(17, 0)], 1, 8, [.pointer none]⟩),
  (19, ⟨.struct [(17, 0)], 1, 8, [.pointer none]⟩),
  (20, ⟨.iface, 1, 16, [.nilIface]⟩),
  (21, ⟨.int .i32, 1, 4, [.int .i32 0]⟩),
  (22, ⟨.slice 23, 1, 24, [.slice none 0 0]⟩),
  (23, ⟨.slice 5, 1, 24, [.slice none 0 0]⟩),
  (24, ⟨.func, 1, 8, [.nilFunc]⟩),
  (25, ⟨.pointer 48, 1, 8, [.pointer none]⟩),
  (26, ⟨.func, 1, 8, [.nilFunc]⟩),
  (27, ⟨.pointer 50, 1, 8, [.pointer none]⟩),
  (28, ⟨.int .i64, 1, 8, [.int .i64 0]⟩),
  (30, ⟨.func, 1, 8, [.nilFunc]⟩),
  (31, ⟨.func, 1, 8, [.nilFunc]⟩),
  (32, ⟨.int .u64, 1, 8, [.int .u64 0]⟩),
  (34, ⟨.func, 1, 8, [.nilFunc]⟩),
  (35, ⟨.func, 1, 8, [.nilFunc]⟩),
  (37, ⟨.func, 1, 8, [.nilFunc]⟩),
  (38, ⟨.func, 1, 8, [.nilFunc]⟩),
  (39, ⟨.func, 1, 8, [.nilFunc]⟩),
  (40, ⟨.func, 1, 8, [.nilFunc]⟩),
  (42, ⟨.func, 1, 8, [.nilFunc]⟩),
  (43, ⟨.func, 1, 8, [.nilFunc]⟩),
  (44, ⟨.func, 1, 8, [.nilFunc]⟩),
  (45, ⟨.func, 1, 8, [.nilFunc]⟩),
  (46, ⟨.map 3 59, 1, 8, [.map none]⟩),
  (47, ⟨.struct [(46, 0), (46, 1), (3, 2), (4, 3), (3, 4)], 5, 40, [.map none, .map none, .int .i64 0, .bool false, .int .i64 0]⟩),
  (48, ⟨.struct [(46, 0), (46, 1), (3, 2), (4, 3), (3, 4)], 5, 40, [.map none, .map none, .int .i64 0, .bool false, .int .i64 0]⟩),
  (49, ⟨.struct [(25, 0), (3, 1), (3, 2)], 3, 24, [.pointer none, .int .i64 0, .int .i64 0]⟩),
  (50, ⟨.struct [(25, 0), (3, 1), (3, 2)], 3, 24, [.pointer none, .int .i64 0, .int .i64 0]⟩),
  (51, ⟨.func, 1, 8, [.nilFunc]⟩),
  (52, ⟨.slice 3, 1, 24, [.slice none 0 0]⟩),
  (53, ⟨.func, 1, 8, [.nilFunc]⟩),
  (54, ⟨.func, 1, 8, [.nilFunc]⟩),
  (55, ⟨.func, 1, 8, [.nilFunc]⟩),
  (56, ⟨.func, 1, 8, [.nilFunc]⟩),
  (57, ⟨.array 128 5, 128, 128, List.replicate 128 (.int .u8 0)⟩),
  (58, ⟨.struct [(57, 0), (4, 128)], 129, 129, [.int .u8 0, .int .u8 0, .int .u8 0, .int .u8 0, .int .u8 0, .int .u8 0, .int .u8 0, .int .u8 0, .int .u8 0, .int .u8 0, .int .u8 0, .int .u8 0, .int .u8 0, .int .u8 0, .int .u8 0, .int .u8 0, .int .u8 0, .int .u8 0, .int .u8 0, .int .u8 0, .int .u8 0, .int .u8 0, .int .u8 0, .int .u8 0, .int .u8 0, .int .u8 0, .int .u8 0, .int .u8 0, .int .u8 0, .int .u8 0, .int .u8 0, .int .u8 0, .int .u8 0, .int .u8 0, .int .u8 0, .int .u8 0, .int .u8 0, .int .u8 0, .int .u8 0, .int .u8 0, .int .u8 0, .int .u8 0, .int .u8 0, .int .u8 0, .int .u8 0, .int .u8 0, .int .u8 0, .int .u8 0, .int .u8 0, .int .u8 0, .int .u8 0, .int .u8 0, .int .u8 0, .int .u8 0, .int .u8 0, .int .u8 0, .int .u8 0, .int .u8 0, .int .u8 0, .int .u8 0, .int .u8 0, .int .u8 0, .int .u8 0, .int .u8 0, .int .u8 0, .int .u8 0, .int .u8 0, .int .u8 0, .int .u8 0, .int .u8 0, .int .u8 0, .int .u8 0, .int .u8 0, .int .u8 0, .int .u8 0, .int .u8 0, .int .u8 0, .int .u8 0, .int .u8 0, .int .u8 0, .int .u8 0, .int .u8 0, .int .u8 0, .int .u8 0, .int .u8 0, .int .u8 0, .int .u8 0, .int .u8 0, .int .u8 0, .int .u8 0, .int .u8 0, .int .u8 0, .int .u8 0, .int .u8 0, .int .u8 0, .int .u8 0, .int .u8 0, .int .u8 0, .int .u8 0, .int .u8 0, .int .u8 0, .int .u8 0, .int .u8 0, .int .u8 0, .int .u8 0, .int .u8 0, .int .u8 0, .int .u8 0, .int .u8 0, .int .u8 0, .int .u8 0, .int .u8 0, .int .u8 0, .int .u8 0, .int .u8 0, .int .u8 0, .int .u8 0, .int .u8 0, .int .u8 0, .int .u8 0, .int .u8 0, .int .u8 0, .int .u8 0, .int .u8 0, .int .u8 0, .int .u8 0, .int .u8 0, .int .u8 0, .bool false]⟩),
  (59, ⟨.struct [(57, 0), (4, 128)], 129, 129, [.int .u8 0, .int .u8 0, .int .u8 0, .int .u8 0, .int .u8 0, .int .u8 0, .int .u8 0, .int .u8 0, .int .u8 0, .int .u8 0, .int .u8 0, .int .u8 0, .int .u8 0, .int .u8 0, .int .u8 0, .int .u8 0, .int .u8 0, .int .u8 0, .int .u8 0, .int .u8 0, .int .u8 0, .int .u8 0, .int .u8 0, .int .u8 0, .int .u8 0, .int .u8 0, .int .u8 0, .int .u8 0, .int .u8 0, .int .u8 0, .int .u8 0, .int .u8 0, .int .u8 0, .int .u8 0, .int .u8 0, .int .u8 0, .int .u8 0, .int .u8 0, .int .u8 0, .int .u8 0, .int .u8 0, .int .u8 0, .int .u8 0, .int .u8 0, .int .u8 0, .int .u8 0, .int .u8 0, .int .u8 0, .int .u8 0, .int .u8 0, .int .u8 0, .int .u8 0, .int .u8 0, .int .u8 0, .int .u8 0, .int .u8 0, .int .u8 0, .int .u8 0, .int .u8 0, .int .u8 0, .int .u8 0, .int .u8 0, .int .u8 0, .int .u8 0, .int .u8 0, .int .u8 0, .int .u8 0, .int .u8 0, .int .u8 0, .int .u8 0, .int .u8 0, .int .u8 0, .int .u8 0, .int .u8 0, .int .u8 0, .int .u8 0, .int .u8 0, .int .u8 0, .int .u8 0, .int .u8 0, .int .u8 0, .int .u8 0, .int .u8 0, .int .u8 0, .int .u8 0, .int .u8 0, .int .u8 0, .int .u8 0, .int .u8 0, .int .u8 0, .int .u8 0, .int .u8 0, .int .u8 0, .int .u8 0, .int .u8 0, .int .u8 0, .int .u8 0, .int .u8 0, .int .u8 0, .int .u8 0, .int .u8 0, .int .u8 0, .int .u8 0, .int .u8 0, .int .u8 0, .int .u8 0, .int .u8 0, .int .u8 0, .int .u8 0, .int .u8 0, .int .u8 0, .int .u8 0, .int .u8 0, .int .u8 0, .int .u8 0, .int .u8 0, .int .u8 0, .int .u8 0, .int .u8 0, .int .u8 0, .int .u8 0, .int .u8 0, .int .u8 0, .int .u8 0, .int .u8 0, .int .u8 0, .int .u8 0, .int .u8 0, .bool false]⟩),
  (61, ⟨.func, 1, 8, [.nilFunc]⟩),
  (62, ⟨.array 32 5, 32, 32, List.replicate 32 (.int .u8 0)⟩),
  (63, ⟨.array 32 5, 32, 32, List.replicate 32 (.int .u8 0)⟩),
  (64, ⟨.func, 1, 8, [.nilFunc]⟩),
  (65, ⟨.func, 1, 8, [.nilFunc]⟩),
  (67, ⟨.func, 1, 8, [.nilFunc]⟩),
  (68, ⟨.func, 1, 8, [.nilFunc]⟩),
  (69, ⟨.func, 1, 8, [.nilFunc]⟩),
  (70, ⟨.func, 1, 8, [.nilFunc]⟩),
  (71, ⟨.func, 1, 8, [.nilFunc]⟩),
  (72, ⟨.struct [(32, 0), (3, 1), (3, 2), (3, 3), (32, 4)], 5, 40, [.int .u64 0, .int .i64 0, .int .i64 0, .int .i64 0, .int .u64 0]⟩),
  (73, ⟨.struct [(32, 0), (3, 1), (3, 2), (3, 3), (32, 4)], 5, 40, [.int .u64 0, .int .i64 0, .int .i64 0, .int .i64 0, .int .u64 0]⟩),
  (74, ⟨.func, 1, 8, [.nilFunc]⟩),
  (75, ⟨.func, 1, 8, [.nilFunc]⟩),
  (76, ⟨.func, 1, 8, [.nilFunc]⟩),
  (77, ⟨.func, 1, 8, [.nilFunc]⟩),
  (78, ⟨.func, 1, 8, [.nilFunc]⟩),
  (79, ⟨.func, 1, 8, [.nilFunc]⟩),
  (80, ⟨.func, 1, 8, [.nilFunc]⟩),
  (82, ⟨.func, 1, 8, [.nilFunc]⟩),
  (83, ⟨.int .u32, 1, 4, [.int .u32 0]⟩),
  (84, ⟨.slice 83, 1, 24, [.slice none 0 0]⟩),
  (85, ⟨.func, 1, 8, [.nilFunc]⟩),
  (86, ⟨.func, 1, 8, [.nilFunc]⟩),
  (87, ⟨.func, 1, 8, [.nilFunc]⟩),
  (88, ⟨.func, 1, 8, [.nilFunc]⟩),
  (89, ⟨.func, 1, 8, [.nilFunc]⟩),
  (90, ⟨.int .u64, 1, 8, [.int .u64 0]⟩),
  (91, ⟨.array 8 83, 8, 32, [.int .u32 0, .int .u32 0, .int .u32 0, .int .u32 0, .int .u32 0, .int .u32 0, .int .u32 0, .int .u32 0]⟩),
  (92, ⟨.array 8 83, 8, 32, [.int .u32 0, .int .u32 0, .int .u32 0, .int .u32 0, .int .u32 0, .int .u32 0, .int .u32 0, .int .u32 0]⟩),
  (93, ⟨.func, 1, 8, [.nilFunc]⟩),
  (94, ⟨.func, 1, 8, [.nilFunc]⟩),
  (95, ⟨.func, 1, 8, [.nilFunc]⟩),
  (96, ⟨.func, 1, 8, [.nilFunc]⟩),
  (97, ⟨.func, 1, 8, [.nilFunc]⟩),
  (98, ⟨.func, 1, 8, [.nilFunc]⟩),
  (99, ⟨.func, 1, 8, [.nilFunc]⟩),
  (100, ⟨.func, 1, 8, [.nilFunc]⟩),
  (101, ⟨.array 64 83, 64, 256, List.replicate 64 (.int .u32 0)⟩),
  (102, ⟨.func, 1, 8, [.nilFunc]⟩),
  (103, ⟨.func, 1, 8, [.nilFunc]⟩),
  (104, ⟨.func, 1, 8, [.nilFunc]⟩),
  (105, ⟨.int .i64, 1, 8, [.int .i64 0]⟩),
  (107, ⟨.func, 1, 8, [.nilFunc]⟩),
  (108, ⟨.func, 1, 8, [.nilFunc]⟩),
  (109, ⟨.func, 1, 8, [.nilFunc]⟩),
  (111, ⟨.func, 1, 8, [.nilFunc]⟩),
  (112, ⟨.func, 1, 8, [.nilFunc]⟩),
  (113, ⟨.func, 1, 8, [.nilFunc]⟩),
  (114, ⟨.int .u64, 1, 8, [.int .u64 0]⟩),
  (115, ⟨.func, 1, 8, [.nilFunc]⟩),
  (116, ⟨.func, 1, 8, [.nilFunc]⟩),
  (117, ⟨.pointer 3, 1, 8, [.pointer none]⟩),
  (118, ⟨.func, 1, 8, [.nilFunc]⟩),
  (119, ⟨.pointer 114, 1, 8, [.pointer none]⟩),
  (121, ⟨.func, 1, 8, [.nilFunc]⟩),
  (122, ⟨.func, 1, 8, [.nilFunc]⟩),
  (123, ⟨.struct [(17, 0), (17, 1), (17, 2), (9, 3)], 4, 40, [.pointer none, .pointer none, .pointer none, .string ByteArray.empty]⟩),
  (124, ⟨.struct [(17, 0), (17, 1), (17, 2), (9, 3)], 4, 40, [.pointer none, .pointer none, .pointer none, .string ByteArray.empty]⟩),
  (125, ⟨.array 0 16, 0, 0, []⟩),
  (126, ⟨.struct [(125, 0)], 0, 0, []⟩),
  (127, ⟨.struct [(125, 0)], 0, 0, []⟩),
  (128, ⟨.func, 1, 8, [.nilFunc]⟩),
  (129, ⟨.int .u8, 1, 1, [.int .u8 0]⟩),
  (130, ⟨.int .u8, 1, 1, [.int .u8 0]⟩),
  (131, ⟨.func, 1, 8, [.nilFunc]⟩),
  (132, ⟨.pointer 5, 1, 8, [.pointer none]⟩),
  (133, ⟨.int .i32, 1, 4, [.int .i32 0]⟩),
  (134, ⟨.int .i32, 1, 4, [.int .i32 0]⟩),
  (135, ⟨.struct [(12, 0), (12, 1), (83, 2), (129, 3), (5, 4), (5, 5), (130, 6), (131, 7), (132, 8), (133, 9), (134, 10)], 11, 48, [.int .u64 0, .int .u64 0, .int .u32 0, .int .u8 0, .int .u8 0, .int .u8 0, .int .u8 0, .nilFunc, .pointer none, .int .i32 0, .int .i32 0]⟩),
  (136, ⟨.struct [(12, 0), (12, 1), (83, 2), (129, 3), (5, 4), (5, 5), (130, 6), (131, 7), (132, 8), (133, 9), (134, 10)], 11, 48, [.int .u64 0, .int .u64 0, .int .u32 0, .int .u8 0, .int .u8 0, .int .u8 0, .int .u8 0, .nilFunc, .pointer none, .int .i32 0, .int .i32 0]⟩)]
theorem tok : TOk Go.Proofs.Tryd.prog tab := TOk_of (by kernel_rfl)
end Go.Q.Ye
