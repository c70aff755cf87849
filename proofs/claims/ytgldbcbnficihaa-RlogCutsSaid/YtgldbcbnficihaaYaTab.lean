/- A part of the proof of statements of this seat: lemmas, no statement of their own. -/
import Derived.Test.YtgldbcbnficihaaQArr
import Derived.Test.YtgldbcbnficihaaProg
set_option maxRecDepth 100000
namespace Go.Q.Ya
structure S_runtime_boundsError where
  f_x : Int
  f_y : Int
  f_signed : Bool
  f_code : Int
def S_runtime_boundsError.cs (x : S_runtime_boundsError) : List Value := [.int .i64 x.f_x, .int .i64 x.f_y, .bool x.f_signed, .int .u8 x.f_code]

structure S_runtime_errorAddressString where
  f_msg : ByteArray
  f_addr : Int
def S_runtime_errorAddressString.cs (x : S_runtime_errorAddressString) : List Value := [.string x.f_msg, .int .u64 x.f_addr]

structure S_internal_runtime_maps_unhashableTypeError where
  f_typ : Option Addr
def S_internal_runtime_maps_unhashableTypeError.cs (x : S_internal_runtime_maps_unhashableTypeError) : List Value := [.pointer x.f_typ]

structure S_quaestorref12_Lease where
  f_Node : Int
  f_Next : Int
  f_Bound : Int
def S_quaestorref12_Lease.cs (x : S_quaestorref12_Lease) : List Value := [.int .u16 x.f_Node, .int .u64 x.f_Next, .int .u64 x.f_Bound]

structure S_api_Entry where
  f_Term : Int
  f_Cmd : Slc
def S_api_Entry.cs (x : S_api_Entry) : List Value := [.int .u64 x.f_Term, Slc.v x.f_Cmd]

structure S_quaestorlaw23_Act where
  f_Kind : Int
  f_Index : Int
  f_Term : Int
  f_L : Slc
def S_quaestorlaw23_Act.cs (x : S_quaestorlaw23_Act) : List Value := [.int .i64 x.f_Kind, .int .u64 x.f_Index, .int .u64 x.f_Term, Slc.v x.f_L]

structure S_quaestorref23_Log where
  f_Index : Int
  f_Term : Int
  f_L : Slc
def S_quaestorref23_Log.cs (x : S_quaestorref23_Log) : List Value := [.int .u64 x.f_Index, .int .u64 x.f_Term, Slc.v x.f_L]

structure S_lease_Lease where
  f_node : Int
  f_next : Int
  f_bound : Int
def S_lease_Lease.cs (x : S_lease_Lease) : List Value := [.int .u16 x.f_node, .int .u64 x.f_next, .int .u64 x.f_bound]

structure S_rlog_Log where
  f_index : Int
  f_term : Int
  f_l : Slc
def S_rlog_Log.cs (x : S_rlog_Log) : List Value := [.int .u64 x.f_index, .int .u64 x.f_term, Slc.v x.f_l]

structure S_runtime_TypeAssertionError where
  f__interface : Option Addr
  f_concrete : Option Addr
  f_asserted : Option Addr
  f_missingMethod : ByteArray
def S_runtime_TypeAssertionError.cs (x : S_runtime_TypeAssertionError) : List Value := [.pointer x.f__interface, .pointer x.f_concrete, .pointer x.f_asserted, .string x.f_missingMethod]

structure S_runtime_PanicNilError where
  f__ : List Value
def S_runtime_PanicNilError.cs (x : S_runtime_PanicNilError) : List Value := (x.f__)

structure S_internal_abi_Type where
  f_Size_ : Int
  f_PtrBytes : Int
  f_Hash : Int
  f_TFlag : Int
  f_Align_ : Int
  f_FieldAlign_ : Int
  f_Kind_ : Int
  f_Equal : Value
  f_GCData : Option Addr
  f_Str : Int
  f_PtrToThis : Int
def S_internal_abi_Type.cs (x : S_internal_abi_Type) : List Value := [.int .u64 x.f_Size_, .int .u64 x.f_PtrBytes, .int .u32 x.f_Hash, .int .u8 x.f_TFlag, .int .u8 x.f_Align_, .int .u8 x.f_FieldAlign_, .int .u8 x.f_Kind_, x.f_Equal, .pointer x.f_GCData, .int .i32 x.f_Str, .int .i32 x.f_PtrToThis]
def tab : Tab := [
  (1, ⟨.func, 1, 8, [.nilFunc]⟩),
  (2, ⟨.int .i64, 1, 8, [.int .i64 0]⟩),
  (3, ⟨.int .i64, 1, 8, [.int .i64 0]⟩),
  (4, ⟨.bool, 1, 1, [.bool false]⟩),
  (5, ⟨.int .u8, 1, 1, [.int .u8 0]⟩),
  (6, ⟨.int .u8, 1, 1, [.int .u8 0]⟩),
  (7, ⟨.struct [(2, 0), (3, 1), (4, 2), (6, 3)], 4, 24, [.int .i64 0, .int .i64 0, .bool false, .int .u8 0]⟩),
  (8, ⟨.struct [(2, 0), (3, 1), (4, 2), (6, 3)], 4, 24, [.int .i64 0, .int .i64 0, .bool false, .int .u8 0]⟩),
  (9, ⟨.string, 1, 16, [.string ByteArray.empty]⟩),
  (10, ⟨.string, 1, 16, [.string ByteArray.empty]⟩),
  (11, ⟨.string, 1, 16, [.string ByteArray.empty]⟩),
  (12, ⟨.int .u64, 1, 8, [.int .u64 0]⟩),
  (13, ⟨.struct [(9, 0), (12, 1)], 2, 24, [.string ByteArray.empty, .int .u64 0]⟩),
  (14, ⟨.struct [(9, 0), (12, 1)], 2, 24, [.string ByteArray.empty, .int .u64 0]⟩),
  (15, ⟨.pointer 96, 1, 8, [.pointer none]⟩),
  (16, ⟨.pointer 99, 1, 8, [.pointer none]⟩),
  (17, ⟨.pointer 109, 1, 8, [.pointer none]⟩),
  (18, ⟨.struct [(17, 0)], 1, 8, [.pointer none]⟩),
  (19, ⟨.struct [(17, 0)], 1, 8, [.pointer none]⟩),
  (20, ⟨.iface, 1, 16, [.nilIface]⟩),
  (21, ⟨.int .i32, 1, 4, [.int .i32 0]⟩),
  (22, ⟨.int .u16, 1, 2, [.int .u16 0]⟩),
  (23, ⟨.int .u64, 1, 8, [.int .u64 0]⟩),
  (24, ⟨.slice 5, 1, 24, [.slice none 0 0]⟩),
  (25, ⟨.func, 1, 8, [.nilFunc]⟩),
  (26, ⟨.slice 23, 1, 24, [.slice none 0 0]⟩),
  (27, ⟨.pointer 83, 1, 8, [.pointer none]⟩),
  (28, ⟨.func, 1, 8, [.nilFunc]⟩),
  (29, ⟨.int .i64, 1, 8, [.int .i64 0]⟩),
  (31, ⟨.func, 1, 8, [.nilFunc]⟩),
  (32, ⟨.func, 1, 8, [.nilFunc]⟩),
  (33, ⟨.func, 1, 8, [.nilFunc]⟩),
  (34, ⟨.func, 1, 8, [.nilFunc]⟩),
  (35, ⟨.pointer 49, 1, 8, [.pointer none]⟩),
  (36, ⟨.func, 1, 8, [.nilFunc]⟩),
  (38, ⟨.func, 1, 8, [.nilFunc]⟩),
  (39, ⟨.array 12 5, 12, 12, [.int .u8 0, .int .u8 0, .int .u8 0, .int .u8 0, .int .u8 0, .int .u8 0, .int .u8 0, .int .u8 0, .int .u8 0, .int .u8 0, .int .u8 0, .int .u8 0]⟩),
  (40, ⟨.array 12 5, 12, 12, [.int .u8 0, .int .u8 0, .int .u8 0, .int .u8 0, .int .u8 0, .int .u8 0, .int .u8 0, .int .u8 0, .int .u8 0, .int .u8 0, .int .u8 0, .int .u8 0]⟩),
  (42, ⟨.func, 1, 8, [.nilFunc]⟩),
  (44, ⟨.func, 1, 8, [.nilFunc]⟩),
  (45, ⟨.func, 1, 8, [.nilFunc]⟩),
  (46, ⟨.func, 1, 8, [.nilFunc]⟩),
  (47, ⟨.func, 1, 8, [.nilFunc]⟩),
  (48, ⟨.struct [(22, 0), (23, 1), (23, 2)], 3, 24, [.int .u16 0, .int .u64 0, .int .u64 0]⟩),
  (49, ⟨.struct [(22, 0), (23, 1), (23, 2)], 3, 24, [.int .u16 0, .int .u64 0, .int .u64 0]⟩),
  (50, ⟨.func, 1, 8, [.nilFunc]⟩),
  (51, ⟨.func, 1, 8, [.nilFunc]⟩),
  (52, ⟨.slice 64, 1, 24, [.slice none 0 0]⟩),
  (53, ⟨.func, 1, 8, [.nilFunc]⟩),
  (54, ⟨.pointer 88, 1, 8, [.pointer none]⟩),
  (55, ⟨.func, 1, 8, [.nilFunc]⟩),
  (56, ⟨.func, 1, 8, [.nilFunc]⟩),
  (57, ⟨.func, 1, 8, [.nilFunc]⟩),
  (58, ⟨.func, 1, 8, [.nilFunc]⟩),
  (59, ⟨.func, 1, 8, [.nilFunc]⟩),
  (60, ⟨.slice 22, 1, 24, [.slice none 0 0]⟩),
  (61, ⟨.slice 52, 1, 24, [.slice none 0 0]⟩),
  (62, ⟨.func, 1, 8, [.nilFunc]⟩),
  (63, ⟨.struct [(23, 0), (24, 1)], 2, 32, [.int .u64 0, .slice none 0 0]⟩),
  (64, ⟨.struct [(23, 0), (24, 1)], 2, 32, [.int .u64 0, .slice none 0 0]⟩),
  (65, ⟨.slice 54, 1, 24, [.slice none 0 0]⟩),
  (66, ⟨.func, 1, 8, [.nilFunc]⟩),
  (67, ⟨.func, 1, 8, [.nilFunc]⟩),
  (68, ⟨.slice 70, 1, 24, [.slice none 0 0]⟩),
  (69, ⟨.struct [(3, 0), (23, 1), (23, 2), (52, 3)], 4, 48, [.int .i64 0, .int .u64 0, .int .u64 0, .slice none 0 0]⟩),
  (70, ⟨.struct [(3, 0), (23, 1), (23, 2), (52, 3)], 4, 48, [.int .i64 0, .int .u64 0, .int .u64 0, .slice none 0 0]⟩),
  (71, ⟨.pointer 73, 1, 8, [.pointer none]⟩),
  (72, ⟨.struct [(23, 0), (23, 1), (52, 2)], 3, 40, [.int .u64 0, .int .u64 0, .slice none 0 0]⟩),
  (73, ⟨.struct [(23, 0), (23, 1), (52, 2)], 3, 40, [.int .u64 0, .int .u64 0, .slice none 0 0]⟩),
  (74, ⟨.func, 1, 8, [.nilFunc]⟩),
  (76, ⟨.func, 1, 8, [.nilFunc]⟩),
  (78, ⟨.func, 1, 8, [.nilFunc]⟩),
  (80, ⟨.func, 1, 8, [.nilFunc]⟩),
  (81, ⟨.func, 1, 8, [.nilFunc]⟩),
  (82, ⟨.struct [(22, 0), (23, 1), (23, 2)], 3, 24, [.int .u16 0, .int .u64 0, .int .u64 0]⟩),
  (83, ⟨.struct [(22, 0), (23, 1), (23, 2)], 3, 24, [.int .u16 0, .int .u64 0, .int .u64 0]⟩),
  (84, ⟨.func, 1, 8, [.nilFunc]⟩),
  (85, ⟨.func, 1, 8, [.nilFunc]⟩),
  (86, ⟨.func, 1, 8, [.nilFunc]⟩),
  (87, ⟨.struct [(23, 0), (23, 1), (52, 2)], 3, 40, [.int .u64 0, .int .u64 0, .slice none 0 0]⟩),
  (88, ⟨.struct [(23, 0), (23, 1), (52, 2)], 3, 40, [.int .u64 0, .int .u64 0, .slice none 0 0]⟩),
  (89, ⟨.func, 1, 8, [.nilFunc]⟩),
  (90, ⟨.func, 1, 8, [.nilFunc]⟩),
  (91, ⟨.func, 1, 8, [.nilFunc]⟩),
  (92, ⟨.func, 1, 8, [.nilFunc]⟩),
  (93, ⟨.int .u64, 1, 8, [.int .u64 0]⟩),
  (94, ⟨.func, 1, 8, [.nilFunc]⟩),
  (95, ⟨.struct [(17, 0), (17, 1), (17, 2), (9, 3)], 4, 40, [.pointer none, .pointer none, .pointer none, .string ByteArray.empty]⟩),
  (96, ⟨.struct [(17, 0), (17, 1), (17, 2), (9, 3)], 4, 40, [.pointer none, .pointer none, .pointer none, .string ByteArray.empty]⟩),
  (97, ⟨.array 0 16, 0, 0, []⟩),
  (98, ⟨.struct [(97, 0)], 0, 0, []⟩),
  (99, ⟨.struct [(97, 0)], 0, 0, []⟩),
  (100, ⟨.func, 1, 8, [.nilFunc]⟩),
  (101, ⟨.int .u32, 1, 4, [.int .u32 0]⟩),
  (102, ⟨.int .u8, 1, 1, [.int .u8 0]⟩),
  (103, ⟨.int .u8, 1, 1, [.int .u8 0]⟩),
  (104, ⟨.func, 1, 8, [.nilFunc]⟩),
  (105, ⟨.pointer 5, 1, 8, [.pointer none]⟩),
  (106, ⟨.int .i32, 1, 4, [.int .i32 0]⟩),
  (107, ⟨.int .i32, 1, 4, [.int .i32 0]⟩),
  (108, ⟨.struct [(12, 0), (12, 1), (101, 2), (102, 3), (5, 4), (5, 5), (103, 6), (104, 7), (105, 8), (106, 9), (107, 10)], 11, 48, [.int .u64 0, .int .u64 0, .int .u32 0, .int .u8 0, .int .u8 0, .int .u8 0, .int .u8 0, .nilFunc, .pointer none, .int .i32 0, .int .i32 0]⟩),
  (109, ⟨.struct [(12, 0), (12, 1), (101, 2), (102, 3), (5, 4), (5, 5), (103, 6), (104, 7), (105, 8), (106, 9), (107, 10)], 11, 48, [.int .u64 0, .int .u64 0, .int .u32 0, .int .u8 0, .int .u8 0, .int .u8 0, .int .u8 0, .nilFunc, .pointer none, .int .i32 0, .int .i32 0]⟩)]
theorem tok : TOk Go.Proofs.Try.prog tab := TOk_of (by kernel_rfl)
end Go.Q.Ya
