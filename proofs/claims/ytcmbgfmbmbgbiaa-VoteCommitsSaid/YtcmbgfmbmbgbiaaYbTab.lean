/- A part of the proof of statements of this seat: lemmas, no statement of their own. -/
import Derived.Test.YtcmbgfmbmbgbiaaQArr
import Derived.Test.YtcmbgfmbmbgbiaaQStr
import Derived.Test.YtcmbgfmbmbgbiaaProg
set_option maxRecDepth 100000
namespace Go.Q.Yb
structure S_runtime_boundsError where
  f_x : Int
  f_y : Int
  f_signed : Bool
  f_code : Int
def S_runtime_boundsError.cs (x : S_runtime_boundsError) : List Value := [.int .i64 x.f_x, .int .i64 x.f_y, .bool x.f_signed, .int .u8 x.f_code]

structure S_runtime_errorAddressString where
  f_msg : ByteArray
  f_addr : Int
def S_runtime_errorAddressString.cs (x : S_runtime_errorAddressString) : List Value := [.string x.f_msg, .int .u64 x.f_addr]

structure S_internal_runtime_maps_unhashableTypeError where
  f_typ : Option Addr
def S_internal_runtime_maps_unhashableTypeError.cs (x : S_internal_runtime_maps_unhashableTypeError) : List Value := [.pointer x.f_typ]

structure S_api_Query where
  f_Select : ByteArray
  f_From : Int
  f_To : Int
  f_Agg : Int
  f_Step : Int
def S_api_Query.cs (x : S_api_Query) : List Value := [.string x.f_Select, .int .i64 x.f_From, .int .i64 x.f_To, .int .i64 x.f_Agg, .int .i64 x.f_Step]

structure S_api_Command where
  f_Kind : Int
  f_Tenant : ByteArray
  f_Epoch : Int
  f_Nonce : List Int
  f_Wrapped : Slc
  f_Horizon : Int
def S_api_Command.cs (x : S_api_Command) : List Value := [.int .i64 x.f_Kind, .string x.f_Tenant, .int .u32 x.f_Epoch] ++ (arr 12 .u8 x.f_Nonce) ++ [Slc.v x.f_Wrapped, .int .i64 x.f_Horizon]

structure S_api_Share where
  f_X : Int
  f_Y : List Int
def S_api_Share.cs (x : S_api_Share) : List Value := [.int .u8 x.f_X] ++ (arr 32 .u8 x.f_Y)

structure S_api_Msg where
  f_Kind : Int
  f_Term : Int
  f_Index : Int
  f_LogTerm : Int
  f_Commit : Int
  f_Yes : Bool
  f_Entries : Slc
  f_Snap : Slc
def S_api_Msg.cs (x : S_api_Msg) : List Value := [.int .i64 x.f_Kind, .int .u64 x.f_Term, .int .u64 x.f_Index, .int .u64 x.f_LogTerm, .int .u64 x.f_Commit, .bool x.f_Yes, Slc.v x.f_Entries, Slc.v x.f_Snap]

structure S_api_Note where
  f_Kind : Int
  f_Op : Int
  f_Boot : Int
  f_E : Int
  f_Tenant : ByteArray
  f_Pieces : Slc
  f_Q : S_api_Query
  f_Cmd : S_api_Command
  f_Index : Int
  f_Ids : Slc
  f_Share : S_api_Share
  f_M : S_api_Msg
def S_api_Note.cs (x : S_api_Note) : List Value := [.int .i64 x.f_Kind, .int .u64 x.f_Op, .int .u64 x.f_Boot, .int .i64 x.f_E, .string x.f_Tenant, Slc.v x.f_Pieces] ++ (S_api_Query.cs x.f_Q) ++ (S_api_Command.cs x.f_Cmd) ++ [.int .u64 x.f_Index, Slc.v x.f_Ids] ++ (S_api_Share.cs x.f_Share) ++ (S_api_Msg.cs x.f_M)

structure S_api_Id where
  f_N : Int
  f_Node : Int
def S_api_Id.cs (x : S_api_Id) : List Value := [.int .u64 x.f_N, .int .u16 x.f_Node]

structure S_api_Piece where
  f_Series : ByteArray
  f_T : Int
  f_V : Int
  f_Id : S_api_Id
def S_api_Piece.cs (x : S_api_Piece) : List Value := [.string x.f_Series, .int .i64 x.f_T, .int .i64 x.f_V] ++ (S_api_Id.cs x.f_Id)

structure S_api_Selector where
  f_Name : ByteArray
  f_L : Slc
def S_api_Selector.cs (x : S_api_Selector) : List Value := [.string x.f_Name, Slc.v x.f_L]

structure S_api_Series where
  f_Name : ByteArray
  f_Labels : Slc
def S_api_Series.cs (x : S_api_Series) : List Value := [.string x.f_Name, Slc.v x.f_Labels]

structure S_quaestorlaw09_Act where
  f_Kind : Int
  f_At : Int
  f_B : Slc
def S_quaestorlaw09_Act.cs (x : S_quaestorlaw09_Act) : List Value := [.int .i64 x.f_Kind, .int .i64 x.f_At, Slc.v x.f_B]

structure S_quaestorref09_Disk where
  f_L : Slc
  f_Fuse : Int
  f_Dead : Bool
  f_Ops : Int
def S_quaestorref09_Disk.cs (x : S_quaestorref09_Disk) : List Value := [Slc.v x.f_L, .int .i64 x.f_Fuse, .bool x.f_Dead, .int .i64 x.f_Ops]

structure S_quaestorref09_Place where
  f_At : Int
  f_Now : Slc
  f_Was : Slc
  f_Torn : Bool
  f_Old : Bool
  f_Open : Bool
def S_quaestorref09_Place.cs (x : S_quaestorref09_Place) : List Value := [.int .i64 x.f_At, Slc.v x.f_Now, Slc.v x.f_Was, .bool x.f_Torn, .bool x.f_Old, .bool x.f_Open]

structure S_api_Tenant where
  f_Name : ByteArray
  f_Keys : Slc
  f_Horizon : Int
  f_Shredded : Bool
def S_api_Tenant.cs (x : S_api_Tenant) : List Value := [.string x.f_Name, Slc.v x.f_Keys, .int .i64 x.f_Horizon, .bool x.f_Shredded]

structure S_api_Wrapped where
  f_Epoch : Int
  f_Nonce : List Int
  f_B : Slc
def S_api_Wrapped.cs (x : S_api_Wrapped) : List Value := [.int .u32 x.f_Epoch] ++ (arr 12 .u8 x.f_Nonce) ++ [Slc.v x.f_B]

structure S_quaestorref25_Reg where
  f_L : Slc
def S_quaestorref25_Reg.cs (x : S_quaestorref25_Reg) : List Value := [Slc.v x.f_L]

structure S_reg_reader where
  f_b : Slc
  f_bad : Bool
def S_reg_reader.cs (x : S_reg_reader) : List Value := [Slc.v x.f_b, .bool x.f_bad]

structure S_api_Label where
  f_Name : ByteArray
  f_Value : ByteArray
def S_api_Label.cs (x : S_api_Label) : List Value := [.string x.f_Name, .string x.f_Value]

structure S_api_Question where
  f_Name : ByteArray
  f_Sign : Int
  f_Value : ByteArray
def S_api_Question.cs (x : S_api_Question) : List Value := [.string x.f_Name, .int .i64 x.f_Sign, .string x.f_Value]

structure S_pack_reader where
  f_b : Slc
  f_bad : Bool
def S_pack_reader.cs (x : S_pack_reader) : List Value := [Slc.v x.f_b, .bool x.f_bad]

structure S_vote_Ballot where
  f_n : Int
  f_yes : Int
def S_vote_Ballot.cs (x : S_vote_Ballot) : List Value := [.int .i64 x.f_n, .int .u64 x.f_yes]

structure S_disk_Disk where
  f_now : Option Nat
  f_safe : Option Nat
  f_fuse : Int
  f_dead : Bool
  f_ops : Int
def S_disk_Disk.cs (x : S_disk_Disk) : List Value := [.map x.f_now, .map x.f_safe, .int .i64 x.f_fuse, .bool x.f_dead, .int .i64 x.f_ops]

structure S_disk_sector where
  f_b : List Int
  f_torn : Bool
def S_disk_sector.cs (x : S_disk_sector) : List Value := (arr 128 .u8 x.f_b) ++ [.bool x.f_torn]

structure S_reg_Reg where
  f_in : Option Nat
def S_reg_Reg.cs (x : S_reg_Reg) : List Value := [.map x.f_in]

structure S_raft_reader where
  f_b : Slc
  f_bad : Bool
def S_raft_reader.cs (x : S_raft_reader) : List Value := [Slc.v x.f_b, .bool x.f_bad]

structure S_api_Entry where
  f_Term : Int
  f_Cmd : Slc
def S_api_Entry.cs (x : S_api_Entry) : List Value := [.int .u64 x.f_Term, Slc.v x.f_Cmd]

structure S_strings_Builder where
  f_addr : Option Addr
  f_buf : Slc
def S_strings_Builder.cs (x : S_strings_Builder) : List Value := [.pointer x.f_addr, Slc.v x.f_buf]

structure S_runtime_TypeAssertionError where
  f__interface : Option Addr
  f_concrete : Option Addr
  f_asserted : Option Addr
  f_missingMethod : ByteArray
def S_runtime_TypeAssertionError.cs (x : S_runtime_TypeAssertionError) : List Value := [.pointer x.f__interface, .pointer x.f_concrete, .pointer x.f_asserted, .string x.f_missingMethod]

structure S_runtime_PanicNilError where
  f__ : List Value
def S_runtime_PanicNilError.cs (x : S_runtime_PanicNilError) : List Value := (x.f__)

structure S_internal_abi_Type where
  f_Size_ : Int
  f_PtrBytes : Int
  f_Hash : Int
  f_TFlag : Int
  f_Align_ : Int
  f_FieldAlign_ : Int
  f_Kind_ : Int
  f_Equal : Value
  f_GCData : Option Addr
  f_Str : Int
  f_PtrToThis : Int
def S_internal_abi_Type.cs (x : S_internal_abi_Type) : List Value := [.int .u64 x.f_Size_, .int .u64 x.f_PtrBytes, .int .u32 x.f_Hash, .int .u8 x.f_TFlag, .int .u8 x.f_Align_, .int .u8 x.f_FieldAlign_, .int .u8 x.f_Kind_, x.f_Equal, .pointer x.f_GCData, .int .i32 x.f_Str, .int .i32 x.f_PtrToThis]
def tab : Tab := [
  (1, ⟨.func, 1, 8, [.nilFunc]⟩),
  (2, ⟨.int .i64, 1, 8, [.int .i64 0]⟩),
  (3, ⟨.int .i64, 1, 8, [.int .i64 0]⟩),
  (4, ⟨.bool, 1, 1, [.bool false]⟩),
  (5, ⟨.int .u8, 1, 1, [.int .u8 0]⟩),
  (6, ⟨.int .u8, 1, 1, [.int .u8 0]⟩),
  (7, ⟨.struct [(2, 0), (3, 1), (4, 2), (6, 3)], 4, 24, [.int .i64 0, .int .i64 0, .bool false, .int .u8 0]⟩),
  (8, ⟨.struct [(2, 0), (3, 1), (4, 2), (6, 3)], 4, 24, [.int .i64 0, .int .i64 0, .bool false, .int .u8 0]⟩),
  (9, ⟨.string, 1, 16, [.string ByteArray.empty]⟩),
  (10, ⟨.string, 1, 16, [.string ByteArray.empty]⟩),
  (11, ⟨.string, 1, 16, [.string ByteArray.empty]⟩),
  (12, ⟨.int .u64, 1, 8, [.int .u64 0]⟩),
  (13, ⟨.struct [(9, 0), (12, 1)], 2, 24, [.string ByteArray.empty, .int .u64 0]⟩),
  (14, ⟨.struct [(9, 0), (12, 1)], 2, 24, [.string ByteArray.empty, .int .u64 0]⟩),
  (15, ⟨.pointer 327, 1, 8, [.pointer none]⟩),
  (16, ⟨.pointer 330, 1, 8, [.pointer none]⟩),
  (17, ⟨.pointer 337, 1, 8, [.pointer none]⟩),
  (18, ⟨.struct [(17, 0)], 1, 8, [.pointer none]⟩),
  (19, ⟨.struct [(17, 0)], 1, 8, [.pointer none]⟩),
  (20, ⟨.iface, 1, 16, [.nilIface]⟩),
  (21, ⟨.int .i32, 1, 4, [.int .i32 0]⟩),
  (22, ⟨.int .u64, 1, 8, [.int .u64 0]⟩),
  (23, ⟨.int .i64, 1, 8, [.int .i64 0]⟩),
  (24, ⟨.slice 50, 1, 24, [.slice none 0 0]⟩),
  (25, ⟨.struct [(9, 0), (2, 1), (2, 2), (3, 3), (2, 4)], 5, 48, [.string ByteArray.empty, .int .i64 0, .int .i64 0, .int .i64 0, .int .i64 0]⟩),
  (26, ⟨.struct [(9, 0), (2, 1), (2, 2), (3, 3), (2, 4)], 5, 48, [.string ByteArray.empty, .int .i64 0, .int .i64 0, .int .i64 0, .int .i64 0]⟩),
  (27, ⟨.int .u32, 1, 4, [.int .u32 0]⟩),
  (28, ⟨.array 12 5, 12, 12, [.int .u8 0, .int .u8 0, .int .u8 0, .int .u8 0, .int .u8 0, .int .u8 0, .int .u8 0, .int .u8 0, .int .u8 0, .int .u8 0, .int .u8 0, .int .u8 0]⟩),
  (29, ⟨.array 12 5, 12, 12, [.int .u8 0, .int .u8 0, .int .u8 0, .int .u8 0, .int .u8 0, .int .u8 0, .int .u8 0, .int .u8 0, .int .u8 0, .int .u8 0, .int .u8 0, .int .u8 0]⟩),
  (30, ⟨.slice 5, 1, 24, [.slice none 0 0]⟩),
  (31, ⟨.struct [(3, 0), (9, 1), (27, 2), (29, 3), (30, 15), (2, 16)], 17, 72, [.int .i64 0, .string ByteArray.empty, .int .u32 0, .int .u8 0, .int .u8 0, .int .u8 0, .int .u8 0, .int .u8 0, .int .u8 0, .int .u8 0, .int .u8 0, .int .u8 0, .int .u8 0, .int .u8 0, .int .u8 0, .slice none 0 0, .int .i64 0]⟩),
  (32, ⟨.struct [(3, 0), (9, 1), (27, 2), (29, 3), (30, 15), (2, 16)], 17, 72, [.int .i64 0, .string ByteArray.empty, .int .u32 0, .int .u8 0, .int .u8 0, .int .u8 0, .int .u8 0, .int .u8 0, .int .u8 0, .int .u8 0, .int .u8 0, .int .u8 0, .int .u8 0, .int .u8 0, .int .u8 0, .slice none 0 0, .int .i64 0]⟩),
  (33, ⟨.slice 48, 1, 24, [.slice none 0 0]⟩),
  (34, ⟨.array 32 5, 32, 32, List.replicate 32 (.int .u8 0)⟩),
  (35, ⟨.array 32 5, 32, 32, List.replicate 32 (.int .u8 0)⟩),
  (36, ⟨.struct [(5, 0), (35, 1)], 33, 33, List.replicate 33 (.int .u8 0)⟩),
  (37, ⟨.struct [(5, 0), (35, 1)], 33, 33, List.replicate 33 (.int .u8 0)⟩),
  (38, ⟨.slice 254, 1, 24, [.slice none 0 0]⟩),
  (39, ⟨.struct [(3, 0), (22, 1), (22, 2), (22, 3), (22, 4), (4, 5), (38, 6), (30, 7)], 8, 96, [.int .i64 0, .int .u64 0, .int .u64 0, .int .u64 0, .int .u64 0, .bool false, .slice none 0 0, .slice none 0 0]⟩),
  (40, ⟨.struct [(3, 0), (22, 1), (22, 2), (22, 3), (22, 4), (4, 5), (38, 6), (30, 7)], 8, 96, [.int .i64 0, .int .u64 0, .int .u64 0, .int .u64 0, .int .u64 0, .bool false, .slice none 0 0, .slice none 0 0]⟩),
  (41, ⟨.struct [(3, 0), (22, 1), (22, 2), (23, 3), (9, 4), (24, 5), (26, 6), (32, 11), (22, 28), (33, 29), (37, 30), (40, 63)], 71, 360, [.int .i64 0, .int .u64 0, .int .u64 0, .int .i64 0, .string ByteArray.empty, .slice none 0 0, .string ByteArray.empty, .int .i64 0, .int .i64 0, .int .i64 0, .int .i64 0, .int .i64 0, .string ByteArray.empty, .int .u32 0, .int .u8 0, .int .u8 0, .int .u8 0, .int .u8 0, .int .u8 0, .int .u8 0, .int .u8 0, .int .u8 0, .int .u8 0, .int .u8 0, .int .u8 0, .int .u8 0, .slice none 0 0, .int .i64 0, .int .u64 0, .slice none 0 0, .int .u8 0, .int .u8 0, .int .u8 0, .int .u8 0, .int .u8 0, .int .u8 0, .int .u8 0, .int .u8 0, .int .u8 0, .int .u8 0, .int .u8 0, .int .u8 0, .int .u8 0, .int .u8 0, .int .u8 0, .int .u8 0, .int .u8 0, .int .u8 0, .int .u8 0, .int .u8 0, .int .u8 0, .int .u8 0, .int .u8 0, .int .u8 0, .int .u8 0, .int .u8 0, .int .u8 0, .int .u8 0, .int .u8 0, .int .u8 0, .int .u8 0, .int .u8 0, .int .u8 0, .int .i64 0, .int .u64 0, .int .u64 0, .int .u64 0, .int .u64 0, .bool false, .slice none 0 0, .slice none 0 0]⟩),
  (42, ⟨.struct [(3, 0), (22, 1), (22, 2), (23, 3), (9, 4), (24, 5), (26, 6), (32, 11), (22, 28), (33, 29), (37, 30), (40, 63)], 71, 360, [.int .i64 0, .int .u64 0, .int .u64 0, .int .i64 0, .string ByteArray.empty, .slice none 0 0, .string ByteArray.empty, .int .i64 0, .int .i64 0, .int .i64 0, .int .i64 0, .int .i64 0, .string ByteArray.empty, .int .u32 0, .int .u8 0, .int .u8 0, .int .u8 0, .int .u8 0, .int .u8 0, .int .u8 0, .int .u8 0, .int .u8 0, .int .u8 0, .int .u8 0, .int .u8 0, .int .u8 0, .slice none 0 0, .int .i64 0, .int .u64 0, .slice none 0 0, .int .u8 0, .int .u8 0, .int .u8 0, .int .u8 0, .int .u8 0, .int .u8 0, .int .u8 0, .int .u8 0, .int .u8 0, .int .u8 0, .int .u8 0, .int .u8 0, .int .u8 0, .int .u8 0, .int .u8 0, .int .u8 0, .int .u8 0, .int .u8 0, .int .u8 0, .int .u8 0, .int .u8 0, .int .u8 0, .int .u8 0, .int .u8 0, .int .u8 0, .int .u8 0, .int .u8 0, .int .u8 0, .int .u8 0, .int .u8 0, .int .u8 0, .int .u8 0, .int .u8 0, .int .i64 0, .int .u64 0, .int .u64 0, .int .u64 0, .int .u64 0, .bool false, .slice none 0 0, .slice none 0 0]⟩),
  (43, ⟨.slice 2, 1, 24, [.slice none 0 0]⟩),
  (44, ⟨.func, 1, 8, [.nilFunc]⟩),
  (45, ⟨.func, 1, 8, [.nilFunc]⟩),
  (46, ⟨.int .u16, 1, 2, [.int .u16 0]⟩),
  (47, ⟨.struct [(22, 0), (46, 1)], 2, 16, [.int .u64 0, .int .u16 0]⟩),
  (48, ⟨.struct [(22, 0), (46, 1)], 2, 16, [.int .u64 0, .int .u16 0]⟩),
  (49, ⟨.struct [(9, 0), (2, 1), (2, 2), (48, 3)], 5, 48, [.string ByteArray.empty, .int .i64 0, .int .i64 0, .int .u64 0, .int .u16 0]⟩),
  (50, ⟨.struct [(9, 0), (2, 1), (2, 2), (48, 3)], 5, 48, [.string ByteArray.empty, .int .i64 0, .int .i64 0, .int .u64 0, .int .u16 0]⟩),
  (51, ⟨.func, 1, 8, [.nilFunc]⟩),
  (52, ⟨.func, 1, 8, [.nilFunc]⟩),
  (53, ⟨.func, 1, 8, [.nilFunc]⟩),
  (54, ⟨.func, 1, 8, [.nilFunc]⟩),
  (55, ⟨.slice 32, 1, 24, [.slice none 0 0]⟩),
  (56, ⟨.func, 1, 8, [.nilFunc]⟩),
  (58, ⟨.func, 1, 8, [.nilFunc]⟩),
  (59, ⟨.func, 1, 8, [.nilFunc]⟩),
  (60, ⟨.func, 1, 8, [.nilFunc]⟩),
  (61, ⟨.slice 165, 1, 24, [.slice none 0 0]⟩),
  (62, ⟨.struct [(9, 0), (61, 1)], 2, 40, [.string ByteArray.empty, .slice none 0 0]⟩),
  (63, ⟨.struct [(9, 0), (61, 1)], 2, 40, [.string ByteArray.empty, .slice none 0 0]⟩),
  (64, ⟨.slice 163, 1, 24, [.slice none 0 0]⟩),
  (65, ⟨.struct [(9, 0), (64, 1)], 2, 40, [.string ByteArray.empty, .slice none 0 0]⟩),
  (66, ⟨.struct [(9, 0), (64, 1)], 2, 40, [.string ByteArray.empty, .slice none 0 0]⟩),
  (67, ⟨.func, 1, 8, [.nilFunc]⟩),
  (68, ⟨.func, 1, 8, [.nilFunc]⟩),
  (69, ⟨.func, 1, 8, [.nilFunc]⟩),
  (71, ⟨.func, 1, 8, [.nilFunc]⟩),
  (72, ⟨.func, 1, 8, [.nilFunc]⟩),
  (73, ⟨.func, 1, 8, [.nilFunc]⟩),
  (74, ⟨.func, 1, 8, [.nilFunc]⟩),
  (75, ⟨.func, 1, 8, [.nilFunc]⟩),
  (76, ⟨.func, 1, 8, [.nilFunc]⟩),
  (77, ⟨.func, 1, 8, [.nilFunc]⟩),
  (78, ⟨.func, 1, 8, [.nilFunc]⟩),
  (80, ⟨.func, 1, 8, [.nilFunc]⟩),
  (81, ⟨.func, 1, 8, [.nilFunc]⟩),
  (82, ⟨.slice 22, 1, 24, [.slice none 0 0]⟩),
  (83, ⟨.func, 1, 8, [.nilFunc]⟩),
  (84, ⟨.func, 1, 8, [.nilFunc]⟩),
  (85, ⟨.slice 3, 1, 24, [.slice none 0 0]⟩),
  (86, ⟨.pointer 192, 1, 8, [.pointer none]⟩),
  (87, ⟨.func, 1, 8, [.nilFunc]⟩),
  (88, ⟨.func, 1, 8, [.nilFunc]⟩),
  (89, ⟨.func, 1, 8, [.nilFunc]⟩),
  (90, ⟨.func, 1, 8, [.nilFunc]⟩),
  (91, ⟨.func, 1, 8, [.nilFunc]⟩),
  (92, ⟨.func, 1, 8, [.nilFunc]⟩),
  (93, ⟨.slice 100, 1, 24, [.slice none 0 0]⟩),
  (94, ⟨.func, 1, 8, [.nilFunc]⟩),
  (95, ⟨.pointer 197, 1, 8, [.pointer none]⟩),
  (96, ⟨.func, 1, 8, [.nilFunc]⟩),
  (97, ⟨.func, 1, 8, [.nilFunc]⟩),
  (98, ⟨.func, 1, 8, [.nilFunc]⟩),
  (99, ⟨.struct [(3, 0), (3, 1), (30, 2)], 3, 40, [.int .i64 0, .int .i64 0, .slice none 0 0]⟩),
  (100, ⟨.struct [(3, 0), (3, 1), (30, 2)], 3, 40, [.int .i64 0, .int .i64 0, .slice none 0 0]⟩),
  (101, ⟨.func, 1, 8, [.nilFunc]⟩),
  (102, ⟨.pointer 105, 1, 8, [.pointer none]⟩),
  (103, ⟨.slice 115, 1, 24, [.slice none 0 0]⟩),
  (104, ⟨.struct [(103, 0), (3, 1), (4, 2), (3, 3)], 4, 48, [.slice none 0 0, .int .i64 0, .bool false, .int .i64 0]⟩),
  (105, ⟨.struct [(103, 0), (3, 1), (4, 2), (3, 3)], 4, 48, [.slice none 0 0, .int .i64 0, .bool false, .int .i64 0]⟩),
  (106, ⟨.func, 1, 8, [.nilFunc]⟩),
  (108, ⟨.func, 1, 8, [.nilFunc]⟩),
  (109, ⟨.func, 1, 8, [.nilFunc]⟩),
  (110, ⟨.func, 1, 8, [.nilFunc]⟩),
  (111, ⟨.func, 1, 8, [.nilFunc]⟩),
  (113, ⟨.func, 1, 8, [.nilFunc]⟩),
  (114, ⟨.struct [(3, 0), (30, 1), (30, 2), (4, 3), (4, 4), (4, 5)], 6, 64, [.int .i64 0, .slice none 0 0, .slice none 0 0, .bool false, .bool false, .bool false]⟩),
  (115, ⟨.struct [(3, 0), (30, 1), (30, 2), (4, 3), (4, 4), (4, 5)], 6, 64, [.int .i64 0, .slice none 0 0, .slice none 0 0, .bool false, .bool false, .bool false]⟩),
  (116, ⟨.func, 1, 8, [.nilFunc]⟩),
  (117, ⟨.func, 1, 8, [.nilFunc]⟩),
  (118, ⟨.func, 1, 8, [.nilFunc]⟩),
  (119, ⟨.func, 1, 8, [.nilFunc]⟩),
  (120, ⟨.func, 1, 8, [.nilFunc]⟩),
  (121, ⟨.pointer 212, 1, 8, [.pointer none]⟩),
  (122, ⟨.func, 1, 8, [.nilFunc]⟩),
  (123, ⟨.func, 1, 8, [.nilFunc]⟩),
  (124, ⟨.slice 130, 1, 24, [.slice none 0 0]⟩),
  (125, ⟨.func, 1, 8, [.nilFunc]⟩),
  (126, ⟨.func, 1, 8, [.nilFunc]⟩),
  (127, ⟨.func, 1, 8, [.nilFunc]⟩),
  (128, ⟨.slice 132, 1, 24, [.slice none 0 0]⟩),
  (129, ⟨.struct [(9, 0), (128, 1), (2, 2), (4, 3)], 4, 56, [.string ByteArray.empty, .slice none 0 0, .int .i64 0, .bool false]⟩),
  (130, ⟨.struct [(9, 0), (128, 1), (2, 2), (4, 3)], 4, 56, [.string ByteArray.empty, .slice none 0 0, .int .i64 0, .bool false]⟩),
  (131, ⟨.struct [(27, 0), (29, 1), (30, 13)], 14, 40, [.int .u32 0, .int .u8 0, .int .u8 0, .int .u8 0, .int .u8 0, .int .u8 0, .int .u8 0, .int .u8 0, .int .u8 0, .int .u8 0, .int .u8 0, .int .u8 0, .int .u8 0, .slice none 0 0]⟩),
  (132, ⟨.struct [(27, 0), (29, 1), (30, 13)], 14, 40, [.int .u32 0, .int .u8 0, .int .u8 0, .int .u8 0, .int .u8 0, .int .u8 0, .int .u8 0, .int .u8 0, .int .u8 0, .int .u8 0, .int .u8 0, .int .u8 0, .int .u8 0, .slice none 0 0]⟩),
  (134, ⟨.func, 1, 8, [.nilFunc]⟩),
  (135, ⟨.func, 1, 8, [.nilFunc]⟩),
  (136, ⟨.func, 1, 8, [.nilFunc]⟩),
  (137, ⟨.pointer 139, 1, 8, [.pointer none]⟩),
  (138, ⟨.struct [(124, 0)], 1, 24, [.slice none 0 0]⟩),
  (139, ⟨.struct [(124, 0)], 1, 24, [.slice none 0 0]⟩),
  (140, ⟨.func, 1, 8, [.nilFunc]⟩),
  (142, ⟨.func, 1, 8, [.nilFunc]⟩),
  (143, ⟨.func, 1, 8, [.nilFunc]⟩),
  (144, ⟨.func, 1, 8, [.nilFunc]⟩),
  (145, ⟨.func, 1, 8, [.nilFunc]⟩),
  (146, ⟨.func, 1, 8, [.nilFunc]⟩),
  (147, ⟨.func, 1, 8, [.nilFunc]⟩),
  (148, ⟨.func, 1, 8, [.nilFunc]⟩),
  (149, ⟨.func, 1, 8, [.nilFunc]⟩),
  (150, ⟨.func, 1, 8, [.nilFunc]⟩),
  (151, ⟨.func, 1, 8, [.nilFunc]⟩),
  (152, ⟨.func, 1, 8, [.nilFunc]⟩),
  (153, ⟨.pointer 155, 1, 8, [.pointer none]⟩),
  (154, ⟨.struct [(30, 0), (4, 1)], 2, 32, [.slice none 0 0, .bool false]⟩),
  (155, ⟨.struct [(30, 0), (4, 1)], 2, 32, [.slice none 0 0, .bool false]⟩),
  (156, ⟨.func, 1, 8, [.nilFunc]⟩),
  (157, ⟨.func, 1, 8, [.nilFunc]⟩),
  (158, ⟨.func, 1, 8, [.nilFunc]⟩),
  (159, ⟨.func, 1, 8, [.nilFunc]⟩),
  (160, ⟨.func, 1, 8, [.nilFunc]⟩),
  (161, ⟨.func, 1, 8, [.nilFunc]⟩),
  (162, ⟨.struct [(9, 0), (9, 1)], 2, 32, [.string ByteArray.empty, .string ByteArray.empty]⟩),
  (163, ⟨.struct [(9, 0), (9, 1)], 2, 32, [.string ByteArray.empty, .string ByteArray.empty]⟩),
  (164, ⟨.struct [(9, 0), (3, 1), (9, 2)], 3, 40, [.string ByteArray.empty, .int .i64 0, .string ByteArray.empty]⟩),
  (165, ⟨.struct [(9, 0), (3, 1), (9, 2)], 3, 40, [.string ByteArray.empty, .int .i64 0, .string ByteArray.empty]⟩),
  (167, ⟨.func, 1, 8, [.nilFunc]⟩),
  (168, ⟨.func, 1, 8, [.nilFunc]⟩),
  (169, ⟨.func, 1, 8, [.nilFunc]⟩),
  (170, ⟨.func, 1, 8, [.nilFunc]⟩),
  (171, ⟨.pointer 173, 1, 8, [.pointer none]⟩),
  (172, ⟨.struct [(30, 0), (4, 1)], 2, 32, [.slice none 0 0, .bool false]⟩),
  (173, ⟨.struct [(30, 0), (4, 1)], 2, 32, [.slice none 0 0, .bool false]⟩),
  (174, ⟨.func, 1, 8, [.nilFunc]⟩),
  (175, ⟨.func, 1, 8, [.nilFunc]⟩),
  (176, ⟨.func, 1, 8, [.nilFunc]⟩),
  (177, ⟨.func, 1, 8, [.nilFunc]⟩),
  (179, ⟨.func, 1, 8, [.nilFunc]⟩),
  (180, ⟨.func, 1, 8, [.nilFunc]⟩),
  (181, ⟨.func, 1, 8, [.nilFunc]⟩),
  (182, ⟨.func, 1, 8, [.nilFunc]⟩),
  (183, ⟨.func, 1, 8, [.nilFunc]⟩),
  (184, ⟨.slice 9, 1, 24, [.slice none 0 0]⟩),
  (185, ⟨.func, 1, 8, [.nilFunc]⟩),
  (186, ⟨.func, 1, 8, [.nilFunc]⟩),
  (187, ⟨.func, 1, 8, [.nilFunc]⟩),
  (188, ⟨.func, 1, 8, [.nilFunc]⟩),
  (189, ⟨.func, 1, 8, [.nilFunc]⟩),
  (190, ⟨.func, 1, 8, [.nilFunc]⟩),
  (191, ⟨.struct [(3, 0), (22, 1)], 2, 16, [.int .i64 0, .int .u64 0]⟩),
  (192, ⟨.struct [(3, 0), (22, 1)], 2, 16, [.int .i64 0, .int .u64 0]⟩),
  (193, ⟨.int .u64, 1, 8, [.int .u64 0]⟩),
  (194, ⟨.func, 1, 8, [.nilFunc]⟩),
  (195, ⟨.map 3 200, 1, 8, [.map none]⟩),
  (196, ⟨.struct [(195, 0), (195, 1), (3, 2), (4, 3), (3, 4)], 5, 40, [.map none, .map none, .int .i64 0, .bool false, .int .i64 0]⟩),
  (197, ⟨.struct [(195, 0), (195, 1), (3, 2), (4, 3), (3, 4)], 5, 40, [.map none, .map none, .int .i64 0, .bool false, .int .i64 0]⟩),
  (198, ⟨.array 128 5, 128, 128, List.replicate 128 (.int .u8 0)⟩),
  (199, ⟨.struct [(198, 0), (4, 128)], 129, 129, [.int .u8 0, .int .u8 0, .int .u8 0, .int .u8 0, .int .u8 0, .int .u8 0, .int .u8 0, .int .u8 0, .int .u8 0, .int .u8 0, .int .u8 0, .int .u8 0, .int .u8 0, .int .u8 0, .int .u8 0, .int .u8 0, .int .u8 0, .int .u8 0, .int .u8 0, .int .u8 0, .int .u8 0, .int .u8 0, .int .u8 0, .int .u8 0, .int .u8 0, .int .u8 0, .int .u8 0, .int .u8 0, .int .u8 0, .int .u8 0, .int .u8 0, .int .u8 0, .int .u8 0, .int .u8 0, .int .u8 0, .int .u8 0, .int .u8 0, .int .u8 0, .int .u8 0, .int .u8 0, .int .u8 0, .int .u8 0, .int .u8 0, .int .u8 0, .int .u8 0, .int .u8 0, .int .u8 0, .int .u8 0, .int .u8 0, .int .u8 0, .int .u8 0, .int .u8 0, .int .u8 0, .int .u8 0, .int .u8 0, .int .u8 0, .int .u8 0, .int .u8 0, .int .u8 0, .int .u8 0, .int .u8 0, .int .u8 0, .int .u8 0, .int .u8 0, .int .u8 0, .int .u8 0, .int .u8 0, .int .u8 0, .int .u8 0, .int .u8 0, .int .u8 0, .int .u8 0, .int .u8 0, .int .u8 0, .int .u8 0, .int .u8 0, .int .u8 0, .int .u8 0, .int .u8 0, .int .u8 0, .int .u8 0, .int .u8 0, .int .u8 0, .int .u8 0, .int .u8 0, .int .u8 0, .int .u8 0, .int .u8 0, .int .u8 0, .int .u8 0, .int .u8 0, .int .u8 0, .int .u8 0, .int .u8 0, .int .u8 0, .int .u8 0, .int .u8 0, .int .u8 0, .int .u8 0, .int .u8 0, .int .u8 0, .int .u8 0, .int .u8 0, .int .u8 0, .int .u8 0, .int .u8 0, .int .u8 0, .int .u8 0, .int .u8 0, .int .u8 0, .int .u8 0, .int .u8 0, .int .u8 0, .int .u8 0, .int .u8 0, .int .u8 0, .int .u8 0, .int .u8 0, .int .u8 0, .int .u8 0, .int .u8 0, .int .u8 0, .int .u8 0, .int .u8 0, .int .u8 0, .int .u8 0, .int .u8 0, .int .u8 0, .bool false]⟩),
  (200, ⟨.struct [(198, 0), (4, 128)], 129, 129, [.int .u8 0, .int .u8 0, .int .u8 0, .int .u8 0, .int .u8 0, .int .u8 0, .int .u8 0, .int .u8 0, .int .u8 0, .int .u8 0, .int .u8 0, .int .u8 0, .int .u8 0, .int .u8 0, .int .u8 0, .int .u8 0, .int .u8 0, .int .u8 0, .int .u8 0, .int .u8 0, .int .u8 0, .int .u8 0, .int .u8 0, .int .u8 0, .int .u8 0, .int .u8 0, .int .u8 0, .int .u8 0, .int .u8 0, .int .u8 0, .int .u8 0, .int .u8 0, .int .u8 0, .int .u8 0, .int .u8 0, .int .u8 0, .int .u8 0, .int .u8 0, .int .u8 0, .int .u8 0, .int .u8 0, .int .u8 0, .int .u8 0, .int .u8 0, .int .u8 0, .int .u8 0, .int .u8 0, .int .u8 0, .int .u8 0, .int .u8 0, .int .u8 0, .int .u8 0, .int .u8 0, .int .u8 0, .int .u8 0, .int .u8 0, .int .u8 0, .int .u8 0, .int .u8 0, .int .u8 0, .int .u8 0, .int .u8 0, .int .u8 0, .int .u8 0, .int .u8 0, .int .u8 0, .int .u8 0, .int .u8 0, .int .u8 0, .int .u8 0, .int .u8 0, .int .u8 0, .int .u8 0, .int .u8 0, .int .u8 0, .int .u8 0, .int .u8 0, .int .u8 0, .int .u8 0, .int .u8 0, .int .u8 0, .int .u8 0, .int .u8 0, .int .u8 0, .int .u8 0, .int .u8 0, .int .u8 0, .int .u8 0, .int .u8 0, .int .u8 0, .int .u8 0, .int .u8 0, .int .u8 0, .int .u8 0, .int .u8 0, .int .u8 0, .int .u8 0, .int .u8 0, .int .u8 0, .int .u8 0, .int .u8 0, .int .u8 0, .int .u8 0, .int .u8 0, .int .u8 0, .int .u8 0, .int .u8 0, .int .u8 0, .int .u8 0, .int .u8 0, .int .u8 0, .int .u8 0, .int .u8 0, .int .u8 0, .int .u8 0, .int .u8 0, .int .u8 0, .int .u8 0, .int .u8 0, .int .u8 0, .int .u8 0, .int .u8 0, .int .u8 0, .int .u8 0, .int .u8 0, .int .u8 0, .int .u8 0, .int .u8 0, .bool false]⟩),
  (202, ⟨.func, 1, 8, [.nilFunc]⟩),
  (203, ⟨.func, 1, 8, [.nilFunc]⟩),
  (204, ⟨.func, 1, 8, [.nilFunc]⟩),
  (205, ⟨.func, 1, 8, [.nilFunc]⟩),
  (206, ⟨.func, 1, 8, [.nilFunc]⟩),
  (207, ⟨.func, 1, 8, [.nilFunc]⟩),
  (208, ⟨.func, 1, 8, [.nilFunc]⟩),
  (209, ⟨.func, 1, 8, [.nilFunc]⟩),
  (210, ⟨.map 9 130, 1, 8, [.map none]⟩),
  (211, ⟨.struct [(210, 0)], 1, 8, [.map none]⟩),
  (212, ⟨.struct [(210, 0)], 1, 8, [.map none]⟩),
  (213, ⟨.func, 1, 8, [.nilFunc]⟩),
  (214, ⟨.func, 1, 8, [.nilFunc]⟩),
  (215, ⟨.func, 1, 8, [.nilFunc]⟩),
  (216, ⟨.func, 1, 8, [.nilFunc]⟩),
  (217, ⟨.func, 1, 8, [.nilFunc]⟩),
  (218, ⟨.func, 1, 8, [.nilFunc]⟩),
  (219, ⟨.func, 1, 8, [.nilFunc]⟩),
  (220, ⟨.func, 1, 8, [.nilFunc]⟩),
  (221, ⟨.func, 1, 8, [.nilFunc]⟩),
  (222, ⟨.func, 1, 8, [.nilFunc]⟩),
  (224, ⟨.func, 1, 8, [.nilFunc]⟩),
  (225, ⟨.func, 1, 8, [.nilFunc]⟩),
  (226, ⟨.func, 1, 8, [.nilFunc]⟩),
  (227, ⟨.func, 1, 8, [.nilFunc]⟩),
  (228, ⟨.func, 1, 8, [.nilFunc]⟩),
  (229, ⟨.func, 1, 8, [.nilFunc]⟩),
  (230, ⟨.func, 1, 8, [.nilFunc]⟩),
  (231, ⟨.func, 1, 8, [.nilFunc]⟩),
  (232, ⟨.func, 1, 8, [.nilFunc]⟩),
  (234, ⟨.func, 1, 8, [.nilFunc]⟩),
  (236, ⟨.func, 1, 8, [.nilFunc]⟩),
  (238, ⟨.func, 1, 8, [.nilFunc]⟩),
  (240, ⟨.func, 1, 8, [.nilFunc]⟩),
  (241, ⟨.func, 1, 8, [.nilFunc]⟩),
  (242, ⟨.func, 1, 8, [.nilFunc]⟩),
  (243, ⟨.func, 1, 8, [.nilFunc]⟩),
  (244, ⟨.func, 1, 8, [.nilFunc]⟩),
  (245, ⟨.func, 1, 8, [.nilFunc]⟩),
  (247, ⟨.func, 1, 8, [.nilFunc]⟩),
  (248, ⟨.func, 1, 8, [.nilFunc]⟩),
  (249, ⟨.pointer 251, 1, 8, [.pointer none]⟩),
  (250, ⟨.struct [(30, 0), (4, 1)], 2, 32, [.slice none 0 0, .bool false]⟩),
  (251, ⟨.struct [(30, 0), (4, 1)], 2, 32, [.slice none 0 0, .bool false]⟩),
  (252, ⟨.func, 1, 8, [.nilFunc]⟩),
  (253, ⟨.struct [(22, 0), (30, 1)], 2, 32, [.int .u64 0, .slice none 0 0]⟩),
  (254, ⟨.struct [(22, 0), (30, 1)], 2, 32, [.int .u64 0, .slice none 0 0]⟩),
  (255, ⟨.func, 1, 8, [.nilFunc]⟩),
  (256, ⟨.func, 1, 8, [.nilFunc]⟩),
  (257, ⟨.func, 1, 8, [.nilFunc]⟩),
  (258, ⟨.func, 1, 8, [.nilFunc]⟩),
  (259, ⟨.func, 1, 8, [.nilFunc]⟩),
  (260, ⟨.func, 1, 8, [.nilFunc]⟩),
  (261, ⟨.func, 1, 8, [.nilFunc]⟩),
  (262, ⟨.func, 1, 8, [.nilFunc]⟩),
  (263, ⟨.func, 1, 8, [.nilFunc]⟩),
  (264, ⟨.func, 1, 8, [.nilFunc]⟩),
  (265, ⟨.func, 1, 8, [.nilFunc]⟩),
  (266, ⟨.func, 1, 8, [.nilFunc]⟩),
  (267, ⟨.func, 1, 8, [.nilFunc]⟩),
  (268, ⟨.func, 1, 8, [.nilFunc]⟩),
  (269, ⟨.pointer 271, 1, 8, [.pointer none]⟩),
  (270, ⟨.struct [(269, 0), (30, 1)], 2, 32, [.pointer none, .slice none 0 0]⟩),
  (271, ⟨.struct [(269, 0), (30, 1)], 2, 32, [.pointer none, .slice none 0 0]⟩),
  (272, ⟨.func, 1, 8, [.nilFunc]⟩),
  (273, ⟨.iface, 1, 16, [.nilIface]⟩),
  (274, ⟨.iface, 1, 16, [.nilIface]⟩),
  (276, ⟨.func, 1, 8, [.nilFunc]⟩),
  (277, ⟨.func, 1, 8, [.nilFunc]⟩),
  (278, ⟨.func, 1, 8, [.nilFunc]⟩),
  (279, ⟨.func, 1, 8, [.nilFunc]⟩),
  (280, ⟨.func, 1, 8, [.nilFunc]⟩),
  (281, ⟨.func, 1, 8, [.nilFunc]⟩),
  (282, ⟨.func, 1, 8, [.nilFunc]⟩),
  (283, ⟨.func, 1, 8, [.nilFunc]⟩),
  (284, ⟨.func, 1, 8, [.nilFunc]⟩),
  (285, ⟨.pointer 5, 1, 8, [.pointer none]⟩),
  (286, ⟨.func, 1, 8, [.nilFunc]⟩),
  (287, ⟨.int .i64, 1, 8, [.int .i64 0]⟩),
  (289, ⟨.func, 1, 8, [.nilFunc]⟩),
  (290, ⟨.func, 1, 8, [.nilFunc]⟩),
  (291, ⟨.func, 1, 8, [.nilFunc]⟩),
  (292, ⟨.func, 1, 8, [.nilFunc]⟩),
  (294, ⟨.func, 1, 8, [.nilFunc]⟩),
  (295, ⟨.func, 1, 8, [.nilFunc]⟩),
  (296, ⟨.func, 1, 8, [.nilFunc]⟩),
  (297, ⟨.func, 1, 8, [.nilFunc]⟩),
  (298, ⟨.func, 1, 8, [.nilFunc]⟩),
  (299, ⟨.func, 1, 8, [.nilFunc]⟩),
  (300, ⟨.func, 1, 8, [.nilFunc]⟩),
  (301, ⟨.func, 1, 8, [.nilFunc]⟩),
  (302, ⟨.func, 1, 8, [.nilFunc]⟩),
  (303, ⟨.func, 1, 8, [.nilFunc]⟩),
  (304, ⟨.func, 1, 8, [.nilFunc]⟩),
  (305, ⟨.func, 1, 8, [.nilFunc]⟩),
  (306, ⟨.func, 1, 8, [.nilFunc]⟩),
  (308, ⟨.func, 1, 8, [.nilFunc]⟩),
  (309, ⟨.func, 1, 8, [.nilFunc]⟩),
  (310, ⟨.int .u64, 1, 8, [.int .u64 0]⟩),
  (311, ⟨.func, 1, 8, [.nilFunc]⟩),
  (312, ⟨.func, 1, 8, [.nilFunc]⟩),
  (313, ⟨.pointer 3, 1, 8, [.pointer none]⟩),
  (314, ⟨.func, 1, 8, [.nilFunc]⟩),
  (315, ⟨.func, 1, 8, [.nilFunc]⟩),
  (316, ⟨.func, 1, 8, [.nilFunc]⟩),
  (317, ⟨.func, 1, 8, [.nilFunc]⟩),
  (318, ⟨.func, 1, 8, [.nilFunc]⟩),
  (320, ⟨.func, 1, 8, [.nilFunc]⟩),
  (321, ⟨.pointer 310, 1, 8, [.pointer none]⟩),
  (323, ⟨.func, 1, 8, [.nilFunc]⟩),
  (324, ⟨.func, 1, 8, [.nilFunc]⟩),
  (325, ⟨.func, 1, 8, [.nilFunc]⟩),
  (326, ⟨.struct [(17, 0), (17, 1), (17, 2), (9, 3)], 4, 40, [.pointer none, .pointer none, .pointer none, .string ByteArray.empty]⟩),
  (327, ⟨.struct [(17, 0), (17, 1), (17, 2), (9, 3)], 4, 40, [.pointer none, .pointer none, .pointer none, .string ByteArray.empty]⟩),
  (328, ⟨.array 0 16, 0, 0, []⟩),
  (329, ⟨.struct [(328, 0)], 0, 0, []⟩),
  (330, ⟨.struct [(328, 0)], 0, 0, []⟩),
  (331, ⟨.int .u8, 1, 1, [.int .u8 0]⟩),
  (332, ⟨.int .u8, 1, 1, [.int .u8 0]⟩),
  (333, ⟨.func, 1, 8, [.nilFunc]⟩),
  (334, ⟨.int .i32, 1, 4, [.int .i32 0]⟩),
  (335, ⟨.int .i32, 1, 4, [.int .i32 0]⟩),
  (336, ⟨.struct [(12, 0), (12, 1), (27, 2), (331, 3), (5, 4), (5, 5), (332, 6), (333, 7), (285, 8), (334, 9), (335, 10)], 11, 48, [.int .u64 0, .int .u64 0, .int .u32 0, .int .u8 0, .int .u8 0, .int .u8 0, .int .u8 0, .nilFunc, .pointer none, .int .i32 0, .int .i32 0]⟩),
  (337, ⟨.struct [(12, 0), (12, 1), (27, 2), (331, 3), (5, 4), (5, 5), (332, 6), (333, 7), (285, 8), (334, 9), (335, 10)], 11, 48, [.int .u64 0, .int .u64 0, .int .u32 0, .int .u8 0, .int .u8 0, .int .u8 0, .int .u8 0, .nilFunc, .pointer none, .int .i32 0, .int .i32 0]⟩)]
theorem tok : TOk Go.Proofs.Try.prog tab := TOk_of (by kernel_rfl)
end Go.Q.Yb
